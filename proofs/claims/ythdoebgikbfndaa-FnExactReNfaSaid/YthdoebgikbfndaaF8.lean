/- What is appended to, and written no more from then on. -/
import Derived.Test.YthdoebgikbfndaaF7
namespace Go.Proofs.Ythdoebgikbfndaa.E
open Go Go.RowKit
set_option linter.unusedVariables false
theorem frzOwn {B : Base} {ι : Imm} {G : Heap} {w : World} (hr : Rel B ι G w) {s : Nat} {v : AV} {xs : List AV} (hO : Own s G v xs) : ∃ κ G', ι.le κ ∧ Rel B κ G' w ∧ (∀ u, V κ v u → V κ (.list s xs) u) ∧ ∀ c x, c ∉ rowB v → G c = some x → G' c = some x := by
  obtain ⟨h1, h2⟩ := hO
  rcases h2 with ⟨rfl, rfl⟩ | ⟨b, q, rfl, rfl⟩ | ⟨b, q, cap, hi, rfl, g1, g2, g3, g4⟩
  · exact ⟨ι, G, Imm.le_refl _, hr, fun u hu => by rw [hu.nil_inv]; exact .listNil s _ _, fun c x _ h => h⟩
  · exact ⟨ι, G, Imm.le_refl _, hr, fun u hu => by rw [hu.slc_inv]; exact V.listNil' _ _ _ _ _, fun c x _ h => h⟩
  · obtain ⟨κ, f1, f2, f3⟩ := hr.freeze g1
    refine ⟨κ, G.del b, f1, f2, fun u hu => Fz.V f3 (.row rfl g3 h1 rfl) hu, fun c x hc h => ?_⟩
    rw [Heap.del_ne]
    · exact h
    · intro k; subst k; exact hc (by simp [rowB]; omega)
section
variable {P : Program} {o : Oper} {e : Env} {H : Heap} {K : AV → Heap → Prop}
theorem hAppF {L : List Res} (hS : Sep H L) {α : Type} {f : α → AV} {ws us zs : List α} {j : Nat} {x y : Operand} {t t' el s yb : Nat} {z : Value} {v : AV} (hk : L[j]? = some (.row s v (zs.map f))) (ha : app yb zs ws = some us) (ho : o.op = .call ⟨.builtin .append, #[x, y], #[t, t']⟩) (ht : elemA P t = some el) (ht' : t' = t) (hs : sizeA P el = some s)
    (hb : bytesA P el = some yb) (hz : zeroA P el = some z) (hzs : z.cells.size = s) (hx : ev e x = v) (hy : ev e y = .list s (ws.map f)) (h1 : ∀ a, (cells (f a)).all AV.one = true)
    (h : ∀ G, Beside v H G → Sep G (L.eraseIdx j) → K (.list s (us.map f)) G) : Heavy P o e H K := by
  have hA : Heavy P o e H fun v' G => Own s G v' (us.map f) ∧ Beside v H G ∧ ∀ c ∈ rowB v', c ∈ rowB v ∨ H c = none := by
    obtain ⟨g1, g2, rfl⟩ := appE ha
    refine opAppend ho ht ht' hs hb hz hzs hx (hS.get hk : Own _ _ _ _) hy ?_ (by simpa using g1) (by simpa using g2) fun v' G hO hB hn => ⟨by rw [List.map_append]; exact hO, fun c x hc hx => hB c x hc hx, hn⟩
    rw [List.all_eq_true]
    intro x hx
    simp only [flat, List.mem_flatMap, List.mem_map] at hx
    obtain ⟨_, ⟨a, _, rfl⟩, hx⟩ := hx
    exact List.all_eq_true.mp (h1 a) x hx
  intro e' he B ι a w n hr hE next Q hq
  refine hA e' he B ι a w n hr hE next Q ?_
  rintro v' r w' κ G ⟨hO, hB, hn⟩ hV hle hrG
  obtain ⟨μ, G', k1, k2, k3, k4⟩ := frzOwn hrG hO
  have hbes : Beside v H G' := fun c x hc hx => k4 c x (fun hc' => (hn c hc').elim hc (fun e => by rw [hx] at e; cases e)) (hB c x hc hx)
  obtain ⟨e1, e2⟩ := hS.erase hk
  refine hq _ r w' μ G' (h G' hbes (e1.keep fun q hq c hc x hx => hbes c x (fun g => e2 q hq c g hc) hx)) (k3 r (hV.mono k1)) (Imm.le_trans hle k1) k2
end
end Go.Proofs.Ythdoebgikbfndaa.E
