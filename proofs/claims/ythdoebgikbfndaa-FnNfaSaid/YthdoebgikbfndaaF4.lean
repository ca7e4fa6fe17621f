/- Rows of rows that are each of their own; variables that nobody writes any more; arrays. -/
import Derived.Test.YthdoebgikbfndaaF3
namespace Go.Proofs.Ythdoebgikbfndaa.E
open Go Go.RowKit
set_option linter.unusedVariables false

section
variable {P : Program} {o : Oper} {e : Env} {H : Heap} {K : AV → Heap → Prop}
def DB (ops : Array Oper) (o : Oper) (v : AV) : List (Nat × List Nat) → Prop
  | [] => True
  | d :: r => (depT ops ops.size o d.1 = true ∨ ∀ b ∈ d.2, b ∉ rowB v) ∧ DB ops o v r
def arrA (P : Program) (t : TypeId) : Option (Nat × Nat × Nat) := match P.underlying t with
  | some (.array n el) => (sizeA P el).map fun s => (n, el, s)
  | _ => none
theorem arrA_spec {t n el s : Nat} (h : arrA P t = some (n, el, s)) : P.underlying t = some (.array n el) ∧ sizeA P el = some s := by
  unfold arrA at h
  split at h
  · rename_i m el' hu
    cases hs : sizeA P el' with
    | none => rw [hs] at h; cases h
    | some s' => rw [hs] at h; simp at h; obtain ⟨rfl, rfl, rfl⟩ := h; exact ⟨hu, hs⟩
  · cases h
end

section
variable {P : Program} {n : Nat} {Q : Exit → Env → Heap → Prop} {e : Env} {H : Heap}
end

-- calls that read what is owned and hand back what is new
theorem allC {x : AV} {l : List AV} (h : x.one = true) (k : l.all AV.one = true) : (x :: l).all AV.one = true := by rw [List.all_cons, h, k]; rfl
theorem Own.scal {s : Nat} {H : Heap} {v : AV} {xs : List AV} (h : Own s H v xs) : Scal v := by
  obtain ⟨_, h2⟩ := h
  rcases h2 with ⟨rfl, _⟩ | ⟨b, q, rfl, _⟩ | ⟨b, q, cap, hi, rfl, _⟩
  · exact .nil
  · exact .slc _ _ _ _
  · exact .slc _ _ _ _
theorem Sep.scR {H : Heap} {L : List Res} (h : Sep H L) {k s : Nat} {v : AV} {xs : List AV} (hk : L[k]? = some (.row s v xs)) : Scal v := Own.scal (h.get hk : Own _ _ _ _)
def Res.scal : Res → Prop
  | .pool ps => ∀ p ∈ ps, ∀ x ∈ flat p.2, Scal x
  | .row s v xs => ∀ x ∈ flat xs, Scal x
  | .cell b cs => ∀ c ∈ cs, Scal c
  | .snap S => S = []
  | .rows s v ws xss o => o = none ∧ ∀ xs ∈ xss, ∀ x ∈ flat xs, Scal x
def AllScal : List Res → Prop
  | [] => True
  | r :: l => r.scal ∧ AllScal l
theorem AllScal.get : ∀ {L : List Res}, AllScal L → ∀ r ∈ L, r.scal
  | r :: l, ⟨h1, h2⟩, q, hq => by
    rcases List.mem_cons.mp hq with rfl | hq
    · exact h1
    · exact AllScal.get h2 q hq
theorem ScalC.nil : ∀ c ∈ ([] : List AV), Scal c := by simp
theorem ScalC.cons {x : AV} {l : List AV} (h : Scal x) (k : ∀ c ∈ l, Scal c) : ∀ c ∈ x :: l, Scal c := fun c hc => by
  rcases List.mem_cons.mp hc with rfl | hc
  · exact h
  · exact k c hc
theorem Own.scalAt {s : Nat} {G : Heap} {v : AV} {xs : List AV} (h : Own s G v xs) (hs : ∀ x ∈ flat xs, Scal x) : ∀ b ∈ rowB v, ∀ x, G b = some x → ∀ c ∈ x.cs, Scal c := by
  intro b hb x hx c hc
  obtain ⟨_, h2⟩ := h
  rcases h2 with ⟨rfl, _⟩ | ⟨b', q, rfl, _⟩ | ⟨b', q, cap, hi, rfl, g1, _⟩
  · simp [rowB] at hb
  · simp [rowB] at hb
  · have := rowB_mem hb
    subst this
    rw [g1] at hx; cases hx; exact hs c hc
theorem Res.holds.scalAt {G : Heap} {r : Res} (h : r.holds G) (hs : r.scal) : ∀ b ∈ r.blks, ∀ x, G b = some x → ∀ c ∈ x.cs, Scal c := by
  cases r with
  | row s v xs => exact Own.scalAt h hs
  | cell b cs =>
    intro b' hb x hx c hc
    obtain ⟨hi, g⟩ := h
    rw [List.mem_singleton.mp hb, g] at hx; cases hx; exact hs c hc
  | snap S =>
    intro b hb
    rw [show S = [] from hs] at hb
    simp [Res.blks] at hb
  | pool ps =>
    intro b hb
    obtain ⟨p, hp, hb⟩ := List.mem_flatMap.mp hb
    exact Own.scalAt (PoolH.all h p hp) (hs p hp) b hb
  | rows s v ws xss o =>
    have hO : OwnRows s G v ws xss o := h
    obtain ⟨rfl, hs⟩ := hs
    intro b hb x hx c hc
    rcases rowsB_mem.mp hb with hb | ⟨i, g1, g2, g3⟩
    · refine hO.outer.scalAt (fun y hy => ?_) b hb x hx c hc
      obtain ⟨w, hw, hy⟩ := List.mem_flatMap.mp hy
      obtain ⟨i, hi, rfl⟩ := List.getElem_of_mem hw
      have hI := hO.inner i hi (by simp)
      have e : ws.getD i .undef = ws[i] := by simp [List.getD_eq_getElem?_getD, hi]
      rw [e] at hI
      rw [hI.cells, List.mem_singleton] at hy
      rw [hy]; exact hI.scal
    · have hi : i < xss.length := by rw [← hO.len]; exact g1
      refine (hO.inner i g1 g2).scalAt (fun y hy => hs _ ?_ y hy) b g3 x hx c hc
      simp [List.getD_eq_getElem?_getD, hi]
theorem HS.read {P : Program} {f : FuncId} {as bs : List AV} {R : AV → List Res → Prop} {H : Heap} {F : List Res} (h : HS P f bs [] R) (hab : RAs H as bs) (hF : Sep H F) (hs : ∀ v L' G, R v L' → Sep G L' → Scal v ∧ AllScal L') : HC P f as H fun v K => ∃ L', R v L' ∧ (∀ c x, H c = some x → K c = some x) ∧ Sep K (L' ++ F) := by
  have h0 : HC P f bs (fun _ => none) fun v G => ∃ L', R v L' ∧ Sep G L' ∧ ∀ c, c ∉ L'.flatMap Res.blks → G c = none :=
    HC.forget (h (fun _ => none) [] ⟨fun q hq => by simp at hq, by simp, trivial⟩) fun v G ⟨L', g1, g2⟩ => by
      have g3 := g2.append
      refine ⟨fun c => if c ∈ L'.flatMap Res.blks then G c else none, fun c x (hc : (if c ∈ L'.flatMap Res.blks then G c else none) = some x) => (by split at hc; exact hc; cases hc), L', g1, g3.keep fun r hr c hc x hx => ?_, fun c hc => if_neg hc⟩
      show (if c ∈ L'.flatMap Res.blks then G c else none) = some x
      rw [if_pos (List.mem_flatMap.mpr ⟨r, hr, hc⟩)]; exact hx
  refine (HC.frameR h0 hab fun v G ⟨L', g1, g2, g3⟩ => ?_).mono fun v K ⟨G, h1, h2⟩ => ?_
  · obtain ⟨s1, s2⟩ := hs v L' G g1 g2
    refine ⟨s1, fun b x hx c hc => ?_⟩
    by_cases hb : b ∈ L'.flatMap Res.blks
    · obtain ⟨r, r1, r2⟩ := List.mem_flatMap.mp hb
      exact (g2.all r r1).scalAt (s2.get r r1) b r2 x hx c hc
    · rw [g3 b hb] at hx; cases hx
  · obtain ⟨L', g1, g2, g3⟩ := h1
    refine ⟨L', g1, h2.1, Sep.split.mpr ⟨g2.keep fun r hr c hc x hx => (h2.2 c x hx).1, hF.grow h2.1, fun r hr q hq c hc hc' => ?_⟩⟩
    obtain ⟨x, hx⟩ := (g2.all r hr).has hc
    exact (hF.all q hq).alive hc' (h2.2 c x hx).2
section
variable {P : Program} {o : Oper} {e : Env} {H : Heap} {K : AV → Heap → Prop}
theorem hCallSR {A : List Res} (hS : Sep H A) {fo : Operand} {as : Array Operand} {ts : Array TypeId} {f : FuncId} {first caps bs : List AV} {R : AV → List Res → Prop} (ho : o.op = .call ⟨.value fo, as, ts⟩) (hf : ev e fo = .fn (.func f) first caps)
    (hc : callable P f = true) (h : HS P f bs [] R) (hb : RASs A (first ++ as.toList.map (ev e) ++ caps) bs) (hs : ∀ v L' G, R v L' → Sep G L' → Scal v ∧ AllScal L') (k : ∀ v L' G, R v L' → (∀ c x, H c = some x → G c = some x) → Sep G (L' ++ A) → K v G) : Heavy P o e H K :=
  opCall ho hf hc ((HS.read h (hb.to hS.all) hS hs).mono fun v G ⟨L', g1, g2, g3⟩ => k v L' G g1 g2 g3)
end
end Go.Proofs.Ythdoebgikbfndaa.E
