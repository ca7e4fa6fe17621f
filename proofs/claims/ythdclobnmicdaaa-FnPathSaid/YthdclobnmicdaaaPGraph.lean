/- Graphs: built, turned, searched, told into rings. -/
import Derived.Test.YthdclobnmicdaaaDPath
import Derived.Test.YthdclobnmicdaaaPBfs
import Derived.Test.YthdclobnmicdaaaPCnt
namespace Go.Proofs.Ythdclobnmicdaaa
open Go Go.RowKit E
set_option linter.unusedVariables false

abbrev ints (q : List Nat) : List Int := List.map (β := Int) (fun v : Nat => (v : Int)) q
theorem WS {k : Nat} (h : k < 9223372036854775807) : W ((k : Int) + 1) = ((k + 1 : Nat) : Int) := W_nat h
theorem WE {a : Int} (h : -9223372036854775808 ≤ a) (k : a ≤ 9223372036854775807) : W a = a := W_eq h k
theorem ints_get {q : List Nat} {i : Nat} (h : i < q.length) : ix (ints q) (i : Int) = some ((q.getD i 0 : Nat) : Int) := by
  rw [ix_nat (by simpa using h)]
  simp [List.getD_eq_getElem?_getD, h]
theorem ints_snoc (q : List Nat) (v : Nat) : ints (q ++ [v]) = ints q ++ [(v : Int)] := by simp
/-- A row filled with one value. -/
theorem fill_loop {α : Type} (z c : α) (n : Nat) {body : List α × Int → Option ((List α × Int) ⊕ List α)} (go : ∀ (k : Nat) (y : List α), k < n → y.length = n → body (y, (k : Int)) = some (.inl (y.set k c, ((k + 1 : Nat) : Int))))
    (fin : ∀ y : List α, y.length = n → body (y, (n : Int)) = some (.inr y)) : loop body (List.replicate n z, 0) = some (List.replicate n c) := by
  have h1 := loop_up (body := body) n (fun k => (List.replicate k c ++ List.replicate (n - k) z, (k : Int))) (List.replicate n c) (fun k hk => ?_) ?_ 0 (Nat.zero_le _)
  · simpa using h1
  · rw [go k _ hk (by simp; omega), List.set_append_right _ _ (by simp), show n - k = (n - (k + 1)) + 1 by omega, List.replicate_succ, List.length_replicate, Nat.sub_self, List.set_cons_zero, List.replicate_succ']
    simp
  · have := fin (List.replicate n c ++ List.replicate (n - n) z) (by simp)
    simpa using this
/-- Points marked by a loop over a list. -/
theorem pour_loop {β : Type} [Inhabited β] (l : List β) (tgt : β → Nat) (d : Int) (M : Nat) (J : List Int → Prop) {body : List Int × List Int × Int → Option ((List Int × List Int × Int) ⊕ (List Int × List Int))}
    (hJ : ∀ out u, J out → u < out.length → out.getD u default < 0 → J (out.set u d)) (htgt : ∀ out, J out → ∀ a ∈ l, tgt a < out.length)
    (go : ∀ (k : Nat) (out : List Int) (q : List Nat), k < l.length → J out → q.length ≤ M + k → body (out, ints q, (k : Int)) = some (.inl (if out.getD (tgt (l.getD k default)) default < 0 then (out.set (tgt (l.getD k default)) d, ints (q ++ [tgt (l.getD k default)]), ((k + 1 : Nat) : Int)) else (out, ints q, ((k + 1 : Nat) : Int)))))
    (fin : ∀ out q, J out → body (out, q, (l.length : Int)) = some (.inr (out, q))) (out : List Int) (q : List Nat) (hout : J out) (hq : q.length ≤ M) : loop body (out, ints q, 0) = some ((pour d (l.map tgt) (out, q)).1, ints (pour d (l.map tgt) (out, q)).2) := by
  have key : ∀ post pre, l = pre ++ post → ∀ (out : List Int) (q : List Nat), J out → q.length ≤ M + pre.length → loop body (out, ints q, (pre.length : Int)) = some ((pour d (post.map tgt) (out, q)).1, ints (pour d (post.map tgt) (out, q)).2) := by
    intro post
    induction post with
    | nil => intro pre h out q h1 h2; simp at h; subst h; exact loop_end (fin out _ h1)
    | cons a post ih =>
      intro pre h out q h1 h2
      have hk : pre.length < l.length := by rw [h]; simp
      have ha : l.getD pre.length default = a := by rw [h]; simp
      have hm : a ∈ l := by rw [h]; simp
      have hg := go pre.length out q hk h1 h2
      rw [ha] at hg
      have e : (((pre.length + 1 : Nat) : Int)) = ((pre ++ [a]).length : Int) := by simp
      rw [List.map_cons]
      unfold pour
      dsimp only
      by_cases c : out.getD (tgt a) default < 0
      · rw [if_pos c] at hg ⊢
        rw [loop_go hg, e]
        exact ih (pre ++ [a]) (by rw [h]; simp) _ _ (hJ out _ h1 (htgt out h1 a hm) c) (by simp; omega)
      · rw [if_neg c] at hg ⊢
        rw [loop_go hg, e]
        exact ih (pre ++ [a]) (by rw [h]; simp) _ _ h1 (by simp; omega)
  exact key l [] rfl out q hout (by simpa using hq)

/-- A right graph. -/
structure GOk (g : List (List Tstep)) : Prop where
  len : g.length ≤ 1000000
  row : ∀ v, v < g.length → (g.getD v default).length ≤ 1000000
  to_ : ∀ v, v < g.length → ∀ s ∈ g.getD v default, 0 ≤ s.to_ ∧ s.to_ < g.length
def adjG (g : List (List Tstep)) (v : Nat) : List Nat := (g.getD v default).map fun s => s.to_.toNat
theorem GOk.adj {g : List (List Tstep)} (h : GOk g) : ∀ a, a < g.length → ∀ b ∈ adjG g a, b < g.length := by
  intro a ha b hb
  obtain ⟨s, hs, rfl⟩ := List.mem_map.mp hb
  have := h.to_ a ha s hs
  omega
theorem getD_memL {α : Type} [Inhabited α] {xs : List α} {j : Nat} (h : j < xs.length) : xs.getD j default ∈ xs := by simp [List.getD_eq_getElem?_getD, h]

/-- How far points are. -/
theorem far_eq {g : List (List Tstep)} (h : GOk g) {src : List Nat} (hs : ∀ a ∈ src, a < g.length) (hl : src.length ≤ 1000000) : ∃ out, impl_graph_far ⟨g⟩ (ints src) = some out ∧ IsFar (adjG g) g.length src out := by
  have hlen := h.len
  unfold impl_graph_far
  dsimp only
  rw [mk_ok (by omega) (by omega), Option.bind_some, Int.toNat_natCast, fill_loop (0 : Int) (-1) g.length (fun k y hk hy => by
    unfold impl_graph_far.b3
    rw [if_pos (by simp; omega)]
    dsimp only
    rw [ck_nat (by omega), Option.bind_some, WS (by omega)]) (fun y hy => by unfold impl_graph_far.b3; rw [if_neg (by simp)]), Option.bind_some]
  unfold impl_graph_far.k0
  have e1 := pour_loop (body := fun s : List Int × List Int × Int => impl_graph_far.b2 (ints src) s.1 s.2.1 s.2.2) src (fun v => v) 0 0 (fun out => out.length = g.length) (fun out u h1 _ _ => by simpa using h1) (fun out h1 a ha => by rw [h1]; exact hs a ha) (fun k out q hk h1 hq => ?_) (fun out q h1 => by unfold impl_graph_far.b2; rw [if_neg (by simp)]) (List.replicate g.length (-1)) [] (by simp) (by simp)
  · rw [show (ints ([] : List Nat)) = [] from rfl] at e1
    rw [e1, Option.bind_some]
    unfold impl_graph_far.k1
    rw [List.map_id']
    have hB := Bfs.start (adj := adjG g) hs
    have key := loop_inv (body := fun s : List Int × List Int × Int => impl_graph_far.b0 ⟨g⟩ s.1 s.2.1 s.2.2) (fun s => ∃ out q i, s = (out, ints q, ((i : Nat) : Int)) ∧ Bfs (adjG g) g.length src i (out, q) ∧ i ≤ q.length) (fun s => g.length - s.2.2.toNat) (fun r => IsFar (adjG g) g.length src r) ?_ (s := ((pour 0 src (List.replicate g.length (-1), [])).1, ints (pour 0 src (List.replicate g.length (-1), [])).2, 0)) ⟨_, _, 0, rfl, hB, Nat.zero_le _⟩
    · obtain ⟨r, h1, h2⟩ := key
      rw [h1, Option.bind_some]
      exact ⟨r, rfl, h2⟩
    · rintro _ ⟨out, q, i, rfl, hB, hi⟩
      have hsh := hB.short
      dsimp only at hsh ⊢
      by_cases c : i < q.length
      · right
        obtain ⟨hst, r, hr⟩ := hB.step c h.adj
        have hp : q.getD i 0 < g.length := hB.lt _ (getD_mem c)
        have hp0 := (hB.mem _ hp).mpr (getD_mem c)
        have hsm := hB.small i c
        have hlo : out.length = g.length := hB.len
        dsimp only at hp0 hsm
        have hrow := h.row _ hp
        have e2 := pour_loop (body := fun s : List Int × List Int × Int => impl_graph_far.b1 (g.getD (q.getD i 0) default) ((q.getD i 0 : Nat) : Int) s.1 s.2.1 s.2.2) (g.getD (q.getD i 0) default) (fun s => s.to_.toNat) (out.getD (q.getD i 0) default + 1) 1000000 (fun o => o.length = g.length ∧ o.getD (q.getD i 0) default = out.getD (q.getD i 0) default)
          (fun o u h1 hu hneg => ⟨by simpa using h1.1, by rw [getD_set hu, if_neg (fun e => by subst e; omega)]; exact h1.2⟩) (fun o h1 a ha => by have := h.to_ _ hp a ha; rw [h1.1]; omega) (fun k o q' hk h1 hq => ?_) (fun o q h1 => by unfold impl_graph_far.b1; rw [if_neg (by simp)]) out q ⟨hlo, rfl⟩ (by omega)
        · refine ⟨(_, _, ((i + 1 : Nat) : Int)), ?_, ⟨_, _, i + 1, rfl, hst, by rw [hr]; simp; omega⟩, ?_⟩
          · unfold impl_graph_far.b0
            rw [if_pos (by simp; omega), ints_get c, Option.bind_some, ix_nat hp, Option.bind_some, e2, Option.bind_some]
            unfold impl_graph_far.k3
            rw [WS (by omega)]
            rfl
          · dsimp only; omega
        · have hm := getD_memL hk
          have hto := h.to_ _ hp _ hm
          have h1a : o.length = g.length := h1.1
          have h1b : o.getD (q.getD i 0) default = out.getD (q.getD i 0) default := h1.2
          unfold impl_graph_far.b1
          rw [if_pos (by dsimp only; omega)]
          dsimp only
          rw [ix_nat hk, Option.bind_some, ix_ok hto.1 (by omega), Option.bind_some]
          by_cases c2 : o.getD ((g.getD (q.getD i 0) default).getD k default).to_.toNat default < 0
          · rw [if_pos c2, if_pos c2, ix_nat (by omega), Option.bind_some, ck_ok hto.1 (by omega), Option.bind_some, app_small (by simp; omega) (by decide), Option.bind_some, h1b, show W (out.getD (q.getD i 0) default + 1) = out.getD (q.getD i 0) default + 1 from W_eq (by omega) (by omega), WS (by omega)]
            rw [ints_snoc, Int.toNat_of_nonneg hto.1]
          · rw [if_neg c2, if_neg c2, WS (by omega)]
      · left
        refine ⟨out, ?_, hB.far (by dsimp only; omega) hs h.adj⟩
        unfold impl_graph_far.b0
        rw [if_neg (by simp; omega)]
  · unfold impl_graph_far.b2
    rw [if_pos (by simp; omega), ints_get hk, Option.bind_some]
    have ha : src.getD k 0 < g.length := hs _ (getD_mem hk)
    have h1a : out.length = g.length := h1
    have hd : src.getD k default = src.getD k 0 := rfl
    simp only [hd]
    rw [ix_nat (by omega), Option.bind_some]
    by_cases c : out.getD (src.getD k 0) default < 0
    · rw [if_pos c, if_pos c, ck_nat (by omega), Option.bind_some, app_small (by simp; omega) (by decide), Option.bind_some, WS (by omega)]
      simp
    · rw [if_neg c, if_neg c, WS (by omega)]
end Go.Proofs.Ythdclobnmicdaaa
