/- How far points are: a search in breadth tells the least numbers of steps. -/
import Derived.Test.YthdclobnmicdaaaPRch
namespace Go.Proofs.Ythdclobnmicdaaa
open Go Go.RowKit E
set_option linter.unusedVariables false

/-- d steps lead from a to b. -/
inductive Walk (adj : Nat → List Nat) (a : Nat) : Nat → Nat → Prop where
  | zero : Walk adj a a 0
  | snoc {b c d : Nat} (h : Walk adj a b d) (k : c ∈ adj b) : Walk adj a c (d + 1)
section
variable {adj : Nat → List Nat}
theorem Walk.rch {a b d : Nat} (h : Walk adj a b d) : Rch adj a b := by
  induction h with
  | zero => exact .refl a
  | snoc _ k ih => exact ih.snoc k
theorem Walk.cons {a b c d : Nat} (h : b ∈ adj a) (k : Walk adj b c d) : Walk adj a c (d + 1) := by
  induction k with
  | zero => exact .snoc .zero h
  | snoc _ g ih => exact .snoc ih g
theorem Rch.walk {a b : Nat} (h : Rch adj a b) : ∃ d, Walk adj a b d := by
  induction h with
  | refl a => exact ⟨0, .zero⟩
  | head h _ ih => obtain ⟨d, g⟩ := ih; exact ⟨d + 1, .cons h g⟩

/-- For each point how far it is from the nearest of some; -1: steps do not lead there. -/
structure IsFar (adj : Nat → List Nat) (n : Nat) (src : List Nat) (out : List Int) : Prop where
  len : out.length = n
  val : ∀ v, v < n → (out.getD v default = -1 ∧ ∀ s ∈ src, ¬ Rch adj s v) ∨ ∃ d : Nat, out.getD v default = d ∧ (∃ s, s ∈ src ∧ Walk adj s v d) ∧ ∀ s ∈ src, ∀ m, Walk adj s v m → d ≤ m
theorem IsFar.unique {n : Nat} {src src' : List Nat} {adj' : Nat → List Nat} {out out' : List Int} (h : IsFar adj n src out) (h' : IsFar adj' n src' out') (hs : ∀ s, s ∈ src ↔ s ∈ src') (hw : ∀ s ∈ src, ∀ v d, Walk adj s v d ↔ Walk adj' s v d) : out = out' := by
  have e : ∀ v, v < n → out.getD v default = out'.getD v default := by
    intro v hv
    rcases h.val v hv with ⟨g1, g2⟩ | ⟨d, g1, ⟨s, g2, g3⟩, g4⟩
    · rcases h'.val v hv with ⟨k1, k2⟩ | ⟨d, k1, ⟨s, k2, k3⟩, k4⟩
      · omega
      · exact absurd ((hw s ((hs s).mpr k2) v d).mpr k3).rch (g2 s ((hs s).mpr k2))
    · rcases h'.val v hv with ⟨k1, k2⟩ | ⟨d', k1, ⟨s', k2, k3⟩, k4⟩
      · exact absurd ((hw s g2 v d).mp g3).rch (k2 s ((hs s).mp g2))
      · have a1 := g4 s' ((hs s').mpr k2) d' ((hw s' ((hs s').mpr k2) v d').mpr k3)
        have a2 := k4 s ((hs s).mp g2) d ((hw s g2 v d).mp g3)
        omega
  refine List.ext_getElem (by rw [h.len, h'.len]) fun i h1 h2 => ?_
  have := e i (by rw [← h.len]; exact h1)
  simpa [List.getD_eq_getElem?_getD, h1, h2] using this

/-- The search, under way: the points up to i were looked at. -/
structure Bfs (adj : Nat → List Nat) (n : Nat) (src : List Nat) (i : Nat) (s : List Int × List Nat) : Prop where
  len : s.1.length = n
  nd : s.2.Nodup
  mem : ∀ v, v < n → (0 ≤ s.1.getD v default ↔ v ∈ s.2)
  lt : ∀ v ∈ s.2, v < n
  neg : ∀ v, v < n → s.1.getD v default < 0 → s.1.getD v default = -1
  walk : ∀ v ∈ s.2, ∃ a, a ∈ src ∧ Walk adj a v (s.1.getD v default).toNat
  src0 : ∀ a ∈ src, s.1.getD a default = 0
  mono : ∀ j k, j ≤ k → k < s.2.length → s.1.getD (s.2.getD j 0) default ≤ s.1.getD (s.2.getD k 0) default
  top : i < s.2.length → ∀ k, k < s.2.length → s.1.getD (s.2.getD k 0) default ≤ s.1.getD (s.2.getD i 0) default + 1
  small : ∀ j, j < s.2.length → s.1.getD (s.2.getD j 0) default ≤ j
  done : ∀ j, j < i → j < s.2.length → ∀ u ∈ adj (s.2.getD j 0), 0 ≤ s.1.getD u default ∧ s.1.getD u default ≤ s.1.getD (s.2.getD j 0) default + 1
variable {n : Nat} {src : List Nat}
theorem getD_snoc {xs : List Nat} {a j : Nat} : (xs ++ [a]).getD j 0 = if j < xs.length then xs.getD j 0 else if j = xs.length then a else 0 := by
  simp only [List.getD_eq_getElem?_getD]
  split
  · rename_i h; rw [List.getElem?_append_left h]
  · rename_i h
    rw [List.getElem?_append_right (by omega)]
    split
    · rename_i e; subst e; simp
    · have : j - xs.length ≠ 0 := by omega
      cases hq : j - xs.length with
      | zero => exact absurd hq this
      | succ m => simp
theorem getD_mem {xs : List Nat} {j : Nat} (h : j < xs.length) : xs.getD j 0 ∈ xs := by simp [List.getD_eq_getElem?_getD, h]
/-- The beginning. -/
theorem Bfs.start (hsrc : ∀ a ∈ src, a < n) : Bfs adj n src 0 (pour 0 src (List.replicate n (-1), [])) := by
  have e0 : ∀ v, v < n → (List.replicate n (-1 : Int)).getD v default = -1 := fun v hv => by simp [List.getD_eq_getElem?_getD, List.getElem?_replicate, hv]
  have key := pour_ind (d := 0) (by decide) (fun s : List Int × List Nat => s.1.length = n ∧ s.2.Nodup ∧ (∀ v, v < n → (0 ≤ s.1.getD v default ↔ v ∈ s.2)) ∧ (∀ v ∈ s.2, v < n ∧ v ∈ src) ∧ (∀ v, v < n → s.1.getD v default = -1 ∨ s.1.getD v default = 0)) src (List.replicate n (-1), []) (fun u hu => by simpa using hsrc u hu)
    (fun out q u ho hu hneg ⟨h1, h2, h3, h4, h5⟩ => ?_) ⟨by simp, by simp, fun v hv => by dsimp only; rw [e0 v hv]; simp, by simp, fun v hv => .inl (e0 v hv)⟩
  · obtain ⟨⟨h1, h2, h3, h4, h5⟩, hall⟩ := key
    have z : ∀ v ∈ (pour 0 src (List.replicate n (-1), [])).2, (pour 0 src (List.replicate n (-1), [])).1.getD v default = 0 := fun v hv => by
      have a := (h3 v (h4 v hv).1).mpr hv
      rcases h5 v (h4 v hv).1 with g | g <;> omega
    refine ⟨h1, h2, h3, fun v hv => (h4 v hv).1, fun v hv g => ?_, fun v hv => ⟨v, (h4 v hv).2, ?_⟩, fun a ha => ?_, fun j k hj hk => ?_, fun hi k hk => ?_, fun j hj => ?_, fun j hj => absurd hj (by omega)⟩
    · rcases h5 v hv with g1 | g1 <;> omega
    · rw [z v hv]; exact .zero
    · exact z a ((h3 a (hsrc a ha)).mp (hall a ha))
    · rw [z _ (getD_mem (by omega)), z _ (getD_mem hk)]; omega
    · rw [z _ (getD_mem hk), z _ (getD_mem hi)]; omega
    · rw [z _ (getD_mem hj)]; omega
  · dsimp only at h1 h2 h3 h4 h5 ⊢
    have hun := hsrc u hu
    have hnq : u ∉ q := fun g => by have := (h3 u hun).mpr g; omega
    refine ⟨by simpa using h1, ?_, fun v hv => ?_, fun v hv => ?_, fun v hv => ?_⟩
    · rw [List.nodup_append]; exact ⟨h2, by simp, fun a ha b hb e => hnq (by rw [List.mem_singleton] at hb; rw [← hb, ← e]; exact ha)⟩
    · rw [getD_set (by omega), List.mem_append, List.mem_singleton]
      by_cases e : u = v
      · subst e; simp
      · rw [if_neg e, h3 v hv]; constructor
        · exact .inl
        · rintro (g | g)
          · exact g
          · exact absurd g.symm e
    · rcases List.mem_append.mp hv with g | g
      · exact h4 v g
      · rw [List.mem_singleton.mp g]; exact ⟨hun, hu⟩
    · rw [getD_set (by omega)]
      split
      · exact .inr rfl
      · exact h5 v hv
/-- One point is looked at. -/
theorem Bfs.step {out : List Int} {q : List Nat} {i : Nat} (h : Bfs adj n src i (out, q)) (hi : i < q.length) (hadj : ∀ a, a < n → ∀ b ∈ adj a, b < n) :
    Bfs adj n src (i + 1) (pour (out.getD (q.getD i 0) default + 1) (adj (q.getD i 0)) (out, q)) ∧ ∃ r, (pour (out.getD (q.getD i 0) default + 1) (adj (q.getD i 0)) (out, q)).2 = q ++ r := by
  have hp : q.getD i 0 ∈ q := getD_mem hi
  have hpn := h.lt _ hp
  have hp0 := (h.mem _ hpn).mpr hp
  have hlen := h.len
  dsimp only at hlen hp0
  have key := pour_ind (d := out.getD (q.getD i 0) default + 1) (by omega) (fun s : List Int × List Nat => (Bfs adj n src i s ∧ (∀ v ∈ q, s.1.getD v default = out.getD v default)) ∧ ∃ r, s.2 = q ++ r) (adj (q.getD i 0)) (out, q) (fun u hu => by dsimp only; rw [hlen]; exact hadj _ hpn u hu)
    (fun o s u ho hu hneg ⟨⟨hB, hkq⟩, r, hr⟩ => ?_) ⟨⟨h, fun _ _ => rfl⟩, [], by simp⟩
  · obtain ⟨⟨⟨hB, hkq⟩, r, hr⟩, hall⟩ := key
    refine ⟨⟨hB.len, hB.nd, hB.mem, hB.lt, hB.neg, hB.walk, hB.src0, hB.mono, fun hi' k hk => ?_, hB.small, fun j hj hjl u hu => ?_⟩, r, hr⟩
    · have hil : i < (pour (out.getD (q.getD i 0) default + 1) (adj (q.getD i 0)) (out, q)).2.length := by omega
      have a1 := hB.top hil k hk
      have a2 := hB.mono i (i + 1) (by omega) hi'
      omega
    · by_cases e : j < i
      · exact hB.done j e hjl u hu
      · obtain rfl : j = i := by omega
        have e1 : (pour (out.getD (q.getD j 0) default + 1) (adj (q.getD j 0)) (out, q)).2.getD j 0 = q.getD j 0 := by rw [hr]; simp [List.getD_eq_getElem?_getD, List.getElem?_append_left hi]
        rw [e1] at hu ⊢
        have a1 := hall u hu
        have hun := hadj _ hpn u hu
        refine ⟨a1, ?_⟩
        obtain ⟨k, hk, hk2⟩ := List.getElem_of_mem ((hB.mem u hun).mp a1)
        have hk3 : (pour (out.getD (q.getD j 0) default + 1) (adj (q.getD j 0)) (out, q)).2.getD k 0 = u := by rw [List.getD_eq_getElem?_getD, List.getElem?_eq_getElem hk, hk2]; rfl
        have a2 := hB.top hjl k hk
        rw [hk3, e1] at a2
        exact a2
  · dsimp only at hneg hr hkq ⊢
    have hlo : o.length = n := hB.len
    have hun := hadj _ hpn u hu
    have hnq : u ∉ s := fun g => by have := (hB.mem u hun).mpr g; dsimp only at this; omega
    have hsi : s.getD i 0 = q.getD i 0 := by rw [hr]; simp [List.getD_eq_getElem?_getD, List.getElem?_append_left hi]
    have hpo : o.getD (q.getD i 0) default = out.getD (q.getD i 0) default := hkq _ hp
    have hne : ∀ v ∈ s, (o.set u (out.getD (q.getD i 0) default + 1)).getD v default = o.getD v default := fun v hv => by
      rw [getD_set (by omega), if_neg]; intro e; subst e; exact hnq hv
    have hnew : (o.set u (out.getD (q.getD i 0) default + 1)).getD u default = out.getD (q.getD i 0) default + 1 := by rw [getD_set (by omega), if_pos rfl]
    have hil : i < s.length := by rw [hr]; simp; omega
    have htop := hB.top hil
    dsimp only at htop
    rw [hsi, hpo] at htop
    have hps : q.getD i 0 ∈ s := by rw [hr]; exact List.mem_append_left _ hp
    refine ⟨⟨⟨by simpa using hlo, ?_, fun v hv => ?_, fun v hv => ?_, fun v hv g => ?_, fun v hv => ?_, fun a ha => ?_, fun j k hj hk => ?_, fun _ k hk => ?_, fun j hj => ?_, fun j hj hjl x hx => ?_⟩, fun v hv => ?_⟩, r ++ [u], by rw [hr]; simp⟩
    · dsimp only; rw [List.nodup_append]; exact ⟨hB.nd, by simp, fun a ha b hb e => hnq (by rw [List.mem_singleton] at hb; rw [← hb, ← e]; exact ha)⟩
    · dsimp only; rw [List.mem_append, List.mem_singleton]
      by_cases e : u = v
      · subst e; rw [hnew]; constructor
        · exact fun _ => .inr rfl
        · exact fun _ => by omega
      · rw [getD_set (by omega), if_neg e]
        have := hB.mem v hv
        dsimp only at this
        rw [this]; constructor
        · exact .inl
        · rintro (g | g)
          · exact g
          · exact absurd g.symm e
    · dsimp only at hv; rcases List.mem_append.mp hv with g | g
      · exact hB.lt v g
      · rw [List.mem_singleton.mp g]; exact hun
    · dsimp only at g ⊢
      rw [getD_set (by omega)] at g ⊢
      split
      · rename_i e; rw [if_pos e] at g; omega
      · rename_i e; rw [if_neg e] at g; exact hB.neg v hv g
    · dsimp only at hv ⊢
      rcases List.mem_append.mp hv with g | g
      · rw [hne v g]; exact hB.walk v g
      · rw [List.mem_singleton.mp g, hnew]
        obtain ⟨a, a1, a2⟩ := hB.walk _ hps
        dsimp only at a2
        rw [hpo] at a2
        refine ⟨a, a1, ?_⟩
        have : (out.getD (q.getD i 0) default + 1).toNat = (out.getD (q.getD i 0) default).toNat + 1 := by omega
        rw [this]; exact .snoc a2 hu
    · dsimp only
      have := hB.src0 a ha
      dsimp only at this
      rw [getD_set (by omega), if_neg (fun e => by subst e; omega)]; exact this
    · dsimp only at hk ⊢
      have hk' : k < s.length + 1 := by simpa using hk
      rw [getD_snoc, getD_snoc]
      by_cases e : k < s.length
      · rw [if_pos (by omega), if_pos e, hne _ (getD_mem (by omega)), hne _ (getD_mem e)]; exact hB.mono j k hj e
      · rw [if_neg e, if_pos (show k = s.length by omega), hnew]
        by_cases e' : j < s.length
        · rw [if_pos e', hne _ (getD_mem e')]; exact htop j e'
        · rw [if_neg e', if_pos (show j = s.length by omega), hnew]; omega
    · dsimp only at hk ⊢
      have hk' : k < s.length + 1 := by simpa using hk
      rw [getD_snoc, getD_snoc, if_pos hil, hne _ (getD_mem hil), hsi, hpo]
      by_cases e : k < s.length
      · rw [if_pos e, hne _ (getD_mem e)]; exact htop k e
      · rw [if_neg e, if_pos (show k = s.length by omega), hnew]; omega
    · dsimp only at hj ⊢
      have hj' : j < s.length + 1 := by simpa using hj
      rw [getD_snoc]
      by_cases e : j < s.length
      · rw [if_pos e, hne _ (getD_mem e)]; exact hB.small j e
      · rw [if_neg e, if_pos (show j = s.length by omega), hnew]
        have := hB.small i hil
        dsimp only at this
        rw [hsi, hpo] at this
        omega
    · dsimp only at hjl hx ⊢
      have hjs : j < s.length := by omega
      rw [getD_snoc, if_pos hjs] at hx ⊢
      have := hB.done j hj hjs x hx
      dsimp only at this
      rw [hne _ (getD_mem hjs), getD_set (by omega), if_neg (fun e => by subst e; omega)]
      exact this
    · rw [hne v (by rw [hr]; exact List.mem_append_left _ hv)]; exact hkq v hv
/-- The end. -/
theorem Bfs.far {s : List Int × List Nat} {i : Nat} (h : Bfs adj n src i s) (hi : s.2.length ≤ i) (hsrc : ∀ a ∈ src, a < n) (hadj : ∀ a, a < n → ∀ b ∈ adj a, b < n) : IsFar adj n src s.1 := by
  have hw : ∀ a ∈ src, ∀ v m, Walk adj a v m → v < n ∧ 0 ≤ s.1.getD v default ∧ s.1.getD v default ≤ m := by
    intro a ha v m hm
    induction hm with
    | zero => rw [h.src0 a ha]; exact ⟨hsrc a ha, by omega, by omega⟩
    | @snoc b c d hb hc ih =>
      obtain ⟨i1, i2, i3⟩ := ih
      obtain ⟨j, hj, hjb⟩ := List.getElem_of_mem ((h.mem b i1).mp i2)
      have hjb' : s.2.getD j 0 = b := by rw [List.getD_eq_getElem?_getD, List.getElem?_eq_getElem hj, hjb]; rfl
      have := h.done j (by omega) hj c (by rw [hjb']; exact hc)
      rw [hjb'] at this
      exact ⟨hadj b i1 c hc, this.1, by omega⟩
  refine ⟨h.len, fun v hv => ?_⟩
  by_cases g : 0 ≤ s.1.getD v default
  · right
    obtain ⟨a, a1, a2⟩ := h.walk v ((h.mem v hv).mp g)
    exact ⟨_, (Int.toNat_of_nonneg g).symm, ⟨a, a1, a2⟩, fun b hb m hm => by have := (hw b hb v m hm).2.2; omega⟩
  · left
    refine ⟨h.neg v hv (by omega), fun a ha hr => ?_⟩
    obtain ⟨d, hd⟩ := hr.walk
    exact g (hw a ha v d hd).2.1
/-- The pile of points is never longer than there are points. -/
theorem nodup_le {xs : List Nat} {n : Nat} (h : xs.Nodup) (hl : ∀ x ∈ xs, x < n) : xs.length ≤ n := by
  induction n generalizing xs with
  | zero => cases xs with
    | nil => simp
    | cons x r => exact absurd (hl x List.mem_cons_self) (by omega)
  | succ n ih =>
    have h1 : (xs.filter fun x => decide (x ≠ n)).length ≤ n := ih (h.filter _) fun x hx => by
      rw [List.mem_filter, decide_eq_true_eq] at hx
      have := hl x hx.1; omega
    have h2 : ∀ ys : List Nat, ys.Nodup → ys.length ≤ (ys.filter fun x => decide (x ≠ n)).length + 1 := by
      intro ys
      induction ys with
      | nil => simp
      | cons y r ihr =>
        intro hy
        obtain ⟨y1, y2⟩ := List.nodup_cons.mp hy
        by_cases e : y = n
        · subst e
          have hall : ∀ x ∈ r, decide (x ≠ y) = true := fun x hx => by rw [decide_eq_true_eq]; intro e; subst e; exact y1 hx
          rw [List.filter_cons_of_neg (by simp), List.filter_eq_self.mpr hall]; simp
        · rw [List.filter_cons_of_pos (by simpa using e)]
          have := ihr y2
          simp only [List.length_cons]; omega
    have := h2 xs h
    omega
theorem Bfs.short {s : List Int × List Nat} {i : Nat} (h : Bfs adj n src i s) : s.2.length ≤ n := nodup_le h.nd h.lt
end
end Go.Proofs.Ythdclobnmicdaaa
