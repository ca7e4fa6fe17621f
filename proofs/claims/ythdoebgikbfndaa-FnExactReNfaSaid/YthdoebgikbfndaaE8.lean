/- The way from a given row to our proofs: what can be read as data are values of ours. -/
import Derived.Test.YthdoebgikbfndaaE7
import Derived.WalkKit
import Derived.ProofKit
import Derived.OpenShut
import Derived.ShutString
import Derived.ChangeOld
import Derived.ChangeSlices
import Derived.ChangeSame
namespace Go.Proofs.Ythdoebgikbfndaa.E
open Go Go.RowKit Go.ChangeShapes Go.WideShapes
set_option linter.unusedVariables false

/-- The cells of a value of a type, as values of ours. -/
def OkT (P : Program) : Nat → TypeId → List AV → Prop
  | 0, _, _ => False
  | n + 1, t, as => match P.underlying t with
    | some .bool => ∃ b, as = [.bool b]
    | some (.int k) => ∃ m, as = [.int k m] ∧ (Lit.int k m).wf = true
    | some .string => ∃ s, as = [.str s] ∧ s.size ≤ Go.maxLen
    | some (.slice e) => ∃ xs, as = [.list (P.cellsOf e) xs] ∧ xs.length ≤ Go.maxLen ∧ ∀ x ∈ xs, ∃ ys, OkT P n e ys ∧ ((aggA P e = some true ∧ x = .agg ys) ∨ (aggA P e = some false ∧ ys = [x]))
    | some (.struct fs) => as.length = P.cellsOf t ∧ ∀ f ∈ fs.toList, OkT P n f.type ((as.drop f.offset).take (P.cellsOf f.type))
    | _ => True

theorem OkT.mono {P : Program} : ∀ {n : Nat} {t : TypeId} {as : List AV}, OkT P n t as → OkT P (n + 1) t as := by
  intro n
  induction n with
  | zero => intro t as h; exact h.elim
  | succ n ih =>
    intro t as h
    unfold OkT at h ⊢
    split at h
    · exact h
    · exact h
    · exact h
    · obtain ⟨xs, h1, h2, h3⟩ := h
      exact ⟨xs, h1, h2, fun x hx => by obtain ⟨ys, g1, g2⟩ := h3 x hx; exact ⟨ys, ih g1, g2⟩⟩
    · exact ⟨h.1, fun f hf => ih (h.2 f hf)⟩
    · trivial
theorem OkT.le {P : Program} {n m : Nat} (h : n ≤ m) {t : TypeId} {as : List AV} (k : OkT P n t as) : OkT P m t as := by
  induction h with
  | refl => exact k
  | step _ ih => exact ih.mono

abbrev memI (w : World) : Imm := fun b o => w.cell? ⟨b, o, none⟩

def plainT (P : Program) (t : TypeId) : Bool := match P.underlying t with
  | some .bool | some (.int _) | some .string | some (.slice _) | some (.struct _) => true
  | _ => false

theorem flat_split {s : Nat} {xs : List AV} (hs : ∀ x ∈ xs, (cells x).length = s) {p : Nat} (hp : p < (flat xs).length) : ∃ (i j : Nat) (hi : i < xs.length) (hj : j < s), p = i * s + j ∧ (flat xs)[p]? = (cells xs[i])[j]? := by
  have hl := flat_length hs
  have hs0 : 0 < s := by
    rcases Nat.eq_zero_or_pos s with h | h
    · rw [hl, h] at hp; simp at hp
    · exact h
  have hd := Nat.div_add_mod p s
  have hi : p / s < xs.length := Nat.div_lt_of_lt_mul (by rw [Nat.mul_comm]; omega)
  have hj := Nat.mod_lt p hs0
  refine ⟨p / s, p % s, hi, hj, by rw [Nat.mul_comm]; exact hd.symm, ?_⟩
  have := flat_get hs (p / s) (xs[p / s]) (by simp [hi]) (p % s) hj
  rw [← this]; congr 1; rw [Nat.mul_comm]; exact hd.symm

/-- The fields of a struct lie one behind the other. -/
def tiledB (P : Program) : List Field → Nat → Nat → Bool
  | [], o, n => Nat.beq o n
  | f :: fs, o, n => Nat.beq f.offset o && tiledB P fs (o + P.cellsOf f.type) n
def tiledT (P : Program) (t : TypeId) : Bool := match P.underlying t with
  | some (.struct fs) => tiledB P fs.toList 0 (P.cellsOf t) && fs.toList.all fun f => Nat.blt f.type P.types.size
  | some (.array _ _) => true
  | some (.slice e) => Nat.beq (P.cellsOf t) 1 && Nat.blt e P.types.size && Nat.blt 0 (P.cellsOf e)
  | _ => Nat.beq (P.cellsOf t) 1
def tiledAll (P : Program) : Bool := (List.range P.types.size).all (tiledT P)

/-- Cells that values of ours stand for. -/
def Vl (ι : Imm) (as : List AV) (cs : List Value) : Prop := as.length = cs.length ∧ ∀ p (h : p < as.length) (h' : p < cs.length), V ι (as[p]) (cs[p])

theorem Vl.append {ι : Imm} {as bs : List AV} {cs ds : List Value} (h : Vl ι as cs) (k : Vl ι bs ds) : Vl ι (as ++ bs) (cs ++ ds) := by
  have h1 := h.1
  refine ⟨by simp [h.1, k.1], fun p hp hp' => ?_⟩
  by_cases hq : p < as.length
  · rw [List.getElem_append_left hq, List.getElem_append_left (by omega)]; exact h.2 p hq (by omega)
  · rw [List.getElem_append_right (by omega), List.getElem_append_right (by omega)]
    simp only [h1]
    exact k.2 _ (by simp at hp; omega) (by simp at hp'; omega)

theorem tiled_join {P : Program} {ι : Imm} {n : Nat} : ∀ (fs : List Field) (o m : Nat) (cs : List Value), tiledB P fs o m = true → cs.length = m →
    (∀ f ∈ fs, ∃ as, Vl ι as ((cs.drop f.offset).take (P.cellsOf f.type)) ∧ as.length = P.cellsOf f.type ∧ OkT P n f.type as) →
    ∃ as, Vl ι as (cs.drop o) ∧ o ≤ m ∧ ∀ f ∈ fs, o ≤ f.offset ∧ OkT P n f.type ((as.drop (f.offset - o)).take (P.cellsOf f.type))
  | [], o, m, cs, ht, hl, _ => by
    have : o = m := Nat.eq_of_beq_eq_true ht
    refine ⟨[], ⟨by simp; omega, fun p h => by simp at h⟩, by omega, by simp⟩
  | f :: fs, o, m, cs, ht, hl, hf => by
    unfold tiledB at ht
    rw [Bool.and_eq_true] at ht
    have ho : f.offset = o := Nat.eq_of_beq_eq_true ht.1
    obtain ⟨as, h1, h2, h3⟩ := hf f List.mem_cons_self
    obtain ⟨bs, g1, g2, g3⟩ := tiled_join fs (o + P.cellsOf f.type) m cs ht.2 hl fun g hg => hf g (List.mem_cons_of_mem _ hg)
    have hsplit : cs.drop o = (cs.drop f.offset).take (P.cellsOf f.type) ++ cs.drop (o + P.cellsOf f.type) := by
      rw [ho, ← List.drop_drop, List.take_append_drop]
    refine ⟨as ++ bs, by rw [hsplit]; exact h1.append g1, by omega, fun g hg => ?_⟩
    rcases List.mem_cons.mp hg with rfl | hg
    · refine ⟨by omega, ?_⟩
      rw [ho, Nat.sub_self, List.drop_zero, ← h2, List.take_left]
      exact h3
    · obtain ⟨k1, k2⟩ := g3 g hg
      refine ⟨by omega, ?_⟩
      have : (as ++ bs).drop (g.offset - o) = bs.drop (g.offset - (o + P.cellsOf f.type)) := by
        rw [List.drop_append, List.drop_eq_nil_of_le (by omega), List.nil_append]
        congr 1; omega
      rw [this]; exact k2

section
variable {H : Type} {enc : TypeId × Value → H} {P : Program} {w : World} {spare : Nat → Bool}

theorem tiled_of (hT : tiledAll P = true) {t : TypeId} (h : t < P.types.size) : tiledT P t = true :=
  List.all_eq_true.mp hT t (List.mem_range.mpr h)

theorem trod_one {n : Nat} {t : TypeId} {cs : List Value} {x : DataW H × List MemPlace} (h : DataW.trod enc P w 0 spare true n t cs = some x) : P.underlying t ≠ none := by
  cases n with
  | zero => simp [DataW.trod] at h
  | succ n =>
    intro hu
    unfold DataW.trod at h
    rw [hu] at h
    simp at h

theorem cells_of_scalar {n : Nat} {t : TypeId} {as : List AV} {d : TypeDesc} (hu : P.underlying t = some d) (ha : (match d with | .struct _ => false | .array _ _ => false | _ => true) = true) (h : OkT P n t as) (hl : as.length = 1)
    (hp : plainT P t = true ∨ as = [.undef]) : ∃ a, as = [a] ∧ cells a = [a] := by
  rcases hp with hp | rfl
  · cases n with
    | zero => exact h.elim
    | succ n =>
      unfold OkT at h
      unfold plainT at hp
      rw [hu] at h hp
      cases d <;> simp at ha hp
      · obtain ⟨b, rfl⟩ := h; exact ⟨_, rfl, rfl⟩
      · obtain ⟨m, rfl, _⟩ := h; exact ⟨_, rfl, rfl⟩
      · obtain ⟨s, rfl, _⟩ := h; exact ⟨_, rfl, rfl⟩
      · obtain ⟨xs, rfl, _⟩ := h; exact ⟨_, rfl, rfl⟩
  · exact ⟨_, rfl, rfl⟩

/-- What can be read as data is a value of ours over all memory. -/
theorem trod_V (hT : tiledAll P = true) : ∀ (n : Nat) (t : TypeId) (cs : List Value) (x : DataW H × List MemPlace), t < P.types.size → DataW.trod enc P w 0 spare true n t cs = some x →
    ∃ as, Vl (memI w) as cs ∧ OkT P n t as ∧ (plainT P t = true ∨ as = List.replicate as.length .undef) := by
  intro n
  induction n with
  | zero => intro t cs x _ h; simp [DataW.trod] at h
  | succ n ih =>
    intro t cs x htlt h
    have hu := trod_one h
    cases hd : P.underlying t with
    | none => exact absurd hd hu
    | some d =>
      have other : plainT P t = false → (∀ as, OkT P (n + 1) t as) → ∃ as, Vl (memI w) as cs ∧ OkT P (n + 1) t as ∧ (plainT P t = true ∨ as = List.replicate as.length .undef) := fun _ hok =>
        ⟨List.replicate cs.length .undef, ⟨by simp, fun p hp hp' => by simp; exact .undef _⟩, hok _, .inr (by simp)⟩
      cases d with
      | bool =>
        obtain ⟨b, rfl, _⟩ := DataW.trod_bool hd h
        exact ⟨[.bool b], ⟨rfl, fun p hp hp' => by have : p = 0 := by simpa using hp
                                                   subst this; exact .bool b⟩, by unfold OkT; rw [hd]; exact ⟨b, rfl⟩, .inl (by unfold plainT; rw [hd])⟩
      | int k =>
        obtain ⟨m, rfl, _, hw⟩ := DataW.trod_int hd h
        exact ⟨[.int k m], ⟨rfl, fun p hp hp' => by have : p = 0 := by simpa using hp
                                                    subst this; exact .int k m⟩, by unfold OkT; rw [hd]; exact ⟨m, rfl, hw⟩, .inl (by unfold plainT; rw [hd])⟩
      | string =>
        obtain ⟨s, rfl, _, hw⟩ := DataW.trod_string hd h
        exact ⟨[.str s], ⟨rfl, fun p hp hp' => by have : p = 0 := by simpa using hp
                                                  subst this; exact .str s⟩, by unfold OkT; rw [hd]; exact ⟨s, rfl, hw⟩, .inl (by unfold plainT; rw [hd])⟩
      | struct fs =>
        obtain ⟨xs, m, hm, _, hl, hlen, hf⟩ := DataW.trod_struct hd h
        cases hm
        have ht0 := tiled_of hT htlt
        unfold tiledT at ht0
        rw [hd] at ht0
        simp only [Bool.and_eq_true] at ht0
        obtain ⟨ht, htf⟩ := ht0
        obtain ⟨as, h1, _, h2⟩ := tiled_join (P := P) (ι := memI w) (n := n) fs.toList 0 _ cs ht hl (fun f hf' => by
          obtain ⟨i, hi, hfi⟩ := List.getElem_of_mem hf'
          have hi' : i < fs.size := by simpa using hi
          have hxi : i < xs.length := by omega
          have := hf i f (by rw [Array.getElem?_eq_getElem hi']; simpa using hfi)
          rw [List.getElem?_eq_getElem hxi] at this
          have hflt : f.type < P.types.size := by have := List.all_eq_true.mp htf f hf'; simpa using this
          obtain ⟨as, g1, g2, _⟩ := ih _ _ _ hflt this
          have hfull : ((cs.drop f.offset).take (P.cellsOf f.type)).length = P.cellsOf f.type := by
            have tl : ∀ (l : List Field) (o m : Nat), tiledB P l o m = true → (o ≤ m ∧ ∀ g ∈ l, g.offset + P.cellsOf g.type ≤ m) := by
              intro l
              induction l with
              | nil => intro o m h; have := Nat.eq_of_beq_eq_true h; exact ⟨by omega, by simp⟩
              | cons g l ihl =>
                intro o m h
                unfold tiledB at h
                rw [Bool.and_eq_true] at h
                have h0 := Nat.eq_of_beq_eq_true h.1
                obtain ⟨k1, k2⟩ := ihl _ _ h.2
                refine ⟨by omega, fun q hq => ?_⟩
                rcases List.mem_cons.mp hq with rfl | hq
                · omega
                · exact k2 q hq
            have := (tl _ _ _ ht).2 f hf'
            simp; omega
          exact ⟨as, g1, by rw [g1.1, hfull], g2⟩)
        refine ⟨as, by simpa using h1, ?_, .inl (by unfold plainT; rw [hd])⟩
        unfold OkT
        rw [hd]
        exact ⟨by have := h1.1; simp at this; omega, fun f hf' => by simpa using (h2 f hf').2⟩
      | slice e =>
        have hpl : plainT P t = true := by unfold plainT; rw [hd]
        have ht0 := tiled_of hT htlt
        unfold tiledT at ht0
        rw [hd] at ht0
        simp only [Bool.and_eq_true] at ht0
        have helt : e < P.types.size := by simpa using ht0.1.2
        have hepos : 0 < P.cellsOf e := by simpa using ht0.2
        rcases DataW.trod_slice hd h with ⟨rfl, _⟩ | ⟨a, len, cap, elems, rest, m, hm, rfl, _, _, hlc, hcm, hel, hes, _, _⟩
        · refine ⟨[.list (P.cellsOf e) []], ⟨rfl, fun p hp hp' => by have : p = 0 := by simpa using hp
                                                                     subst this; exact .listNil _ _ _⟩, ?_, .inl hpl⟩
          unfold OkT; rw [hd]
          exact ⟨[], rfl, by simp, by simp⟩
        · cases hm
          -- each element
          have each : ∀ i, i < len → ∃ (cs : List Value) (ys : List AV) (x : AV), cs.length = P.cellsOf e ∧ (∀ j, j < P.cellsOf e → w.cell? ((a.add (i * P.cellsOf e)).add j) = cs[j]?) ∧ Vl (memI w) ys cs ∧ OkT P n e ys ∧
              ((aggA P e = some true ∧ x = .agg ys) ∨ (aggA P e = some false ∧ ys = [x])) ∧ cells x = ys := by
            intro i hi
            have := hes i hi
            rw [List.getElem?_eq_getElem (by omega), Option.bind_eq_some_iff] at this
            obtain ⟨cs, hcs, hy⟩ := this
            obtain ⟨_, hl, hcell⟩ := World.cells?_some hcs
            obtain ⟨ys, g1, g2, g3⟩ := ih _ _ _ helt hy
            have hue := trod_one hy
            cases hde : P.underlying e with
            | none => exact absurd hde hue
            | some de =>
              by_cases hag : (match de with | .struct _ => false | .array _ _ => false | _ => true) = true
              · have ht := tiled_of hT helt
                unfold tiledT at ht
                rw [hde] at ht
                have hone : P.cellsOf e = 1 := by
                  cases de <;> simp at hag <;> first
                    | exact Nat.eq_of_beq_eq_true ht
                    | (simp only [Bool.and_eq_true] at ht; exact Nat.eq_of_beq_eq_true ht.1.1)
                have hy1 : ys.length = 1 := by rw [g1.1, hl, hone]
                obtain ⟨x, rfl, hcx⟩ := cells_of_scalar hde hag g2 hy1 (g3.imp id (fun h => by rw [hy1] at h; simpa using h))
                have hagg : aggA P e = some false := by unfold aggA; rw [hde]; cases de <;> simp at hag <;> rfl
                exact ⟨cs, [x], x, hl, hcell, g1, g2, .inr ⟨hagg, rfl⟩, hcx⟩
              · have hagg : aggA P e = some true := by unfold aggA; rw [hde]; cases de <;> simp at hag <;> rfl
                exact ⟨cs, ys, .agg ys, hl, hcell, g1, g2, .inl ⟨hagg, rfl⟩, rfl⟩
          let xf : Nat → AV := fun i => if h : i < len then Classical.choose (Classical.choose_spec (Classical.choose_spec (each i h))) else .undef
          have hxf : ∀ i (h : i < len), ∃ (cs : List Value) (ys : List AV), cs.length = P.cellsOf e ∧ (∀ j, j < P.cellsOf e → w.cell? ((a.add (i * P.cellsOf e)).add j) = cs[j]?) ∧ Vl (memI w) ys cs ∧ OkT P n e ys ∧
              ((aggA P e = some true ∧ xf i = .agg ys) ∨ (aggA P e = some false ∧ ys = [xf i])) ∧ cells (xf i) = ys := by
            intro i h
            refine ⟨Classical.choose (each i h), Classical.choose (Classical.choose_spec (each i h)), ?_⟩
            have := Classical.choose_spec (Classical.choose_spec (Classical.choose_spec (each i h)))
            simp only [xf, dif_pos h]
            exact this
          let xs : List AV := (List.range len).map xf
          have hxl : xs.length = len := by simp [xs]
          have hok : OkT P (n + 1) t [.list (P.cellsOf e) xs] := by
            unfold OkT; rw [hd]
            refine ⟨xs, rfl, by rw [hxl]; simp only [Go.maxLen] at hcm ⊢; omega, fun x hx => ?_⟩
            obtain ⟨i, hi, rfl⟩ := List.mem_map.mp hx
            obtain ⟨cs, ys, h1, h2, h3, h4, h5, h6⟩ := hxf i (List.mem_range.mp hi)
            exact ⟨ys, h4, h5⟩
          refine ⟨[.list (P.cellsOf e) xs], ⟨rfl, fun p hp hp' => ?_⟩, hok, .inl hpl⟩
          have : p = 0 := by simpa using hp
          subst this
          simp only [List.getElem_cons_zero]
          have hcl : ∀ x ∈ xs, (cells x).length = P.cellsOf e := by
            intro x hx
            obtain ⟨i, hi, rfl⟩ := List.mem_map.mp hx
            obtain ⟨cs, ys, h1, h2, h3, h4, h5, h6⟩ := hxf i (List.mem_range.mp hi)
            rw [h6, h3.1, h1]
          by_cases hz : (flat xs).length = 0
          · by_cases hl0 : len = 0
            · have : xs = [] := List.eq_nil_of_length_eq_zero (by omega)
              rw [this, hl0]; exact .listNil _ _ _
            · exfalso
              rw [flat_length hcl, hxl] at hz
              rcases Nat.mul_eq_zero.mp hz with h | h
              · exact absurd h hl0
              · omega
          · have hspot : a = ⟨a.block, a.off, none⟩ := by
              obtain ⟨i, j, hi, hj, hp1, _⟩ := flat_split hcl (p := 0) (by omega)
              obtain ⟨cs, ys, h1, h2, h3, h4, h5, h6⟩ := hxf 0 (by omega)
              have hs0 : 0 < P.cellsOf e := by omega
              have := h2 0 hs0
              rw [List.getElem?_eq_getElem (by omega)] at this
              have hsp := World.cell?_spot this
              simp [Addr.add] at hsp
              cases a; simp at hsp ⊢; exact hsp
            rw [hspot, ← hxl]
            refine .list (fun p => (w.cell? ⟨a.block, a.off + p, none⟩).getD Go.undef) hcl (by omega) (fun p hp => ?_) (fun p hp => ?_)
            · obtain ⟨i, j, hi, hj, hp1, _⟩ := flat_split hcl hp
              obtain ⟨cs, ys, h1, h2, h3, h4, h5, h6⟩ := hxf i (by omega)
              have := h2 j hj
              rw [hspot, Addr_add, Addr_add, List.getElem?_eq_getElem (by omega), Nat.add_assoc, ← hp1] at this
              simp only [memI]
              rw [this]; rfl
            · obtain ⟨i, j, hi, hj, hp1, hpe⟩ := flat_split hcl hp
              obtain ⟨cs, ys, h1, h2, h3, h4, h5, h6⟩ := hxf i (by omega)
              have := h2 j hj
              rw [hspot, Addr_add, Addr_add, List.getElem?_eq_getElem (by omega), Nat.add_assoc, ← hp1] at this
              rw [this]
              have hxi : xs[i] = xf i := by simp [xs]
              rw [List.getElem?_eq_getElem hp, hxi, h6, List.getElem?_eq_getElem (by rw [h3.1]; omega)] at hpe
              rw [Option.some.inj hpe]
              exact h3.2 j (by rw [h3.1]; omega) (by omega)
      | _ => exact other (by unfold plainT; rw [hd]) (fun as => by unfold OkT; rw [hd]; trivial)

/-- An argument that can be read as data, as a value of ours. -/
def OkA (P : Program) (t : TypeId) (a : AV) : Prop := ∃ n as, OkT P n t as ∧ ((aggA P t = some true ∧ a = .agg as) ∨ (aggA P t = some false ∧ as = [a]))

theorem arg_V {r : Reach} {b0 : Nat} {t : TypeId} {v : Value} {d : DataW H} {ps : List MemPlace} (hT : tiledAll P = true) (ht : (Nat.blt t P.types.size && plainT P t) = true) (h : DataW.Trod enc P w 0 spare true t v d ps) (hv : Value.okWide P w r b0 t v) :
    ∃ a, V (memI w) a v ∧ OkA P t a := by
  rw [Bool.and_eq_true] at ht
  obtain ⟨n, hf⟩ := h
  obtain ⟨as, h1, h2, _⟩ := trod_V hT n t _ _ (by simpa using ht.1) hf
  have hpl := ht.2
  unfold plainT at hpl
  have single : (∀ cs, v ≠ .agg cs) → aggA P t = some false → ∃ a, V (memI w) a v ∧ OkA P t a := by
    intro hna hag
    have hc : v.cells.toList = [v] := by cases v <;> first | rfl | exact absurd rfl (hna _)
    rw [hc] at h1
    have hl : as.length = 1 := h1.1
    match as, hl with
    | [a], _ => exact ⟨a, h1.2 0 (by simp) (by simp), n, [a], h2, .inr ⟨hag, rfl⟩⟩
  cases hd : P.underlying t with
  | none => rw [hd] at hpl; simp at hpl
  | some de =>
    rw [hd] at hpl
    cases de <;> simp at hpl
    case bool => obtain ⟨b, rfl⟩ := okWide_bool hd hv; exact single (by simp) (by unfold aggA; rw [hd]; rfl)
    case int k => obtain ⟨b, rfl⟩ := okWide_int hd hv; exact single (by simp) (by unfold aggA; rw [hd]; rfl)
    case string => obtain ⟨b, rfl⟩ := okWide_string hd hv; exact single (by simp) (by unfold aggA; rw [hd]; rfl)
    case slice e => obtain ⟨a, l, c, rfl⟩ := okWide_slice hd hv; exact single (by simp) (by unfold aggA; rw [hd]; rfl)
    case struct fs =>
      have : ∃ cs, v = .agg cs := by
        simp only [Value.okWide, hd] at hv
        cases v <;> simp_all
      obtain ⟨cs, rfl⟩ := this
      refine ⟨.agg as, .agg cs (by have := h1.1; simp [Value.cells] at this; omega) fun p hp => ?_, n, as, h2, .inl ⟨by unfold aggA; rw [hd]; rfl, rfl⟩⟩
      have hl := h1.1
      simp [Value.cells] at hl
      rw [getD_lt _ _ (by omega)]
      have := h1.2 p hp (by simp [Value.cells]; omega)
      simpa [Value.cells] using this

theorem stays {t : TypeId} {v : Value} {d : DataW H} {ps : List MemPlace} {W' : World} (hl : laidOutB P = true) (ht : (P.readableRec t && Nat.blt t P.types.size) = true) (h : DataW.Trod enc P w 0 (fun _ => true) true t v d ps) (hb : Below w.heap.size w W') :
    DataW.Trod enc P W' 0 (fun b => decide (b < w.heap.size)) true t v d ps := by
  rw [Bool.and_eq_true] at ht
  exact Below.trod hl ht.1 (by simpa using ht.2) h hb (by obtain ⟨m, hm⟩ := h; exact DataW.trod_lt m _ _ _ hm)

theorem walk_of_pc {f : FuncId} {as : List AV} {vs : Array Value} (h : PC P f as fun v => v = .bool true) (hv : Vs (memI w) as vs) : Calls P f vs w fun x w' => x = .returned (.bool true) ∧ Below w.heap.size w w' := by
  refine (h (memI w) w vs (fun _ _ _ h => h) hv).mono ?_
  rintro x w' ⟨v, r, κ, rfl, rfl, h3, _, _, h6, _⟩
  exact ⟨by rw [h3.bool_inv], h6.low⟩

theorem Vs1 {ι : Imm} {a : AV} {v : Value} (h : V ι a v) : Vs ι [a] #[v] := by
  refine ⟨rfl, fun p hp => ?_⟩
  have : p = 0 := by simpa using hp
  subst this; exact h
theorem Vs2 {ι : Imm} {a b : AV} {v u : Value} (h : V ι a v) (k : V ι b u) : Vs ι [a, b] #[v, u] := Vs.append (Vs1 h) (Vs1 k)
theorem Vs3 {ι : Imm} {a b c : AV} {v u x : Value} (h : V ι a v) (k : V ι b u) (l : V ι c x) : Vs ι [a, b, c] #[v, u, x] := Vs.append (Vs2 h k) (Vs1 l)
theorem Vs4 {ι : Imm} {a b c d : AV} {v u x y : Value} (h : V ι a v) (k : V ι b u) (l : V ι c x) (m : V ι d y) : Vs ι [a, b, c, d] #[v, u, x, y] := Vs.append (Vs3 h k l) (Vs1 m)

theorem OkA.int {t : TypeId} {k : IntKind} {a : AV} (hu : P.underlying t = some (.int k)) (h : OkA P t a) : ∃ m, a = .int k m ∧ (Lit.int k m).wf = true := by
  obtain ⟨n, as, h1, h2⟩ := h
  rcases h2 with ⟨h2, _⟩ | ⟨_, rfl⟩
  · unfold aggA at h2; rw [hu] at h2; simp at h2
  · cases n with
    | zero => exact h1.elim
    | succ n => unfold OkT at h1; rw [hu] at h1; obtain ⟨m, g1, g2⟩ := h1; exact ⟨m, by simpa using g1, g2⟩
theorem OkA.str {t : TypeId} {a : AV} (hu : P.underlying t = some .string) (h : OkA P t a) : ∃ s, a = .str s ∧ s.size ≤ Go.maxLen := by
  obtain ⟨n, as, h1, h2⟩ := h
  rcases h2 with ⟨h2, _⟩ | ⟨_, rfl⟩
  · unfold aggA at h2; rw [hu] at h2; simp at h2
  · cases n with
    | zero => exact h1.elim
    | succ n => unfold OkT at h1; rw [hu] at h1; obtain ⟨m, g1, g2⟩ := h1; exact ⟨m, by simpa using g1, g2⟩
theorem OkA.bool {t : TypeId} {a : AV} (hu : P.underlying t = some .bool) (h : OkA P t a) : ∃ b, a = .bool b := by
  obtain ⟨n, as, h1, h2⟩ := h
  rcases h2 with ⟨h2, _⟩ | ⟨_, rfl⟩
  · unfold aggA at h2; rw [hu] at h2; simp at h2
  · cases n with
    | zero => exact h1.elim
    | succ n => unfold OkT at h1; rw [hu] at h1; obtain ⟨m, g1⟩ := h1; exact ⟨m, by simpa using g1⟩
/-- A slice, its elements told by what each of them is. -/
theorem OkA.slice {t e : TypeId} {a : AV} (hu : elemA P t = some e) (h : OkA P t a) : ∃ xs, a = .list (P.cellsOf e) xs ∧ xs.length ≤ Go.maxLen ∧ ∀ x ∈ xs, OkA P e x := by
  have hu' := elemA_spec hu
  obtain ⟨n, as, h1, h2⟩ := h
  rcases h2 with ⟨h2, _⟩ | ⟨_, rfl⟩
  · unfold aggA at h2; rw [hu'] at h2; simp at h2
  · cases n with
    | zero => exact h1.elim
    | succ n =>
      unfold OkT at h1
      rw [hu'] at h1
      obtain ⟨xs, g1, g2, g3⟩ := h1
      refine ⟨xs, by simpa using g1, g2, fun x hx => ?_⟩
      obtain ⟨ys, k1, k2⟩ := g3 x hx
      exact ⟨n, ys, k1, k2⟩
theorem map_of {α : Type} (f : α → AV) (Q : α → Prop) : ∀ {xs : List AV}, (∀ x ∈ xs, ∃ a, x = f a ∧ Q a) → ∃ as : List α, xs = as.map f ∧ ∀ a ∈ as, Q a
  | [], _ => ⟨[], rfl, by simp⟩
  | x :: xs, h => by
    obtain ⟨a, h1, h2⟩ := h x List.mem_cons_self
    obtain ⟨as, g1, g2⟩ := map_of f Q fun y hy => h y (List.mem_cons_of_mem _ hy)
    exact ⟨a :: as, by rw [h1, g1]; rfl, by simpa using ⟨h2, g2⟩⟩
theorem OkA.ints {t e : TypeId} {k : IntKind} {a : AV} (hu : elemA P t = some e) (he : P.underlying e = some (.int k)) (hc : P.cellsOf e = 1) (h : OkA P t a) : ∃ zs : List Int, a = .list 1 (zs.map (AV.int k)) ∧ zs.length ≤ Go.maxLen ∧ ∀ z ∈ zs, (Lit.int k z).wf = true := by
  obtain ⟨xs, rfl, h2, h3⟩ := h.slice hu
  obtain ⟨zs, rfl, h4⟩ := map_of (AV.int k) (fun z => (Lit.int k z).wf = true) fun x hx => (h3 x hx).int he
  exact ⟨zs, by rw [hc], by simpa using h2, h4⟩
/-- A struct's fields. -/
theorem OkA.struct {t : TypeId} {fs : Array Field} {a : AV} (hu : P.underlying t = some (.struct fs)) (h : OkA P t a) : ∃ as, a = .agg as ∧ as.length = P.cellsOf t ∧ ∃ n, ∀ f ∈ fs.toList, OkT P n f.type ((as.drop f.offset).take (P.cellsOf f.type)) := by
  obtain ⟨n, bs, h1, h2⟩ := h
  rcases h2 with ⟨_, rfl⟩ | ⟨h2, _⟩
  · cases n with
    | zero => exact h1.elim
    | succ n => unfold OkT at h1; rw [hu] at h1; exact ⟨bs, rfl, h1.1, n, h1.2⟩
  · unfold aggA at h2; rw [hu] at h2; simp at h2
theorem OkT.A {n : Nat} {t : TypeId} {a : AV} (hu : aggA P t = some false) (h : OkT P n t [a]) : OkA P t a := ⟨n, [a], h, .inr ⟨hu, rfl⟩⟩
theorem OkT.G {n : Nat} {t : TypeId} {as : List AV} (hu : aggA P t = some true) (h : OkT P n t as) : OkA P t (.agg as) := ⟨n, as, h, .inl ⟨hu, rfl⟩⟩
theorem OkA.agg {t : TypeId} {a : AV} (hu : aggA P t = some true) (h : OkA P t a) : ∃ as, a = .agg as := by
  obtain ⟨n, bs, h1, h2⟩ := h
  rcases h2 with ⟨_, h2⟩ | ⟨h2, _⟩
  · exact ⟨_, h2⟩
  · rw [hu] at h2; simp at h2

end
end Go.Proofs.Ythdoebgikbfndaa.E
