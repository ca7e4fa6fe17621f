/- The program's reader: what it reads well is a tree; rows of one or two parts. -/
import Derived.Test.YtmmgpcnngaekoaaDReText
import Derived.Test.YtmmgpcnngaekoaaPReader
import Derived.Test.YtmmgpcnngaekoaaPGT
namespace Go.Proofs.Ytmmgpcnngaekoaa
open Go Go.RowKit E
set_option linter.unusedVariables false

/-- The bytes of a text as numbers; a text's part. -/
def bys (s : ByteArray) : List Int := s.data.toList.map fun b => (b.toNat : Int)
theorem bys_len (s : ByteArray) : (bys s).length = s.size := by unfold bys; rw [List.length_map, Array.length_toList]; rfl
theorem bys_app (a b : ByteArray) : bys (a ++ b) = bys a ++ bys b := by
  unfold bys
  have : (a ++ b).data = a.data ++ b.data := by simp
  rw [this, Array.toList_append, List.map_append]
theorem bt_bys (s : ByteArray) (i : Nat) : bt s i = (bys s).getD i 0 := by
  unfold bt bys
  rw [List.getD_eq_getElem?_getD, List.getD_eq_getElem?_getD, List.getElem?_map]
  cases s.data.toList[i]? <;> rfl
def At (s : ByteArray) (j : Nat) (L : List Int) : Prop := ∃ P Q, bys s = P ++ (L ++ Q) ∧ P.length = j
theorem At.head {s : ByteArray} {j : Nat} {x : Int} {L : List Int} (h : At s j (x :: L)) : j < s.size ∧ bt s j = x := by
  obtain ⟨P, Q, h1, h2⟩ := h
  subst h2
  constructor
  · rw [← bys_len, h1]; simp
  · rw [bt_bys, h1, getD_right _ _ _ _ (Nat.le_refl _), Nat.sub_self]; rfl
theorem At.left {s : ByteArray} {j : Nat} {L M : List Int} (h : At s j (L ++ M)) : At s j L := by
  obtain ⟨P, Q, h1, h2⟩ := h
  exact ⟨P, M ++ Q, by rw [h1, List.append_assoc], h2⟩
theorem At.right {s : ByteArray} {j : Nat} {L M : List Int} (h : At s j (L ++ M)) : At s (j + L.length) M := by
  obtain ⟨P, Q, h1, h2⟩ := h
  exact ⟨P ++ L, Q, by rw [h1]; simp only [List.append_assoc], by rw [List.length_append, h2]⟩
theorem At.tail {s : ByteArray} {j : Nat} {x : Int} {L : List Int} (h : At s j (x :: L)) : At s (j + 1) L := At.right (L := [x]) h
theorem At.all (s : ByteArray) : At s 0 (bys s) := ⟨[], [], by simp, rfl⟩

/-- A row of one part, of two parts. -/
theorem row_one {s : ByteArray} {op kind : Int} {g : Treader → Option Treader} {j j1 : Nat} {l l1 : List TNode} (h : g ⟨s, (j : Int), 0, l⟩ = some ⟨s, (j1 : Int), 0, l1⟩) (hn : j1 < s.size → bt s j1 ≠ op) : impl_reader_row ⟨s, (j : Int), 0, l⟩ op kind g = some ⟨s, (j1 : Int), 0, l1⟩ := by
  unfold impl_reader_row
  dsimp only
  rw [h, Option.bind_some]
  rw [loop_end (r := (⟨s, (j1 : Int), 0, l1⟩ : Treader))]
  · rfl
  · dsimp only; unfold impl_reader_row.b0
    by_cases hj : j1 < s.size
    · rw [skip_no hj (hn hj), Option.bind_some, if_neg (by simp)]
    · rw [skip_end (by omega), Option.bind_some, if_neg (by simp)]
theorem row_two {s : ByteArray} (hs : s.size ≤ 1000000) {op kind : Int} {g : Treader → Option Treader} {j j1 j2 : Nat} {l l1 l2 : List TNode} (hl2 : l2.length ≤ 1000000000000) (h : g ⟨s, (j : Int), 0, l⟩ = some ⟨s, (j1 : Int), 0, l1⟩) (h1 : j1 < s.size) (h2 : bt s j1 = op) (h3 : g ⟨s, ((j1 + 1 : Nat) : Int), 0, l1⟩ = some ⟨s, (j2 : Int), 0, l2⟩) (hn : j2 < s.size → bt s j2 ≠ op) :
    impl_reader_row ⟨s, (j : Int), 0, l⟩ op kind g = some ⟨s, (j2 : Int), 0, l2 ++ [TNode.mk kind (W ((l1.length : Int) - 1)) (W ((l2.length : Int) - 1))]⟩ := by
  unfold impl_reader_row
  dsimp only
  rw [h, Option.bind_some]
  rw [loop_go (s' := (s, (j2 : Int), (0 : Int), l2 ++ [TNode.mk kind (W ((l1.length : Int) - 1)) (W ((l2.length : Int) - 1))]))]
  · rw [loop_end (r := (⟨s, (j2 : Int), 0, l2 ++ [TNode.mk kind (W ((l1.length : Int) - 1)) (W ((l2.length : Int) - 1))]⟩ : Treader))]
    · rfl
    · dsimp only; unfold impl_reader_row.b0
      by_cases hj : j2 < s.size
      · rw [skip_no hj (hn hj), Option.bind_some, if_neg (by simp)]
      · rw [skip_end (by omega), Option.bind_some, if_neg (by simp)]
  · dsimp only; unfold impl_reader_row.b0
    rw [skip_yes h1 hs h2, Option.bind_some, if_pos rfl]
    dsimp only
    rw [h3, Option.bind_some]
    dsimp only
    rw [two_eq hl2, Option.bind_some]

/-- What is read well is a tree more. -/
def Treed (p : TNode → Int) (l : List TNode) (r : Treader) : Prop := r.code = 0 → ∃ t : GT, t.wf p ∧ r.list = l ++ t.nodes l.length
def TreedF (p : TNode → Int) (g : Treader → Option Treader) : Prop := ∀ (s : ByteArray) (j : Int) (l : List TNode) (r : Treader), g ⟨s, j, 0, l⟩ = some r → Treed p l r
theorem skip_inv {s : ByteArray} {j c x : Int} {l : List TNode} {a : Bool × Treader} (h : impl_reader_skip ⟨s, j, c, l⟩ x = some a) : (a.1 = true ∧ c = 0 ∧ ∃ j', a.2 = ⟨s, j', 0, l⟩) ∨ (a.1 = false ∧ a.2 = ⟨s, j, c, l⟩) := by
  unfold impl_reader_skip at h
  obtain ⟨b, h1, h2⟩ := bindE h
  rw [bnd_eq, bnd_eq] at h2
  split at h2
  · right
    obtain rfl := someE h2
    exact ⟨rfl, rfl⟩
  · rename_i k
    left
    obtain rfl := someE h2
    dsimp only at k ⊢
    have hc : c = 0 := by
      simp only [Bool.or_eq_true, decide_eq_true_eq] at k
      omega
    subst hc
    exact ⟨rfl, rfl, _, rfl⟩
theorem two_inv {t r : Treader} {k a : Int} (h : impl_reader_two t k a = some r) : r = ⟨t.s, t.at_, t.code, t.list ++ [TNode.mk k a (W ((t.list.length : Int) - 1))]⟩ ∧ t.list.length ≤ 4611686018427387904 := by
  unfold impl_reader_two at h
  obtain ⟨z, h1, h2⟩ := bindE h
  obtain ⟨g1, g2, g3⟩ := appE h1
  obtain rfl := someE h2
  subst g3
  exact ⟨rfl, by simp at g2; omega⟩
theorem one_inv {t r : Treader} {k : Int} (h : impl_reader_one t k = some r) : r = ⟨t.s, t.at_, t.code, t.list ++ [TNode.mk k (W ((t.list.length : Int) - 1)) 0]⟩ ∧ t.list.length ≤ 4611686018427387904 := by
  unfold impl_reader_one at h
  obtain ⟨z, h1, h2⟩ := bindE h
  obtain ⟨g1, g2, g3⟩ := appE h1
  obtain rfl := someE h2
  subst g3
  exact ⟨rfl, by simp at g2; omega⟩
theorem leaf_inv {t r : Treader} {k a : Int} (h : impl_reader_leaf t k a = some r) : r = ⟨t.s, t.at_, t.code, t.list ++ [TNode.mk k a 0]⟩ := by
  unfold impl_reader_leaf at h
  obtain ⟨z, h1, h2⟩ := bindE h
  obtain ⟨g1, g2, g3⟩ := appE h1
  obtain rfl := someE h2
  subst g3
  rfl
theorem fail_inv {t r : Treader} (h : impl_reader_fail t = some r) : r.code ≠ 0 := by
  unfold impl_reader_fail at h
  split at h
  · rename_i k; obtain rfl := someE h; exact k
  · split at h
    · obtain rfl := someE h; exact show (2 : Int) ≠ 0 by decide
    · obtain rfl := someE h; exact show (3 : Int) ≠ 0 by decide
theorem Treed.one {p : TNode → Int} {l : List TNode} {t r : Treader} {k : Int} (ht : Treed p l t) (hk : ∀ a b, p (TNode.mk k a b) = 1) (h : impl_reader_one t k = some r) : Treed p l r := by
  obtain ⟨rfl, hl⟩ := one_inv h
  intro hc
  obtain ⟨g, g1, g2⟩ := ht hc
  have hp := g.pos
  refine ⟨.one k g, ⟨g1, hk⟩, ?_⟩
  dsimp only
  simp only [GT.n0, GT.n1, GT.n2]
  rw [g2] at hl ⊢
  rw [List.length_append, g.len] at hl ⊢
  rw [W, W_eq (by omega) (by omega), show (((l.length + g.size : Nat) : Int) - 1) = ((l.length + g.size - 1 : Nat) : Int) by omega, List.append_assoc]
theorem Treed.leaf {p : TNode → Int} {s : ByteArray} {j c : Int} {l : List TNode} {r : Treader} {k a : Int} (hk : p (TNode.mk k a 0) = 0) (h : impl_reader_leaf ⟨s, j, c, l⟩ k a = some r) : Treed p l r := by
  obtain rfl := leaf_inv h
  exact fun _ => ⟨.leaf k a, hk, rfl⟩
theorem Treed.fail {p : TNode → Int} {l : List TNode} {t r : Treader} (h : impl_reader_fail t = some r) : Treed p l r := fun hc => absurd hc (fail_inv h)
theorem row_treed {p : TNode → Int} {op kind : Int} {g : Treader → Option Treader} (hg : TreedF p g) (hk : ∀ a b, p (TNode.mk kind a b) = 2) : TreedF p (fun t => impl_reader_row t op kind g) := fun s j l r h => by
  dsimp only at h
  unfold impl_reader_row at h
  obtain ⟨a, h1, h2⟩ := bindE h
  obtain ⟨q, h3, h4⟩ := bindE h2
  obtain rfl := someE h4
  have h0 := hg s j l a h1
  refine loop_some (I := fun q : ByteArray × Int × Int × List TNode => Treed p l ⟨q.1, q.2.1, q.2.2.1, q.2.2.2⟩) (R := fun r => Treed p l r) ?_ ?_ (s := (a.s, a.at_, a.code, a.list)) h0 h3
  · rintro ⟨s1, j1, c1, l1⟩ st' hI hb
    dsimp only at hI hb
    unfold impl_reader_row.b0 at hb
    obtain ⟨b, b1, b2⟩ := bindE hb
    rcases skip_inv b1 with ⟨e1, e2, j', e3⟩ | ⟨e1, e2⟩
    · rw [if_pos e1, e3] at b2
      obtain ⟨t1, c1', c2⟩ := bindE b2
      obtain ⟨t2, d1, d2⟩ := bindE c2
      dsimp only at c1' d1 d2
      obtain ⟨f1, f2⟩ := two_inv d1
      subst f1
      obtain rfl := Sum.inl.inj (someE d2)
      intro hc
      dsimp only at hc f2 ⊢
      obtain ⟨u, u1, u2⟩ := hI (by dsimp only; exact e2)
      dsimp only at u2
      obtain ⟨v, v1, v2⟩ := hg s1 j' l1 t1 c1' hc
      have hu := u.pos
      have hv := v.pos
      refine ⟨.two kind u v, ⟨u1, v1, hk⟩, ?_⟩
      have ll : l1.length = l.length + u.size := by rw [u2, List.length_append, u.len]
      rw [v2] at f2 ⊢
      rw [List.length_append, v.len, ll] at f2 ⊢
      simp only [GT.n0, GT.n1, GT.n2]
      rw [W, W_eq (by omega) (by omega), W, W_eq (by omega) (by omega), show (((l.length + u.size : Nat) : Int) - 1) = ((l.length + u.size - 1 : Nat) : Int) by omega, show (((l.length + u.size + v.size : Nat) : Int) - 1) = ((l.length + u.size + v.size - 1 : Nat) : Int) by omega, u2]
      simp only [List.append_assoc]
    · rw [if_neg (by rw [e1]; simp)] at b2
      cases someE b2
  · rintro ⟨s1, j1, c1, l1⟩ r hI hb
    dsimp only at hI hb
    unfold impl_reader_row.b0 at hb
    obtain ⟨b, b1, b2⟩ := bindE hb
    rcases skip_inv b1 with ⟨e1, e2, j', e3⟩ | ⟨e1, e2⟩
    · rw [if_pos e1, e3] at b2
      obtain ⟨t1, c1', c2⟩ := bindE b2
      obtain ⟨t2, d1, d2⟩ := bindE c2
      cases someE d2
    · rw [if_neg (by rw [e1]; simp), e2] at b2
      obtain rfl := Sum.inr.inj (someE b2)
      exact hI
theorem bracket_treed {p : TNode → Int} {g : Treader → Option Treader} (hg : TreedF p g) : TreedF p (fun t => impl_reader_bracket t g) := fun s j l r h => by
  dsimp only at h
  unfold impl_reader_bracket at h
  obtain ⟨a, h1, h2⟩ := bindE h
  obtain ⟨b, h3, h4⟩ := bindE h2
  have h0 := hg s j l a h1
  rcases skip_inv h3 with ⟨e1, e2, j', e3⟩ | ⟨e1, e2⟩
  · rw [if_neg (by rw [e1]; simp), e3] at h4
    obtain rfl := someE h4
    intro hc
    exact h0 e2
  · rw [if_pos (by rw [e1]; rfl)] at h4
    obtain ⟨q, h5, h6⟩ := bindE h4
    obtain rfl := someE h6
    exact fun hc => absurd hc (fail_inv h5)
theorem parsed_treed {p : TNode → Int} {g : Treader → Option Treader} (hg : TreedF p g) {s : ByteArray} {r : List TNode × Int × Int} (h : impl_parsed s g = some r) (hc : r.2.2 = 0) : ∃ t : GT, t.wf p ∧ t.size ≤ 31 ∧ r.1 = t.nodes 0 := by
  unfold impl_parsed at h
  split at h
  · obtain rfl := someE h; exact absurd (show (1 : Int) = 0 from hc) (by decide)
  · obtain ⟨a, h1, h2⟩ := bindE h
    split at h2
    · rename_i k; obtain rfl := someE h2; exact absurd hc k
    · rename_i k
      split at h2
      · obtain rfl := someE h2; exact absurd (show (5 : Int) = 0 from hc) (by decide)
      · split at h2
        · obtain rfl := someE h2; exact absurd hc (by decide)
        · rename_i k3
          obtain ⟨c, h3, h4⟩ := bindE h2
          obtain rfl := someE h4
          obtain ⟨t, t1, t2⟩ := hg s 0 [] a h1 (by omega)
          rw [List.nil_append] at t2
          unfold slices_Clip_impl_Node_impl_Node cut at h3
          rw [if_pos ⟨by omega, by omega, by omega⟩] at h3
          obtain ⟨c', h5, h6⟩ := bindE h3
          obtain rfl := someE h6
          obtain rfl := someE h5
          refine ⟨t, t1, ?_, ?_⟩
          · have := congrArg List.length t2
            rw [t.len] at this
            omega
          · simp [t2]
theorem parsed_well {g : Treader → Option Treader} {s : ByteArray} (hs : s.size ≤ 200) {l : List TNode} (h : g ⟨s, 0, 0, []⟩ = some ⟨s, (s.size : Int), 0, l⟩) (hl : l.length ≤ 31) : impl_parsed s g = some (l, (s.size : Int), 0) := by
  unfold impl_parsed
  rw [if_neg (by omega), h, Option.bind_some]
  dsimp only
  rw [if_neg (by decide), if_neg (by omega), if_neg (by omega)]
  unfold slices_Clip_impl_Node_impl_Node cut
  rw [if_pos ⟨by omega, by omega, by omega⟩]
  simp
end Go.Proofs.Ytmmgpcnngaekoaa
