/- Regions in which several heavy operations may come first: each order is walked. -/
import Derived.Test.YthdoebgikbfndaaF4
namespace Go.Proofs.Ythdoebgikbfndaa.E
open Go Go.RowKit
set_option linter.unusedVariables false

/-- Orders of a region: a quiet operation, a heavy one, or a choice. -/
inductive Sch | fin | q (i : Nat) (k : Sch) | h (i : Nat) (k : Sch) | fork (a b : Sch)
namespace Sch
def heads : Sch → List Nat
  | h i _ => [i]
  | fork a b => heads a ++ heads b
  | _ => []
def deep : Sch → Nat
  | fin => 0
  | q _ k => deep k + 1
  | h _ k => deep k + 1
  | fork a b => max (deep a) (deep b)
def ok (ops : Array Oper) : Bool → Array Bool → Sch → Bool
  | top, l, fin => top && (Region.ready .any ops l).isEmpty
  | top, l, q i k => top && (Region.ready .any ops l).contains i && ok ops true (l.setIfInBounds i true) k
  | top, l, h i k => (!top || (Region.ready .any ops l) == [i]) && ok ops true (l.setIfInBounds i true) k
  | top, l, fork a b => (!top || ((Region.ready .any ops l) == heads a ++ heads b && !(heads a ++ heads b).isEmpty)) && ok ops false l a && ok ops false l b
end Sch

section
variable {P : Program} {n : Nat} {ops : Array Oper} {Q : Exit → Env → Heap → Prop}
def ART (P : Program) (ops : Array Oper) (Q : Env → Heap → Prop) : Sch → List (Nat × List Nat) → Env → Heap → Prop
  | .fin, D, e, H => Q e H
  | .q i k, D, e, H => ∃ o, ops[i]? = some o ∧
      ((want ops o e = some false ∧ ART P ops Q k D (putE e o.dst (.tup [])) H) ∨
       (want ops o e = some true ∧ ∃ v Db, Quiet P o e H v Db ∧ (∀ b ∈ Db, H b ≠ none) ∧ ART P ops Q k ((i, Db) :: D) (putE e o.dst v) H))
  | .h i k, D, e, H => ∃ o, ops[i]? = some o ∧ want ops o e = some true ∧
      Heavy P o e H fun v G => (∀ d ∈ D, depT ops ops.size o d.1 = true ∨ ∀ b ∈ d.2, H b ≠ none → G b = H b) ∧ ART P ops Q k D (putE e o.dst v) G
  | .fork a b, D, e, H => ART P ops Q a D e H ∧ ART P ops Q b D e H

theorem ART.head : ∀ {t : Sch} {j : Nat} {l : Array Bool} {D : List (Nat × List Nat)} {e : Env} {H : Heap} {Q : Env → Heap → Prop}, j ∈ t.heads → Sch.ok ops false l t = true → ART P ops Q t D e H →
    ∃ o k, ops[j]? = some o ∧ want ops o e = some true ∧ Sch.deep k < t.deep ∧ Sch.ok ops true (l.setIfInBounds j true) k = true ∧
      Heavy P o e H fun v G => (∀ d ∈ D, depT ops ops.size o d.1 = true ∨ ∀ b ∈ d.2, H b ≠ none → G b = H b) ∧ ART P ops Q k D (putE e o.dst v) G := by
  intro t
  induction t with
  | fin => intro j l D e H Q hj; cases hj
  | q i k _ => intro j l D e H Q hj; cases hj
  | h i k _ =>
    intro j l D e H Q hj hok h
    obtain rfl := List.mem_singleton.mp hj
    obtain ⟨o, h1, h2, h3⟩ := h
    simp only [Sch.ok, Bool.not_false, Bool.true_or, Bool.true_and] at hok
    exact ⟨o, k, h1, h2, Nat.lt_succ_self _, hok, h3⟩
  | fork a b iha ihb =>
    intro j l D e H Q hj hok h
    simp only [Sch.ok, Bool.not_false, Bool.true_or, Bool.true_and, Bool.and_eq_true] at hok
    rcases List.mem_append.mp hj with hj | hj
    · obtain ⟨o, k, g1, g2, g3, g4, g5⟩ := iha hj hok.1 h.1
      exact ⟨o, k, g1, g2, Nat.lt_of_lt_of_le g3 (Nat.le_max_left _ _), g4, g5⟩
    · obtain ⟨o, k, g1, g2, g3, g4, g5⟩ := ihb hj hok.2 h.2
      exact ⟨o, k, g1, g2, Nat.lt_of_lt_of_le g3 (Nat.le_max_right _ _), g4, g5⟩
theorem ART_ARD : ∀ (m : Nat) (t : Sch) (l : Array Bool) (D : List (Nat × List Nat)) (e : Env) (H : Heap) {Q : Env → Heap → Prop}, t.deep ≤ m → Sch.ok ops true l t = true → ART P ops Q t D e H → ARD P ops Q m l D e H := by
  intro m
  induction m with
  | zero =>
    intro t l D e H Q hd hok h
    cases t with
    | fin => simp only [Sch.ok, Bool.true_and] at hok; exact ⟨List.isEmpty_iff.mp hok, h⟩
    | q i k => simp [Sch.deep] at hd
    | h i k => simp [Sch.deep] at hd
    | fork a b =>
      simp only [Sch.ok, Bool.not_true, Bool.false_or, Bool.and_eq_true, beq_iff_eq] at hok
      obtain ⟨⟨⟨h1, h2⟩, h3⟩, h4⟩ := hok
      exfalso
      cases hh : (Sch.fork a b).heads with
      | nil => rw [show a.heads ++ b.heads = [] from hh] at h2; cases h2
      | cons j r =>
        obtain ⟨o, k, _, _, g, _⟩ := ART.head (t := .fork a b) (j := j) (l := l) (by rw [hh]; exact List.mem_cons_self) (by simp only [Sch.ok, Bool.not_false, Bool.true_or, Bool.true_and, Bool.and_eq_true]; exact ⟨h3, h4⟩) h
        omega
  | succ m ih =>
    intro t l D e H Q hd hok h
    cases t with
    | fin => simp only [Sch.ok, Bool.true_and] at hok; exact .inl ⟨List.isEmpty_iff.mp hok, h⟩
    | q i k =>
      simp only [Sch.ok, Bool.true_and, Bool.and_eq_true] at hok
      obtain ⟨h1, h2⟩ := hok
      have hi : i ∈ Region.ready .any ops l := by simpa using h1
      have hk : k.deep ≤ m := by simp only [Sch.deep] at hd; omega
      obtain ⟨o, ho, ⟨g1, g2⟩ | ⟨g1, v, Db, g2, g3, g4⟩⟩ := h
      · exact .inr (.inl ⟨i, o, hi, ho, g1, ih k _ _ _ _ hk h2 g2⟩)
      · exact .inr (.inr (.inl ⟨i, o, v, Db, hi, ho, g1, g2, g3, ih k _ _ _ _ hk h2 g4⟩))
    | h i k =>
      simp only [Sch.ok, Bool.not_true, Bool.false_or, Bool.and_eq_true, beq_iff_eq] at hok
      obtain ⟨h1, h2⟩ := hok
      have hk : k.deep ≤ m := by simp only [Sch.deep] at hd; omega
      obtain ⟨o, ho, g1, g2⟩ := h
      refine .inr (.inr (.inr ⟨by rw [h1]; simp, fun j hj => ?_⟩))
      rw [h1] at hj
      obtain rfl := List.mem_singleton.mp hj
      exact ⟨o, ho, g1, g2.mono fun v G g => ⟨g.1, ih k _ _ _ _ hk h2 g.2⟩⟩
    | fork a b =>
      simp only [Sch.ok, Bool.not_true, Bool.false_or, Bool.and_eq_true, beq_iff_eq] at hok
      obtain ⟨⟨⟨h1, h2⟩, h3⟩, h4⟩ := hok
      refine .inr (.inr (.inr ⟨by rw [h1]; intro e; rw [e] at h2; (cases h2), fun j hj => ?_⟩))
      rw [h1] at hj
      obtain ⟨o, k, g1, g2, g3, g4, g5⟩ := ART.head (t := .fork a b) (j := j) (l := l) hj (by simp only [Sch.ok, Bool.not_false, Bool.true_or, Bool.true_and, Bool.and_eq_true]; exact ⟨h3, h4⟩) h
      exact ⟨o, g1, g2, g5.mono fun v G g => ⟨g.1, ih k _ _ _ _ (by omega) g4 g.2⟩⟩
theorem ART.mono {Q' : Env → Heap → Prop} {Q : Env → Heap → Prop} (hq : ∀ e H, Q e H → Q' e H) : ∀ {t : Sch} {D : List (Nat × List Nat)} {e : Env} {H : Heap}, ART P ops Q t D e H → ART P ops Q' t D e H := by
  intro t
  induction t with
  | fin => intro D e H h; exact hq _ _ h
  | q i k ih =>
    intro D e H h
    obtain ⟨o, ho, ⟨g1, g2⟩ | ⟨g1, v, Db, g2, g3, g4⟩⟩ := h
    · exact ⟨o, ho, .inl ⟨g1, ih g2⟩⟩
    · exact ⟨o, ho, .inr ⟨g1, v, Db, g2, g3, ih g4⟩⟩
  | h i k ih =>
    intro D e H h
    obtain ⟨o, ho, g1, g2⟩ := h
    exact ⟨o, ho, g1, g2.mono fun v G g => ⟨g.1, ih g.2⟩⟩
  | fork a b iha ihb => intro D e H h; exact ⟨iha h.1, ihb h.2⟩
theorem AWP.regT {id : Nat} {e : Env} {H : Heap} (M : Env → Heap → Prop) (t : Sch) (hm : P.follows .mixedOrders = true) (hs : (small n ops && apart ops && Nat.ble t.deep ops.size && Sch.ok ops true (Array.replicate ops.size false) t) = true)
    (hy : ∀ e H, M e H → Q .normal e H) (h : ART P ops M t [] e H) : AWP P n (.region id ops true) Q e H := by
  simp only [Bool.and_eq_true] at hs
  obtain ⟨⟨⟨h1, h2⟩, h3⟩, h4⟩ := hs
  exact AWP.regionD hm h1 h2 (ART_ARD _ t _ [] e H (Nat.le_of_ble_eq_true h3) h4 (ART.mono hy h))
theorem AWP.seqT {id : Nat} {y : Code} {e : Env} {H : Heap} (M : Env → Heap → Prop) (t : Sch) (hm : P.follows .mixedOrders = true) (hs : (small n ops && apart ops && Nat.ble t.deep ops.size && Sch.ok ops true (Array.replicate ops.size false) t) = true)
    (hy : ∀ e H, M e H → AWP P n y Q e H) (h : ART P ops M t [] e H) : AWP P n (.seq (.region id ops true) y) Q e H :=
  AWP.seq (AWP.regT M t hm hs hy h)
end
namespace ART
variable {P : Program} {ops : Array Oper} {K : Env → Heap → Prop} {o : Oper} {e : Env} {H : Heap} {i : Nat} {r : Sch} {D : List (Nat × List Nat)}
theorem done (h : K e H) : ART P ops K .fin D e H := h
theorem fork {a b : Sch} (h : ART P ops K a D e H) (k : ART P ops K b D e H) : ART P ops K (.fork a b) D e H := ⟨h, k⟩
theorem q0 (ho : ops[i]? = some o) {v : AV} {d : Nat} (hw : want ops o e = some true) (hd : o.dst = some d) (hq : Quiet P o e H v []) (h : ART P ops K r ((i, []) :: D) (upd e d v) H) : ART P ops K (.q i r) D e H := ⟨o, ho, .inr ⟨hw, v, [], hq, by simp, by rw [hd]; exact h⟩⟩
theorem q (ho : ops[i]? = some o) {v : AV} {Db : List Nat} {d : Nat} (hw : want ops o e = some true) (hd : o.dst = some d) (hn : ∀ b ∈ Db, H b ≠ none) (hq : Quiet P o e H v Db) (h : ART P ops K r ((i, Db) :: D) (upd e d v) H) : ART P ops K (.q i r) D e H := ⟨o, ho, .inr ⟨hw, v, Db, hq, hn, by rw [hd]; exact h⟩⟩
theorem fewer : ∀ {r : Sch} {D D' : List (Nat × List Nat)} {e : Env} {H : Heap}, (∀ d ∈ D', d ∈ D) → ART P ops K r D e H → ART P ops K r D' e H := by
  intro r
  induction r with
  | fin => intro D D' e H hd h; exact h
  | q i k ih =>
    intro D D' e H hd h
    obtain ⟨o, ho, ⟨g1, g2⟩ | ⟨g1, v, Db, g2, g3, g4⟩⟩ := h
    · exact ⟨o, ho, .inl ⟨g1, ih hd g2⟩⟩
    · refine ⟨o, ho, .inr ⟨g1, v, Db, g2, g3, ih (fun d hd' => ?_) g4⟩⟩
      rcases List.mem_cons.mp hd' with h | h
      · exact h ▸ List.mem_cons_self
      · exact List.mem_cons_of_mem _ (hd _ h)
  | h i k ih =>
    intro D D' e H hd h
    obtain ⟨o, ho, g1, g2⟩ := h
    exact ⟨o, ho, g1, g2.mono fun v G g => ⟨fun d hd' => g.1 d (hd d hd'), ih hd g.2⟩⟩
  | fork a b iha ihb => intro D D' e H hd h; exact ⟨iha hd h.1, ihb hd h.2⟩
theorem g (ho : ops[i]? = some o) {G : Bool} {v : AV} {Db : List Nat} {d : Nat} (a : AV) (c : Bool) (hw : want ops o e = wantOf c a) (hG : wantOf c a = some G) (hd : o.dst = some d) (hn : ∀ b ∈ Db, H b ≠ none) (hq : G = true → Quiet P o e H v Db) (h : ART P ops K r ((i, Db) :: D) (upd e d (bif G then v else .tup [])) H) : ART P ops K (.q i r) D e H := by
  rw [hG] at hw
  cases G with
  | true => exact ⟨o, ho, .inr ⟨hw, v, Db, hq rfl, hn, by rw [hd]; exact h⟩⟩
  | false => exact ⟨o, ho, .inl ⟨hw, by rw [hd]; exact fewer (fun d hd => List.mem_cons_of_mem _ hd) h⟩⟩
theorem x (ho : ops[i]? = some o) {d : Nat} (hw : want ops o e = some true) (hd : o.dst = some d) (hb : true = true) (hl : Heavy P o e H fun v G => (∀ c x, H c = some x → G c = some x) ∧ ART P ops K r D (upd e d v) G) : ART P ops K (.h i r) D e H :=
  ⟨o, ho, hw, hl.mono fun v G g => ⟨fun dd _ => .inr fun b _ hn => by
    cases hH : H b with
    | none => exact absurd hH hn
    | some x => exact g.1 b x hH, by rw [hd]; exact g.2⟩⟩
theorem yD (ho : ops[i]? = some o) (hw : want ops o e = some true) (hD : D.all (fun d => depT ops ops.size o d.1 || d.2.isEmpty) = true) (hl : Heavy P o e H fun v G => ART P ops K r D (putE e o.dst v) G) : ART P ops K (.h i r) D e H :=
  ⟨o, ho, hw, hl.mono fun v G g => ⟨fun d hd' => by
    have := List.all_eq_true.mp hD d hd'
    rw [Bool.or_eq_true] at this
    rcases this with h | h
    · exact .inl h
    · refine .inr fun b hb => ?_
      rw [List.isEmpty_iff.mp h] at hb; (cases hb), g⟩⟩
theorem y (ho : ops[i]? = some o) {d : Nat} (hw : want ops o e = some true) (hd : o.dst = some d) (hb : true = true) (hD : D.all (fun d => depT ops ops.size o d.1 || d.2.isEmpty) = true) (hl : Heavy P o e H fun v G => ART P ops K r D (upd e d v) G) : ART P ops K (.h i r) D e H :=
  yD ho hw hD (by rw [hd]; exact hl)
theorem n (ho : ops[i]? = some o) (hw : want ops o e = some true) (hd : o.dst = none) (hb : true = true) (hD : D.all (fun d => depT ops ops.size o d.1 || d.2.isEmpty) = true) (hl : Heavy P o e H fun v G => ART P ops K r D e G) : ART P ops K (.h i r) D e H :=
  yD ho hw hD (by rw [hd]; exact hl)
theorem yB (ho : ops[i]? = some o) {d : Nat} {v : AV} (hw : want ops o e = some true) (hd : o.dst = some d) (hb : true = true) (hD : DB ops o v D) (hl : Heavy P o e H fun u G => Beside v H G ∧ ART P ops K r D (upd e d u) G) : ART P ops K (.h i r) D e H :=
  ⟨o, ho, hw, hl.mono fun u G g => ⟨fun d hd' => by
    rcases hD.get d hd' with h | h
    · exact .inl h
    · refine .inr fun b hb hn => ?_
      cases hH : H b with
      | none => exact absurd hH hn
      | some x => exact g.1 b x (h b hb) hH, by rw [hd]; exact g.2⟩⟩
end ART
/-- What was read ahead lies apart from what is written. -/
def DBl (ops : Array Oper) (o : Oper) (bs : List Nat) : List (Nat × List Nat) → Prop
  | [] => True
  | d :: r => (depT ops ops.size o d.1 = true ∨ ∀ b ∈ d.2, b ∉ bs) ∧ DBl ops o bs r
theorem DBl.get {ops : Array Oper} {bs : List Nat} {o : Oper} : ∀ {D : List (Nat × List Nat)}, DBl ops o bs D → ∀ d ∈ D, depT ops ops.size o d.1 = true ∨ ∀ b ∈ d.2, b ∉ bs
  | d :: r, ⟨h1, h2⟩, q, hq => by
    rcases List.mem_cons.mp hq with rfl | hq
    · exact h1
    · exact DBl.get h2 q hq
def BesL (bs : List Nat) (H G : Heap) : Prop := ∀ c x, c ∉ bs → H c = some x → G c = some x
section
variable {P : Program} {o : Oper} {e : Env} {H : Heap} {ops : Array Oper}
theorem besOk {D : List (Nat × List Nat)} {bs : List Nat} {G : Heap} (hD : DBl ops o bs D) (g : BesL bs H G) : ∀ d ∈ D, depT ops ops.size o d.1 = true ∨ ∀ b ∈ d.2, H b ≠ none → G b = H b := fun d hd' => by
  rcases hD.get d hd' with h | h
  · exact .inl h
  · refine .inr fun b hb hn => ?_
    cases hH : H b with
    | none => exact absurd hH hn
    | some x => exact g b x (h b hb) hH
theorem ARL.nB {Q : Env → Heap → Prop} {i : Nat} {m : Bool} {r : List (Nat × Bool × Oper)} {D : List (Nat × List Nat)} {bs : List Nat} (hw : want ops o e = some true) (hd : o.dst = none) (hb : m = true) (hD : DBl ops o bs D) (hl : Heavy P o e H fun _ G => BesL bs H G ∧ ARL P ops Q r D e G) : ARL P ops Q ((i, m, o) :: r) D e H :=
  .inr (.inr ⟨hw, hb, hl.mono fun u G g => ⟨besOk hD g.1, by rw [hd]; exact g.2⟩⟩)
theorem ART.nB {K : Env → Heap → Prop} {i : Nat} {r : Sch} {D : List (Nat × List Nat)} {bs : List Nat} (ho : ops[i]? = some o) (hw : want ops o e = some true) (hd : o.dst = none) (hb : true = true) (hD : DBl ops o bs D) (hl : Heavy P o e H fun _ G => BesL bs H G ∧ ART P ops K r D e G) : ART P ops K (.h i r) D e H :=
  ⟨o, ho, hw, hl.mono fun u G g => ⟨besOk hD g.1, by rw [hd]; exact g.2⟩⟩
variable {K : AV → Heap → Prop}
theorem hPutB {L : List Res} (hS : Sep H L) {j t b p : Nat} {x y : Operand} {v : AV} {cs : List AV} (hk : L[j]? = some (.cell b cs)) (ho : o.op = .store t x y) (hs : sizeA P t = some 1) (hx : ev e x = .ptr b p) (hy : ev e y = v) (h1 : v.one = true) (hp : p < cs.length)
    (h : ∀ G, BesL [b] H G → Sep G (L.set j (.cell b (cs.set p v))) → K .undef G) : Heavy P o e H K :=
  opStoreAt ho hs hx hy (hS.get hk : At _ _ _) h1 hp fun G hA hN => h G (fun c x hc hx => hN c x (fun k => hc (by simp [k])) hx) (hS.upd hk hA (fun c x hc hx => hN c x (fun k => hc (by simp [Res.blks, k])) hx) fun c hc => .inl hc)
theorem hPutAB {L : List Res} (hS : Sep H L) {j t b p s : Nat} {x y : Operand} {v : AV} {cs : List AV} (hk : L[j]? = some (.cell b cs)) (ho : o.op = .store t x y) (hs : sizeA P t = some s) (hx : ev e x = .ptr b p) (hy : ev e y = v) (hv : v.told = true) (hl : (cells v).length = s) (h1 : (cells v).all AV.one = true) (hp : p + s ≤ cs.length)
    (h : ∀ G, BesL [b] H G → Sep G (L.set j (.cell b (setAll cs p (cells v)))) → K .undef G) : Heavy P o e H K :=
  opStoreAtA ho hs hx hy (hS.get hk : At _ _ _) hv hl h1 hp fun G hA hN => h G (fun c x hc hx => hN c x (fun k => hc (by simp [k])) hx) (hS.upd hk hA (fun c x hc hx => hN c x (fun k => hc (by simp [Res.blks, k])) hx) fun c hc => .inl hc)
theorem hStB {L : List Res} (hS : Sep H L) {j m t s : Nat} {x y : Operand} {α : Type} {f : α → AV} {zs : List α} {a : α} {i : Int} {v : AV} (hk : L[j]? = some (.row s v (zs.map f))) (hm : ck i zs.length = some m) (ho : o.op = .store t x y) (hs : sizeA P t = some s) (hx : ev e x = ptrTo v m s) (hy : ev e y = f a)
    (h1 : (f a).told = true ∧ (cells (f a)).length = s ∧ (cells (f a)).all AV.one = true) (h : ∀ G, BesL (rowB v) H G → Sep G (L.set j (.row s v ((zs.set m a).map f))) → K .undef G) : Heavy P o e H K :=
  opStoreRow ho hs hx hy (hS.get hk : Own _ _ _ _) (by obtain ⟨_, _, _, h⟩ := ckE hm; simpa using h) h1.1 h1.2.1 h1.2.2 fun G hG hB =>
    h G (fun c x hc hx => hB c x hc hx) (hS.upd hk (by rw [List.map_set]; exact hG) (fun c x hc hx => hB c x hc hx) fun c hc => .inl hc)
theorem hStFB {L : List Res} (hS : Sep H L) {j m t s p : Nat} {x y : Operand} {α : Type} [Inhabited α] {f : α → AV} (g : α → α) {zs : List α} {i : Int} {v u : AV} (hk : L[j]? = some (.row s v (zs.map f))) (hm : ck i zs.length = some m) (ho : o.op = .store t x y) (hs : sizeA P t = some 1) (hx : ev e x = ptrOff v m s p) (hy : ev e y = u)
    (hg : ∀ a, ∃ ys, f a = .agg ys ∧ p < ys.length ∧ f (g a) = .agg (ys.set p u)) (h1 : u.one = true) (h : ∀ G, BesL (rowB v) H G → Sep G (L.set j (.row s v ((zs.set m (g (zs.getD m default))).map f))) → K .undef G) : Heavy P o e H K := by
  obtain ⟨h0, h1', rfl, h3⟩ := ckE hm
  have hO : Own s H v (zs.map f) := hS.get hk
  obtain ⟨b, q, c, rfl⟩ := hO.slc (by simp; omega)
  have hz : zs[i.toNat]? = some (zs.getD i.toNat default) := by simp [h3]
  obtain ⟨ys, e1, e2, e3⟩ := hg (zs.getD i.toNat default)
  refine opStoreOwnF (xs := zs.map f) (ys := ys) (i := i.toNat) (j := p) ho hs hx rfl hy hO (by rw [List.getElem?_map, hz, Option.map_some, e1]) e2 h1 fun G hG hB => h G (fun c x hc hx => hB c x hc hx) (hS.upd hk (r' := .row s _ _) ?_ (fun c x hc hx => hB c x hc hx) fun c hc => .inl hc)
  show Own _ _ _ _
  rw [List.map_set, e3]
  exact hG

end
/-- What was read ahead lies in what a call does not reach. -/
def DFl (ops : Array Oper) (o : Oper) (fs : List Res) : List (Nat × List Nat) → Prop
  | [] => True
  | d :: r => (depT ops ops.size o d.1 = true ∨ ∀ b ∈ d.2, b ∈ fs.flatMap Res.blks) ∧ DFl ops o fs r
theorem DFl.get {ops : Array Oper} {fs : List Res} {o : Oper} : ∀ {D : List (Nat × List Nat)}, DFl ops o fs D → ∀ d ∈ D, depT ops ops.size o d.1 = true ∨ ∀ b ∈ d.2, b ∈ fs.flatMap Res.blks
  | d :: r, ⟨h1, h2⟩, q, hq => by
    rcases List.mem_cons.mp hq with rfl | hq
    · exact h1
    · exact DFl.get h2 q hq
theorem inF {F : List Res} {k : Nat} {r : Res} (hk : F[k]? = some r) : ∀ c ∈ r.blks, c ∈ F.flatMap Res.blks := fun c hc => List.mem_flatMap.mpr ⟨r, List.mem_of_getElem? hk, hc⟩
def KeepF (F : List Res) (H G : Heap) : Prop := ∀ c ∈ F.flatMap Res.blks, ∀ x, H c = some x → G c = some x
section
variable {P : Program} {o : Oper} {e : Env} {H : Heap} {ops : Array Oper}
theorem keepOk {D : List (Nat × List Nat)} {fs : List Res} {G : Heap} (hD : DFl ops o fs D) (g : KeepF fs H G) : ∀ d ∈ D, depT ops ops.size o d.1 = true ∨ ∀ b ∈ d.2, H b ≠ none → G b = H b := fun d hd' => by
  rcases hD.get d hd' with h | h
  · exact .inl h
  · refine .inr fun b hb hn => ?_
    cases hH : H b with
    | none => exact absurd hH hn
    | some x => exact g b (h b hb) x hH
theorem ARL.yK {Q : Env → Heap → Prop} {i : Nat} {m : Bool} {r : List (Nat × Bool × Oper)} {D : List (Nat × List Nat)} {fs : List Res} {d : Nat} (hw : want ops o e = some true) (hd : o.dst = some d) (hb : m = true) (hD : DFl ops o fs D) (hl : Heavy P o e H fun u G => KeepF fs H G ∧ ARL P ops Q r D (upd e d u) G) : ARL P ops Q ((i, m, o) :: r) D e H :=
  .inr (.inr ⟨hw, hb, hl.mono fun u G g => ⟨keepOk hD g.1, by rw [hd]; exact g.2⟩⟩)
theorem ARL.nK {Q : Env → Heap → Prop} {i : Nat} {m : Bool} {r : List (Nat × Bool × Oper)} {D : List (Nat × List Nat)} {fs : List Res} (hw : want ops o e = some true) (hd : o.dst = none) (hb : m = true) (hD : DFl ops o fs D) (hl : Heavy P o e H fun _ G => KeepF fs H G ∧ ARL P ops Q r D e G) : ARL P ops Q ((i, m, o) :: r) D e H :=
  .inr (.inr ⟨hw, hb, hl.mono fun u G g => ⟨keepOk hD g.1, by rw [hd]; exact g.2⟩⟩)
theorem ART.yK {K : Env → Heap → Prop} {i : Nat} {r : Sch} {D : List (Nat × List Nat)} {fs : List Res} {d : Nat} (ho : ops[i]? = some o) (hw : want ops o e = some true) (hd : o.dst = some d) (hb : true = true) (hD : DFl ops o fs D) (hl : Heavy P o e H fun u G => KeepF fs H G ∧ ART P ops K r D (upd e d u) G) : ART P ops K (.h i r) D e H :=
  ⟨o, ho, hw, hl.mono fun u G g => ⟨keepOk hD g.1, by rw [hd]; exact g.2⟩⟩
theorem ART.nK {K : Env → Heap → Prop} {i : Nat} {r : Sch} {D : List (Nat × List Nat)} {fs : List Res} (ho : ops[i]? = some o) (hw : want ops o e = some true) (hd : o.dst = none) (hb : true = true) (hD : DFl ops o fs D) (hl : Heavy P o e H fun _ G => KeepF fs H G ∧ ART P ops K r D e G) : ART P ops K (.h i r) D e H :=
  ⟨o, ho, hw, hl.mono fun u G g => ⟨keepOk hD g.1, by rw [hd]; exact g.2⟩⟩
theorem Sep.shotB {L F : List Res} (h : Sep H (L ++ F)) : ∃ S, Sep H (L ++ [.snap S]) ∧ ∀ (G : Heap) (L' : List Res), Sep G (L' ++ [.snap S]) → KeepF F H G ∧ Sep G (L' ++ F) := by
  obtain ⟨h1, h2, h3⟩ := Sep.split.mp h
  have hmem : ∀ q, q ∈ (F.flatMap Res.blks).filterMap (fun c => (H c).map fun x => (c, x)) ↔ q.1 ∈ F.flatMap Res.blks ∧ H q.1 = some q.2 := by
    intro q
    rw [List.mem_filterMap]
    constructor
    · rintro ⟨c, hc, hq⟩
      cases hx : H c with
      | none => rw [hx] at hq; cases hq
      | some x => rw [hx] at hq; simp at hq; subst hq; exact ⟨hc, hx⟩
    · rintro ⟨hc, hx⟩
      exact ⟨q.1, hc, by rw [hx]; rfl⟩
  refine ⟨(F.flatMap Res.blks).filterMap (fun c => (H c).map fun x => (c, x)), Sep.split.mpr ⟨h1, ⟨fun q hq => ((hmem q).mp hq).2, by simp, trivial⟩, fun r hr q hq c hc hc' => ?_⟩, fun G L' hG => ?_⟩
  · rw [List.mem_singleton.mp hq] at hc'
    obtain ⟨p, hp, rfl⟩ := List.mem_map.mp hc'
    obtain ⟨t, ht, hc2⟩ := List.mem_flatMap.mp ((hmem p).mp hp).1
    exact h3 r hr t ht _ hc hc2
  · obtain ⟨g1, g2, g3⟩ := Sep.split.mp hG
    have hs := g2.all _ List.mem_cons_self
    refine ⟨fun c hc x hx => hs (c, x) ((hmem (c, x)).mpr ⟨hc, hx⟩), Sep.split.mpr ⟨g1, h2.keep fun r hr c hc x hx => hs (c, x) ((hmem (c, x)).mpr ⟨List.mem_flatMap.mpr ⟨r, hr, hc⟩, hx⟩), fun r hr q hq c hc hc' => ?_⟩⟩
    obtain ⟨x, hx⟩ := (h2.all q hq).has hc'
    exact g3 r hr _ List.mem_cons_self c hc (List.mem_map.mpr ⟨(c, x), (hmem (c, x)).mpr ⟨List.mem_flatMap.mpr ⟨q, hq, hc'⟩, hx⟩, rfl⟩)
theorem hCallSB {K : AV → Heap → Prop} {A L F : List Res} (hS : Sep H A) (ks : List Nat) (hn : nodupB ks = true) {fo : Operand} {as : Array Operand} {ts : Array TypeId} {f : FuncId} {first caps bs : List AV} {R : AV → List Res → Prop} (ho : o.op = .call ⟨.value fo, as, ts⟩) (hf : ev e fo = .fn (.func f) first caps)
    (hc : callable P f = true) (h : HS P f bs L R) (hp : ks.map (fun k => A[k]?) = (L ++ F).map some) (hb : bs = first ++ as.toList.map (ev e) ++ caps) (k : ∀ v L' G, R v L' → KeepF F H G → Sep G (L' ++ F) → K v G) : Heavy P o e H K := by
  obtain ⟨S, s1, s2⟩ := (hS.pick ks hn hp).shotB
  exact opCall ho hf hc (by rw [← hb]; exact (h H S s1).mono fun v G ⟨L', g1, g2⟩ => k v L' G g1 (s2 G L' g2).1 (s2 G L' g2).2)
end
section
variable {P : Program} {ops : Array Oper} {K : Env → Heap → Prop} {o : Oper} {e : Env} {H : Heap}
/-- An operation that writes, if a guard says so. -/
theorem ASL.xG {r : List Oper} {G : Bool} {d : Nat} (a : AV) (c : Bool) (R : AV → Heap → Prop) (hw : want ops o e = wantOf c a) (hG : wantOf c a = some G) (hd : o.dst = some d) (hq : G = true → Heavy P o e H R) (hf : G = false → R (.tup []) H) (h : ∀ v G', R v G' → ASL P ops K r (upd e d v) G') : ASL P ops K (o :: r) e H := by
  rw [hG] at hw
  cases G with
  | true => exact .inr ⟨hw, (hq rfl).mono fun v G' g => by rw [hd]; exact h v G' g⟩
  | false => exact .inl ⟨hw, by rw [hd]; exact h _ _ (hf rfl)⟩
end
end Go.Proofs.Ythdoebgikbfndaa.E
