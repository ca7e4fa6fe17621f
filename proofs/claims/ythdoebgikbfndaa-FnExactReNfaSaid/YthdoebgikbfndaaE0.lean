/- The ground of our proofs: values with immutable lists told by what they hold, a small heap of what a call owns, and how both stand to the machine's world. -/
import Derived.Orders
import Derived.Below
import Derived.Laws.Cells
namespace Go.Proofs.Ythdoebgikbfndaa.E
open Go Go.RowKit
set_option linter.unusedVariables false

/-- A value as our proofs tell it: a slice that nobody writes any more is the list of its elements (with how many cells each has). -/
inductive AV where
  | undef
  | int (k : IntKind) (n : Int)
  | bool (b : Bool)
  | str (s : ByteArray)
  | nil
  | list (s : Nat) (xs : List AV)
  | slc (b o len cap : Nat)
  | nilptr
  | ptr (b o : Nat)
  | rptr (xs : List AV)
  | agg (xs : List AV)
  | tup (xs : List AV)
  | fn (f : Fn) (first caps : List AV)
  | mapp (r : Nat)
  deriving Inhabited

abbrev Imm := Nat → Nat → Option Value
abbrev Env := Nat → AV

def cells : AV → List AV
  | .agg xs => xs
  | v => [v]

def flat (xs : List AV) : List AV := xs.flatMap cells

def Imm.le (ι κ : Imm) : Prop := ∀ b o v, ι b o = some v → κ b o = some v
theorem Imm.le_refl (ι : Imm) : ι.le ι := fun _ _ _ h => h
theorem Imm.le_trans {ι κ μ : Imm} (h : ι.le κ) (k : κ.le μ) : ι.le μ := fun _ _ _ e => k _ _ _ (h _ _ _ e)

inductive V (ι : Imm) : AV → Value → Prop where
  | undef (v : Value) : V ι .undef v
  | int (k : IntKind) (n : Int) : V ι (.int k n) (.int k n)
  | bool (b : Bool) : V ι (.bool b) (.bool b)
  | str (s : ByteArray) : V ι (.str s) (.string s)
  | nil : V ι .nil (.slice none 0 0)
  | listNil (s : Nat) (a : Option Addr) (c : Nat) : V ι (.list s []) (.slice a 0 c)
  | list {s : Nat} {xs : List AV} {b o cap : Nat} (vs : Nat → Value) (hs : ∀ x ∈ xs, (cells x).length = s) (hc : xs.length ≤ cap)
      (h1 : ∀ p, p < (flat xs).length → ι b (o + p) = some (vs p)) (h2 : ∀ p (h : p < (flat xs).length), V ι ((flat xs)[p]) (vs p)) :
      V ι (.list s xs) (.slice (some ⟨b, o, none⟩) xs.length cap)
  | slc (b o len cap : Nat) : V ι (.slc b o len cap) (.slice (some ⟨b, o, none⟩) len cap)
  | nilptr : V ι .nilptr (.pointer none)
  | ptr (b o : Nat) : V ι (.ptr b o) (.pointer (some ⟨b, o, none⟩))
  | rptr {xs : List AV} {b o : Nat} (vs : Nat → Value) (h1 : ∀ p, p < xs.length → ι b (o + p) = some (vs p))
      (h2 : ∀ p (h : p < xs.length), V ι (xs[p]) (vs p)) : V ι (.rptr xs) (.pointer (some ⟨b, o, none⟩))
  | agg {xs : List AV} (cs : Array Value) (hl : cs.size = xs.length) (h : ∀ p (h : p < xs.length), V ι (xs[p]) (cs.getD p undef)) : V ι (.agg xs) (.agg cs)
  | tup {xs : List AV} (cs : Array Value) (hl : cs.size = xs.length) (h : ∀ p (h : p < xs.length), V ι (xs[p]) (cs.getD p undef)) : V ι (.tup xs) (.tuple cs)
  | fn {f : Fn} {xs ys : List AV} (cs ds : Array Value) (hl : cs.size = xs.length) (hm : ds.size = ys.length) (h : ∀ p (h : p < xs.length), V ι (xs[p]) (cs.getD p undef))
      (k : ∀ p (h : p < ys.length), V ι (ys[p]) (ds.getD p undef)) : V ι (.fn f xs ys) (.func f cs ds)
  | mapp (r : Nat) : V ι (.mapp r) (.map (some r))

theorem V.mono {ι κ : Imm} (h : ι.le κ) {a : AV} {v : Value} (hv : V ι a v) : V κ a v := by
  induction hv with
  | undef v => exact .undef v
  | int k n => exact .int k n
  | bool b => exact .bool b
  | str s => exact .str s
  | nil => exact .nil
  | listNil s a c => exact .listNil s a c
  | list vs hs hc h1 _ ih => exact .list vs hs hc (fun p hp => h _ _ _ (h1 p hp)) ih
  | slc b o l c => exact .slc b o l c
  | nilptr => exact .nilptr
  | ptr b o => exact .ptr b o
  | rptr vs h1 _ ih => exact .rptr vs (fun p hp => h _ _ _ (h1 p hp)) ih
  | agg cs hl _ ih => exact .agg cs hl ih
  | tup cs hl _ ih => exact .tup cs hl ih
  | fn cs ds hl hm _ _ ih1 ih2 => exact .fn cs ds hl hm ih1 ih2
  | mapp r => exact .mapp r

/-- What a call owns of memory: for a block's number the cells from 'lo' on, and room up to 'hi'. -/
structure Blk where
  lo : Nat
  cs : List AV
  hi : Nat
  /-- what is known of a block that is no cells (a map, a walk through one) -/
  ob : Option (Option Obj → Prop)

abbrev Heap := Nat → Option Blk

def Heap.set (H : Heap) (b : Nat) (x : Blk) : Heap := fun k => if k = b then some x else H k
def Heap.del (H : Heap) (b : Nat) : Heap := fun k => if k = b then none else H k
theorem Heap.set_same (H : Heap) (b : Nat) (x : Blk) : H.set b x b = some x := by simp [Heap.set]
theorem Heap.set_ne (H : Heap) {b c : Nat} (x : Blk) (h : c ≠ b) : H.set b x c = H c := by simp [Heap.set, h]
theorem Heap.del_same (H : Heap) (b : Nat) : H.del b b = none := by simp [Heap.del]
theorem Heap.del_ne (H : Heap) {b c : Nat} (h : c ≠ b) : H.del b c = H c := by simp [Heap.del, h]

/-- Where a call began: what lies below 'base' is not the call's. -/
structure Base where
  base : Nat
  w : World
  ι : Imm

/-- What lies below B stays, and the draws go on. -/
structure Bel (B : Nat) (w w' : World) : Prop where
  low : Below B w w'
  drw : w.drawn ≤ w'.drawn
namespace Bel
theorem os {B : Nat} {w w' : World} (h : Bel B w w') : w'.os = w.os := h.low.os
theorem tape {B : Nat} {w w' : World} (h : Bel B w w') : w'.tape = w.tape := h.low.tape
theorem output {B : Nat} {w w' : World} (h : Bel B w w') : w'.output = w.output := h.low.output
theorem size {B : Nat} {w w' : World} (h : Bel B w w') : w.heap.size ≤ w'.heap.size := h.low.size
theorem block {B : Nat} {w w' : World} (h : Bel B w w') : ∀ k, k < B → w'.heap[k]? = w.heap[k]? := h.low.block
theorem refl (B : Nat) (w : World) : Bel B w w := ⟨Below.refl B w, Nat.le_refl _⟩
theorem trans {B : Nat} {a b c : World} (h : Bel B a b) (k : Bel B b c) : Bel B a c := ⟨h.low.trans k.low, Nat.le_trans h.drw k.drw⟩
theorem mono {B B' : Nat} {w w' : World} (h : Bel B w w') (hB : B' ≤ B) : Bel B' w w' := ⟨h.low.mono hB, h.drw⟩
theorem drew {B : Nat} {a w : World} (h : Bel B a w) : Bel B a w.drew := ⟨h.low.drew, Nat.le_succ_of_le h.drw⟩
theorem alloc {B : Nat} {a w : World} (h : Bel B a w) (hB : B ≤ w.heap.size) (o : Obj) : Bel B a (w.alloc o) := ⟨h.low.alloc hB o, h.drw⟩
theorem setCell {B : Nat} {a w : World} (h : Bel B a w) {p : Addr} (hp : B ≤ p.block) (u : Value) : Bel B a (w.setCell p u) := ⟨h.low.setCell hp u, by have : (w.setCell p u).drawn = w.drawn := by unfold World.setCell; split <;> rfl
                                                                                                                                                       rw [this]; exact h.drw⟩
theorem frozen {B : Nat} {w w' : World} (h : Bel B w w') {p : Addr} (hp : p.block < B) : w'.frozen? p = w.frozen? p := h.low.frozen hp
theorem cell {B : Nat} {w w' : World} (h : Bel B w w') {p : Addr} (hp : p.block < B) : w'.cell? p = w.cell? p := h.low.cell hp
end Bel
structure Rel (B : Base) (ι : Imm) (H : Heap) (w : World) : Prop where
  below : Bel B.base B.w w
  size : B.base ≤ w.heap.size
  imm : ∀ b o v, ι b o = some v → w.cell? ⟨b, o, none⟩ = some v
  iold : ∀ b o, b < B.base → ι b o = B.ι b o
  lo : ∀ b x, H b = some x → B.base ≤ b ∧ b < w.heap.size ∧ x.lo + x.cs.length ≤ x.hi
  cell : ∀ b x, H b = some x → ∀ p (h : p < x.cs.length), ∃ v, w.cell? ⟨b, x.lo + p, none⟩ = some v ∧ V ι (x.cs[p]) v
  room : ∀ b x, H b = some x → ∀ o, x.lo ≤ o → o < x.hi → (∃ v, w.cell? ⟨b, o, none⟩ = some v) ∧ w.frozen? ⟨b, o, none⟩ = false ∧ ι b o = none
  obj : ∀ b x, H b = some x → ∀ q, x.ob = some q → x.hi = 0 ∧ q (w.heap[b]?)

structure EnvR (n : Nat) (ι : Imm) (e : Env) (a : Act) : Prop where
  size : a.tmps.size = n
  defers : a.defers = []
  val : ∀ t, V ι (e t) (a.tmps.getD t undef)

theorem EnvR.mono {n : Nat} {ι κ : Imm} {e : Env} {a : Act} (h : ι.le κ) (k : EnvR n ι e a) : EnvR n κ e a :=
  ⟨k.size, k.defers, fun t => (k.val t).mono h⟩

def upd (e : Env) (t : Nat) (v : AV) : Env := fun s => bif Nat.beq s t then v else e s
def putE (e : Env) : Option Nat → AV → Env
  | none, _ => e
  | some t, v => upd e t v

theorem upd_same (e : Env) (t : Nat) (v : AV) : upd e t v t = v := by simp [upd]
theorem upd_ne (e : Env) {s t : Nat} (v : AV) (h : s ≠ t) : upd e t v s = e s := by
  have : Nat.beq s t = false := by
    cases hb : Nat.beq s t with
    | false => rfl
    | true => exact absurd (Nat.eq_of_beq_eq_true hb) h
  simp [upd, this]

theorem EnvR.put {n : Nat} {ι : Imm} {e : Env} {a : Act} (k : EnvR n ι e a) {d : Option Nat} (hd : ∀ t, d = some t → t < n) {v : AV} {r : Value} (hv : V ι v r) :
    EnvR n ι (putE e d v) (a.put d r) := by
  cases d with
  | none => exact k
  | some t =>
    have ht := hd t rfl
    refine ⟨by simp [Act.put, k.size], k.defers, fun s => ?_⟩
    by_cases hs : s = t
    · subst hs
      have : s < a.tmps.size := by rw [k.size]; exact ht
      simp [putE, upd_same, Act.put, Array.getD, this]
      exact hv
    · have h0 := k.val s
      simp only [putE, upd_ne e v hs, Act.put]
      have : (a.tmps.setIfInBounds t r).getD s undef = a.tmps.getD s undef := by
        simp only [Array.getD_eq_getD_getElem?]
        rw [Array.getElem?_setIfInBounds_ne (fun h => hs h.symm)]
      rw [this]
      exact h0

def avOf : Value → AV
  | .int k n => .int k n
  | .bool b => .bool b
  | .string s => .str s
  | .slice none 0 0 => .nil
  | .pointer none => .nilptr
  | .agg cs => .agg (cs.toList.map fun
      | .int k n => .int k n
      | .bool b => .bool b
      | .string s => .str s
      | .slice none 0 0 => .nil
      | .pointer none => .nilptr
      | _ => .undef)
  | _ => .undef

theorem avOf_cell (ι : Imm) (v : Value) : V ι (match v with
      | .int k n => .int k n
      | .bool b => .bool b
      | .string s => .str s
      | .slice none 0 0 => .nil
      | .pointer none => .nilptr
      | _ => .undef) v := by
  split <;> constructor

theorem avOf_V (ι : Imm) (v : Value) : V ι (avOf v) v := by
  unfold avOf
  split
  · constructor
  · constructor
  · constructor
  · constructor
  · constructor
  · rename_i cs
    refine .agg cs (by simp) fun p hp => ?_
    have hp' : p < cs.size := by simpa using hp
    simp only [List.getElem_map, Array.getElem_toList]
    have : cs.getD p undef = cs[p] := by simp [Array.getD, hp']
    rw [this]
    exact avOf_cell ι _
  · constructor

def ev (e : Env) : Operand → AV
  | .tmp t => e t
  | .const v => avOf v
  | .global _ => .undef
  | .func f => .fn (.func f) [] []

theorem EnvR.ev {n : Nat} {ι : Imm} {e : Env} {a : Act} (k : EnvR n ι e a) (x : Operand) : V ι (E.ev e x) (a.eval x) := by
  cases x with
  | tmp t => exact k.val t
  | const v => exact avOf_V ι v
  | global g => exact .undef _
  | func f => exact .fn #[] #[] rfl rfl (fun p h => absurd h (by simp)) (fun p h => absurd h (by simp))

/-- An operation, told: run where env and heap stand for the machine's, it yields a value and a heap of which K holds. -/
def AOp (P : Program) (o : Oper) (e : Env) (H : Heap) (K : AV → Heap → Prop) : Prop :=
  ∀ (B : Base) (ι : Imm) (a : Act) (w : World) (n : Nat), Rel B ι H w → EnvR n ι e a →
    ∀ (next : Act → World → Prop) (Q : Exit → Act → World → Prop),
      (∀ v r w' κ H', K v H' → V κ v r → ι.le κ → Rel B κ H' w' → next (a.put o.dst r) w') → o.wp P a w next Q

def Agr (o : Oper) (e e' : Env) : Prop := ∀ x ∈ o.op.operands, ev e' x = ev e x
theorem Agr.refl (o : Oper) (e : Env) : Agr o e e := fun _ _ => rfl

/-- An operation that may be moved: it yields v in each heap that is alike on D, and leaves it as it is. -/
def Light (P : Program) (o : Oper) (e : Env) (H : Heap) (v : AV) (D : List Nat) : Prop :=
  ∀ e' H', Agr o e e' → (∀ b ∈ D, H' b = H b) → AOp P o e' H' fun u G => u = v ∧ G = H'
def Heavy (P : Program) (o : Oper) (e : Env) (H : Heap) (K : AV → Heap → Prop) : Prop :=
  ∀ e', Agr o e e' → AOp P o e' H K

theorem Light.heavy {P : Program} {o : Oper} {e : Env} {H : Heap} {v : AV} {D : List Nat} (h : Light P o e H v D) {K : AV → Heap → Prop} (k : K v H) : Heavy P o e H K := by
  intro e' he B ι a w n hr hE next Q hk
  exact h e' H he (fun _ _ => rfl) B ι a w n hr hE next Q fun u r w' κ G hu hv hle hrel => by obtain ⟨rfl, rfl⟩ := hu; exact hk _ _ _ _ _ k hv hle hrel

theorem Heavy.mono {P : Program} {o : Oper} {e : Env} {H : Heap} {K K' : AV → Heap → Prop} (h : Heavy P o e H K) (k : ∀ v G, K v G → K' v G) : Heavy P o e H K' :=
  fun e' he B ι a w n hr hE next Q hk => h e' he B ι a w n hr hE next Q fun u r w' κ G hu hv hle hrel => hk _ _ _ _ _ (k _ _ hu) hv hle hrel

/-- A light operation whose run reads nothing of the heap. -/
theorem Light.of_run {P : Program} {o : Oper} {e : Env} {H : Heap} {v : AV}
    (h : ∀ (ι : Imm) (ρ : Operand → Value) (w : World), (∀ b o v, ι b o = some v → w.cell? ⟨b, o, none⟩ = some v) → (∀ x ∈ o.op.operands, V ι (ev e x) (ρ x)) →
      ∃ r, (execOp ρ o).run P w = .ok (.value r) w ∧ V ι v r) : Light P o e H v [] := by
  intro e' H' he _ B ι a w n hr hE next Q hk
  obtain ⟨r, h1, h2⟩ := h ι a.eval w hr.imm (fun x hx => by rw [← he x hx]; exact hE.ev x)
  unfold Oper.wp
  rw [h1]
  exact hk v r w ι H' ⟨rfl, rfl⟩ h2 (Imm.le_refl _) hr

/-- The post that the machine is asked for. -/
def LQ (B : Base) (n : Nat) (ι : Imm) (Q : Exit → Env → Heap → Prop) : Exit → Act → World → Prop :=
  fun x a w => ∃ κ e H, ι.le κ ∧ Rel B κ H w ∧ EnvR n κ e a ∧ Q x e H

/-- The code, told. -/
def AWP (P : Program) (n : Nat) (c : Code) (Q : Exit → Env → Heap → Prop) (e : Env) (H : Heap) : Prop :=
  ∀ (B : Base) (ι : Imm) (a : Act) (w : World), Rel B ι H w → EnvR n ι e a → c.wp P (LQ B n ι Q) a w

section rules
variable {P : Program} {n : Nat} {Q : Exit → Env → Heap → Prop} {e : Env} {H : Heap}

theorem LQ.mono {B : Base} {ι κ : Imm} (h : ι.le κ) {Q Q' : Exit → Env → Heap → Prop} (hq : ∀ x e H, Q x e H → Q' x e H) {x : Exit} {a : Act} {w : World} (k : LQ B n κ Q x a w) : LQ B n ι Q' x a w := by
  obtain ⟨μ, e, H, h1, h2, h3, h4⟩ := k
  exact ⟨μ, e, H, Imm.le_trans h h1, h2, h3, hq _ _ _ h4⟩

theorem AWP.mono {c : Code} {Q' : Exit → Env → Heap → Prop} (h : AWP P n c Q e H) (hq : ∀ x e H, Q x e H → Q' x e H) : AWP P n c Q' e H :=
  fun B ι a w hr hE => wp_mono (h B ι a w hr hE) fun _ _ _ k => k.mono (Imm.le_refl _) hq

theorem AWP.skip (h : Q .normal e H) : AWP P n .skip Q e H := fun B ι a w hr hE => wp_skip ⟨ι, e, H, Imm.le_refl _, hr, hE, h⟩
theorem AWP.exit {id : Nat} (h : Q (.exit id) e H) : AWP P n (.exit id) Q e H := fun B ι a w hr hE => wp_exit ⟨ι, e, H, Imm.le_refl _, hr, hE, h⟩
theorem AWP.ret (h : Q .ret e H) : AWP P n .ret Q e H := fun B ι a w hr hE => wp_ret ⟨ι, e, H, Imm.le_refl _, hr, hE, h⟩

def QThen (K : Env → Heap → Prop) (Q : Exit → Env → Heap → Prop) : Exit → Env → Heap → Prop
  | .normal, e, H => K e H
  | x, e, H => Q x e H

theorem AWP.seq {x y : Code} (h : AWP P n x (QThen (AWP P n y Q) Q) e H) : AWP P n (.seq x y) Q e H := by
  intro B ι a w hr hE
  refine wp_seq (wp_mono (h B ι a w hr hE) ?_)
  intro ex a' w' k
  obtain ⟨κ, e', H', hle, hr', hE', hq⟩ := k
  cases ex with
  | normal => exact wp_mono (hq B κ a' w' hr' hE') fun _ _ _ k => k.mono hle fun _ _ _ h => h
  | exit id => exact ⟨κ, e', H', hle, hr', hE', hq⟩
  | goto l => exact ⟨κ, e', H', hle, hr', hE', hq⟩
  | ret => exact ⟨κ, e', H', hle, hr', hE', hq⟩
  | panic c => exact ⟨κ, e', H', hle, hr', hE', hq⟩
  | outgrown => exact ⟨κ, e', H', hle, hr', hE', hq⟩

theorem V.bool_inv {ι : Imm} {b : Bool} {v : Value} (h : V ι (.bool b) v) : v = .bool b := by cases h; rfl
theorem V.int_inv {ι : Imm} {k : IntKind} {m : Int} {v : Value} (h : V ι (.int k m) v) : v = .int k m := by cases h; rfl
theorem V.str_inv {ι : Imm} {s : ByteArray} {v : Value} (h : V ι (.str s) v) : v = .string s := by cases h; rfl
theorem V.nil_inv {ι : Imm} {v : Value} (h : V ι .nil v) : v = .slice none 0 0 := by cases h; rfl
theorem V.slc_inv {ι : Imm} {b o l c : Nat} {v : Value} (h : V ι (.slc b o l c) v) : v = .slice (some ⟨b, o, none⟩) l c := by cases h; rfl
theorem V.ptr_inv {ι : Imm} {b o : Nat} {v : Value} (h : V ι (.ptr b o) v) : v = .pointer (some ⟨b, o, none⟩) := by cases h; rfl
theorem V.nilptr_inv {ι : Imm} {v : Value} (h : V ι .nilptr v) : v = .pointer none := by cases h; rfl

theorem AWP.cond {c : Operand} {x y : Code} {b : Bool} (hc : ev e c = .bool b) (ht : b = true → AWP P n x Q e H) (hf : b = false → AWP P n y Q e H) : AWP P n (.cond c x y) Q e H := by
  intro B ι a w hr hE
  have := hE.ev c
  rw [hc] at this
  exact wp_cond_split this.bool_inv (fun h => ht h B ι a w hr hE) (fun h => hf h B ι a w hr hE)

def QBlock (id : Nat) (Q : Exit → Env → Heap → Prop) : Exit → Env → Heap → Prop
  | .exit id', e, H => if id' = id then Q .normal e H else Q (.exit id') e H
  | x, e, H => Q x e H

theorem AWP.block {id : Nat} {c : Code} (h : AWP P n c (QBlock id Q) e H) : AWP P n (.block id c) Q e H := by
  intro B ι a w hr hE
  refine wp_block (wp_mono (h B ι a w hr hE) ?_)
  intro ex a' w' k
  obtain ⟨κ, e', H', hle, hr', hE', hq⟩ := k
  cases ex with
  | exit id' =>
    simp only [Exit.inBlock]
    simp only [QBlock] at hq
    split
    · rename_i h; rw [if_pos h] at hq; exact ⟨κ, e', H', hle, hr', hE', hq⟩
    · rename_i h; rw [if_neg h] at hq; exact ⟨κ, e', H', hle, hr', hE', hq⟩
  | normal => exact ⟨κ, e', H', hle, hr', hE', hq⟩
  | goto l => exact ⟨κ, e', H', hle, hr', hE', hq⟩
  | ret => exact ⟨κ, e', H', hle, hr', hE', hq⟩
  | panic c => exact ⟨κ, e', H', hle, hr', hE', hq⟩
  | outgrown => exact ⟨κ, e', H', hle, hr', hE', hq⟩

/-- A loop: an invariant with a number that goes down. -/
theorem AWP.loop {c : Code} (I : Nat → Env → Heap → Prop) {m : Nat} (h0 : I m e H)
    (round : ∀ m e H, I m e H → AWP P n c (QThen (fun e' H' => ∃ m', m' < m ∧ I m' e' H') Q) e H) : AWP P n (.loop c) Q e H := by
  intro B ι a w hr hE
  let J : Act → World → Nat → Imm → Prop := fun a w m κ => ∃ e H, ι.le κ ∧ Rel B κ H w ∧ EnvR n κ e a ∧ I m e H
  intro b k cs
  have key : ∀ m a w κ, J a w m κ →
      ∃ x a' w', LQ B n ι Q x a' w' ∧ Arrives P (lone (b.at a (.code c :: .inLoop c :: k)) cs w) b k cs x a' w' := by
    intro m
    induction m using Nat.strongRecOn with
    | _ m ih =>
      intro a w κ hJ
      obtain ⟨e, H, hle, hr, hE, hI⟩ := hJ
      obtain ⟨x, a₁, w₁, hq, harr⟩ := round m e H hI B κ a w hr hE b (.inLoop c :: k) cs
      obtain ⟨μ, e', H', hle', hr', hE', hq⟩ := hq
      cases x with
      | normal =>
        obtain ⟨m', hlt, hI'⟩ := hq
        obtain ⟨x₂, a₂, w₂, hq₂, harr₂⟩ := ih m' hlt a₁ w₁ μ ⟨e', H', Imm.le_trans hle hle', hr', hE', hI'⟩
        exact ⟨x₂, a₂, w₂, hq₂, .of_steps (Steps.trans harr (.one step_inLoop)) harr₂⟩
      | exit id => exact ⟨_, a₁, w₁, ⟨μ, e', H', Imm.le_trans hle hle', hr', hE', hq⟩, .pass (x := .inLoop c) rfl (fun _ _ => .inl (by simp)) harr⟩
      | goto l => exact ⟨_, a₁, w₁, ⟨μ, e', H', Imm.le_trans hle hle', hr', hE', hq⟩, .pass (x := .inLoop c) rfl (fun _ _ => .inl (by simp)) harr⟩
      | ret => exact ⟨_, a₁, w₁, ⟨μ, e', H', Imm.le_trans hle hle', hr', hE', hq⟩, .pass (x := .inLoop c) rfl (fun _ _ => .inl (by simp)) harr⟩
      | panic ch => exact ⟨_, a₁, w₁, ⟨μ, e', H', Imm.le_trans hle hle', hr', hE', hq⟩, .pass (x := .inLoop c) rfl (fun _ _ => .inl (by simp)) harr⟩
      | outgrown => exact ⟨_, a₁, w₁, ⟨μ, e', H', Imm.le_trans hle hle', hr', hE', hq⟩, .pass (x := .inLoop c) rfl (fun _ _ => .inl (by simp)) harr⟩
  obtain ⟨x, a', w', hq, harr⟩ := key m a w ι ⟨e, H, Imm.le_refl _, hr, hE, h0⟩
  exact ⟨x, a', w', hq, .of_steps (.one step_loop) harr⟩

/-- Less told of the slots. -/
theorem AWP.less {c : Code} {e' : Env} (h : ∀ t, e' t = .undef ∨ e' t = e t) (k : AWP P n c Q e' H) : AWP P n c Q e H := by
  intro B ι a w hr hE
  refine k B ι a w hr ⟨hE.size, hE.defers, fun t => ?_⟩
  rcases h t with h | h
  · rw [h]; exact .undef _
  · rw [h]; exact hE.val t

/-- Less told of the heap. -/
theorem Rel.less {B : Base} {ι : Imm} {w : World} {G : Heap} (h : ∀ b x, G b = some x → H b = some x) (hr : Rel B ι H w) : Rel B ι G w :=
  ⟨hr.below, hr.size, hr.imm, hr.iold, fun b x k => hr.lo b x (h b x k), fun b x k => hr.cell b x (h b x k), fun b x k => hr.room b x (h b x k), fun b x k => hr.obj b x (h b x k)⟩
theorem AWP.drop {c : Code} {G : Heap} (h : ∀ b x, G b = some x → H b = some x) (k : AWP P n c Q e G) : AWP P n c Q e H :=
  fun B ι a w hr hE => k B ι a w (hr.less h) hE

/-- The slots told of, listed. -/
def envOf : List (Nat × AV) → Env
  | [] => fun _ => .undef
  | (t, v) :: r => upd (envOf r) t v
def Told (e : Env) : List (Nat × AV) → Prop
  | [] => True
  | (t, v) :: r => e t = v ∧ Told e r
theorem Told.less {e : Env} : ∀ {l : List (Nat × AV)}, Told e l → ∀ t, envOf l t = .undef ∨ envOf l t = e t
  | [], _, t => .inl rfl
  | (s, v) :: r, ⟨h, k⟩, t => by
    by_cases hs : t = s
    · subst hs; right; simp [envOf, upd_same, h]
    · simp only [envOf, upd_ne _ v hs]; exact Told.less k t
theorem AWP.only {c : Code} (l : List (Nat × AV)) (h : Told e l) (k : AWP P n c Q (envOf l) H) : AWP P n c Q e H := k.less h.less

end rules
end Go.Proofs.Ythdoebgikbfndaa.E
