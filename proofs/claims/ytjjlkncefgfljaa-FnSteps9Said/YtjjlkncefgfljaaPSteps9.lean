/- The table of a drawn formula on a drawn word goes on by steps. -/
import Derived.Test.YtjjlkncefgfljaaDSteps9
import Derived.Test.YtjjlkncefgfljaaWf
import Derived.Test.YtjjlkncefgfljaaPSteps
import Derived.Test.YtjjlkncefgfljaaPStepI
import Derived.Test.YtjjlkncefgfljaaPTempN
import Derived.Test.YtjjlkncefgfljaaPDraw8
import Derived.Test.YtjjlkncefgfljaaPDraw3
import Derived.Test.YtjjlkncefgfljaaPFoldR
namespace Go.Proofs.Ytjjlkncefgfljaa
open Go Go.RowKit E
set_option linter.unusedVariables false

/-- What is so next of a node. -/
def nextB (w : TWord) (e : List TNode) (p i : Nat) : Bool := if (e.getD i default).kind = 7 then ((tabN w e).getD (e.getD i default).a.toNat default).getD (nxN w p) default else ((tabN w e).getD i default).getD (nxN w p) default
theorem soV_bit {n : TNode} (h : n.kind < 7) (ts : List Bool) (l : Nat) (b c : Bool) : soV n ts l b = soV n ts l c := by
  unfold soV
  by_cases k1 : n.kind = 1
  · rw [if_pos k1, if_pos k1]
  by_cases k3 : n.kind = 3
  · rw [if_neg k1, if_neg k1, if_pos k3, if_pos k3]
  by_cases k4 : n.kind = 4
  · rw [if_neg k1, if_neg k1, if_neg k3, if_neg k3, if_pos k4, if_pos k4]
  by_cases k5 : n.kind = 5
  · rw [if_neg k1, if_neg k1, if_neg k3, if_neg k3, if_neg k4, if_neg k4, if_pos k5, if_pos k5]
  by_cases k6 : n.kind = 6
  · rw [if_neg k1, if_neg k1, if_neg k3, if_neg k3, if_neg k4, if_neg k4, if_neg k5, if_neg k5, if_pos k6, if_pos k6]
  · rw [if_neg k1, if_neg k1, if_neg k3, if_neg k3, if_neg k4, if_neg k4, if_neg k5, if_neg k5, if_neg k6, if_neg k6]
    have g : ∀ j : Int, 7 ≤ j → ¬ n.kind = j := fun j hj e => by omega
    rw [if_neg (g 7 (by omega)), if_neg (g 7 (by omega)), if_neg (g 8 (by omega)), if_neg (g 8 (by omega)), if_neg (g 9 (by omega)), if_neg (g 9 (by omega)), if_neg (g 10 (by omega)), if_neg (g 10 (by omega)), if_neg (g 11 (by omega)), if_neg (g 11 (by omega))]
theorem take_get {l : List Bool} {i j : Nat} (h : j < i) : (l.take i).getD j default = l.getD j default := by
  rw [List.getD_eq_getElem?_getD, List.getD_eq_getElem?_getD, List.getElem?_take_of_lt h]
theorem stL_col {w : TWord} (hw : WOk w) {e : List TNode} (he : Nodes ltP e) {p : Nat} (hp : p < plN w) {s : Nat} (hs : ∀ (pre r : List TNode) (n : TNode), e = pre ++ n :: r → n.kind ≥ 7 → s.testBit (tempL 0 pre).length = nextB w e p pre.length) :
    ∀ (r pre : List TNode) (k : Nat), e = pre ++ r → k = (tempL 0 pre).length → stL (letN w p) s r ((colAt (tabN w e) p).take pre.length) k = colAt (tabN w e) p
  | [], pre, k, h, hk => by
    have hl : (colAt (tabN w e) p).length = pre.length := by unfold colAt; rw [List.length_map, tabN_len, h]; simp
    rw [stL, ← hl, List.take_length]
  | n :: r, pre, k, h, hk => by
    have hlen : pre.length + (r.length + 1) = e.length := by rw [h]; simp
    have hi : pre.length < e.length := by omega
    have hn : e.getD pre.length default = n := by rw [h]; simp
    have hna : NodeAt ltP pre.length n := by have := he.2.2 pre.length hi; rwa [hn] at this
    obtain ⟨g1, g2⟩ := node_parts hna
    have hcl : (colAt (tabN w e) p).length = e.length := by unfold colAt; rw [List.length_map, tabN_len]
    have hval : soV n ((colAt (tabN w e) p).take pre.length) (letN w p) (s.testBit k) = (colAt (tabN w e) p).getD pre.length default := by
      rw [col_get, tab_step hw he hi hp, hn]
      unfold cellN
      have e1 : soV n ((colAt (tabN w e) p).take pre.length) (letN w p) (s.testBit k) = soV n (colAt (tabN w e) p) (letN w p) (s.testBit k) := soV_congr (fun k1 k2 => take_get (g1 k1 k2).2) fun k1 => take_get (g2 k1).2
      rw [e1]
      by_cases c : n.kind ≥ 7
      · have := hs pre r n h c
        rw [hk, this]
        unfold nextB
        rw [hn]
      · exact soV_bit (by omega) _ _ _ _
    rw [stL, hval]
    have e2 : (colAt (tabN w e) p).take pre.length ++ [(colAt (tabN w e) p).getD pre.length default] = (colAt (tabN w e) p).take (pre ++ [n]).length := by
      rw [List.length_append, List.length_singleton, List.take_succ_eq_append_getElem (by omega)]
      simp [List.getD_eq_getElem?_getD, hcl, hi]
    rw [e2]
    refine stL_col hw he hp hs r (pre ++ [n]) _ (by rw [h]; simp) ?_
    rw [tempL_app, List.length_append, ← hk]
    simp only [tempL]
    split <;> simp
theorem temp_place {e pre r : List TNode} {n : TNode} (h : e = pre ++ n :: r) (c : n.kind ≥ 7) : (tempL 0 e).getD (tempL 0 pre).length 0 = (pre.length : Int) := by
  have e1 : tempL 0 e = tempL 0 pre ++ tempL pre.length (n :: r) := by rw [h, tempL_app, Nat.zero_add]
  have e2 : tempL pre.length (n :: r) = (pre.length : Int) :: tempL (pre.length + 1) r := by simp [tempL, c]
  rw [e1, e2, List.getD_eq_getElem?_getD, List.getElem?_append_right (Nat.le_refl _)]; simp
theorem setPut_eq {s k : Nat} (hs : s < 2 ^ 31) (hk : k ≤ 30) : impl_SetPut (s : Int) (k : Int) = ((s ||| 2 ^ k : Nat) : Int) := by
  have h31 : (2 : Nat) ^ 31 = 2147483648 := rfl
  have hp := pow31 (n := k) (by omega)
  unfold impl_SetPut impl_SetOk impl_isMember impl_only
  rw [inRange_eq, inRange_eq, decide_eq_true (by omega), decide_eq_true (by omega), if_neg (by simp), if_neg (by simp), u64_nat (by omega), shl1_i (by omega), bOr_i (by omega) (by omega)]
theorem pureSteps_fw {f : List TNode} (hf : f.length ≤ 33) {w : TWord} (h1 : w.stem.length ≤ 50) (h2 : w.loop.length ≤ 50) {K : Nat} {bs : List Int} (hd : spec_DrawLtlTable K bs = some (f, w)) : laws_FnSteps9 K bs = some true := by
  have h31 : (2 : Nat) ^ 31 = 2147483648 := rfl
  unfold laws_FnSteps9
  by_cases hb : laws_big bs = true
  · rw [if_pos hb]
  rw [if_neg hb, hd, Option.bind_some]
  dsimp only
  have hT : impl_LtlTable f w = some (ltTable f w) := by
    unfold impl_LtlTable ltTable
    rw [implLtlOk_eq, Option.bind_some, bnd_eq, isRight_eq]
    by_cases a : treeOk ltP f = true
    · by_cases b : wordOk w 8 = true
      · rw [if_pos ⟨a, b⟩, a, b, Bool.not_true, Bool.not_false, whenO_t, Option.bind_some, if_neg (by simp), tableOf_eq (treeOk_nodes a) (wordOk_t b).1]; rfl
      · rw [Bool.not_eq_true] at b
        rw [if_neg (by simp [b]), a, b, Bool.not_true, Bool.not_false, whenO_t, Option.bind_some, if_pos (by simp)]
    · rw [Bool.not_eq_true] at a
      rw [if_neg (by simp [a]), a, Bool.not_false, Bool.not_true, whenO_f, Option.bind_some, if_pos (by simp)]
  rw [hT, Option.bind_some, specTable_eq, Option.bind_some, if_neg (by simp)]
  by_cases hz : ((ltTable f w).length : Int) = 0
  · rw [if_pos hz, implStep_eq, Option.bind_some]
    have : ltStep f 9 0 = [] := by unfold ltStep; rw [if_neg (fun x => by omega)]
    rw [this]; rfl
  rw [if_neg hz, specTemporal_eq, Option.bind_some]
  have hok : treeOk ltP f = true ∧ wordOk w 8 = true := by
    refine Classical.byContradiction fun g => hz ?_
    unfold ltTable; rw [if_neg g]; rfl
  obtain ⟨ha, hbw⟩ := hok
  have he := treeOk_nodes ha
  have hw := (wordOk_t hbw).1
  have hf31 := he.2.1
  have hws := hw.stem
  have hwl := hw.loop
  have hwo := hw.one
  have eT : ltTable f w = tabN w f := by unfold ltTable; rw [if_pos ⟨ha, hbw⟩]
  have eL : ltTemporal f = tempL 0 f := by unfold ltTemporal; rw [if_pos ha]
  rw [eT, eL]
  have hTl : (tabN w f).length = f.length := tabN_len w f
  have hLl := tempL_len f 0
  have hpl : plN w = w.stem.length + w.loop.length := rfl
  have wpl : W ((w.stem.length : Int) + (w.loop.length : Int)) = (plN w : Int) := by rw [W, W_eq (by omega) (by omega)]; omega
  have main : ∀ p : Nat, p < plN w → laws_FnSteps9.b0 (f, w) (tempL 0 f) (tabN w f) (p : Int) = some (.inl ((p + 1 : Nat) : Int)) := by
    intro p hp
    have hnx := nxN_lt hw hp
    have hk2 : laws_FnSteps9.k2 (tempL 0 f) (f, w) (tabN w f) (p : Int) (nxN w p : Int) = some (.inl ((p + 1 : Nat) : Int)) := by
      unfold laws_FnSteps9.k2
      have key := range_loopR (fun s : Nat => (s : Int)) (fun s : Nat => (Sum.inl (s : Int) : Int ⊕ Bool)) (tempL 0 f).length (fun s k => if nextB w f p ((tempL 0 f).getD k 0).toNat = true then s ||| 2 ^ k else s) (fun _ s => s < 2 ^ (tempL 0 f).length) (body := fun s : Int × Int => laws_FnSteps9.b2 (tempL 0 f) (f, w) (tabN w f) (nxN w p : Int) s.1 s.2) (fun k st hk hi => ?_) (fun st _ => by unfold laws_FnSteps9.b2; rw [if_neg (by dsimp only; omega)]) 0 (Nat.two_pow_pos _)
      · obtain ⟨key, hlt⟩ := key
        have key' : loop (fun s : Int × Int => laws_FnSteps9.b2 (tempL 0 f) (f, w) (tabN w f) (nxN w p : Int) s.1 s.2) (0, 0) = _ := key
        rw [key', Option.bind_some]
        have hset : (List.range (tempL 0 f).length).foldl (fun s k => if nextB w f p ((tempL 0 f).getD k 0).toNat = true then s ||| 2 ^ k else s) 0 = setOf (fun k => nextB w f p ((tempL 0 f).getD k 0).toNat) (tempL 0 f).length := rfl
        rw [hset] at hlt ⊢
        have hlt31 : setOf (fun k => nextB w f p ((tempL 0 f).getD k 0).toNat) (tempL 0 f).length < 2 ^ 31 := Nat.lt_of_lt_of_le hlt (Nat.pow_le_pow_right (by omega) (by omega))
        show laws_FnSteps9.k3 (f, w) (p : Int) (tabN w f) _ = _
        unfold laws_FnSteps9.k3
        have hWA : spec_WordAt w (p : Int) = some (letN w p : Int) := by
          unfold spec_WordAt
          rw [l3Right_eq, hbw, Option.bind_some, bnd_eq, if_neg (by simp), l3At_eq hw hp]; rfl
        have hlet := letN_le hw hp
        have hst : ltStep f (letN w p : Int) ((setOf (fun k => nextB w f p ((tempL 0 f).getD k 0).toNat) (tempL 0 f).length : Nat) : Int) = colAt (tabN w f) p := by
          unfold ltStep
          rw [if_pos ⟨ha, by omega, by omega, by omega⟩, Int.toNat_natCast, Int.toNat_natCast]
          have := stL_col hw he hp (s := setOf (fun k => nextB w f p ((tempL 0 f).getD k 0).toNat) (tempL 0 f).length) (fun pre r n h c => ?_) f [] 0 rfl rfl
          · simpa using this
          · have hpl2 := temp_place h c
            have hll : (tempL 0 pre).length < (tempL 0 f).length := by
              have e1 : tempL 0 f = tempL 0 pre ++ tempL pre.length (n :: r) := by rw [h, tempL_app, Nat.zero_add]
              have e2 : tempL pre.length (n :: r) = (pre.length : Int) :: tempL (pre.length + 1) r := by simp [tempL, c]
              rw [e1, e2]; simp
            rw [setOf_bit, decide_eq_true hll, Bool.true_and, hpl2, Int.toNat_natCast]
        rw [hWA, Option.bind_some, implStep_eq, hst, Option.bind_some]
        have hcl : (colAt (tabN w f) p).length = f.length := by unfold colAt; rw [List.length_map, hTl]
        have hall := all_loop (body := fun s : Int => laws_FnSteps9.b1 (f, w) (colAt (tabN w f) p) (tabN w f) (p : Int) s) f.length (fun _ => true) (fun i hi => ?_) ?_
        · rw [hall, if_pos (by simp)]
          show laws_FnSteps9.k1 (p : Int) = _
          unfold laws_FnSteps9.k1
          rw [WN (by omega)]
        · unfold laws_FnSteps9.b1
          dsimp only
          have hrl := tabRow_len (w := w) (e := f) hi
          rw [if_pos (by omega), bnd_eq, hcl, decide_eq_false (by simp), Bool.not_false, whenO_t, ix_nat (by omega), Option.bind_some, bnd_eq, hrl, wpl, decide_eq_false (by simp), Bool.or_self, Bool.not_false, whenO_t, ix_nat (by rw [hcl]; exact hi), Option.bind_some, whenO_t, Option.bind_some, whenO_t, ix_nat (by rw [hrl]; exact hp), Option.bind_some, col_get, if_neg (by simp), if_pos rfl, WN (by omega)]
        · unfold laws_FnSteps9.b1
          rw [if_neg (by dsimp only; omega)]
      · have hx := tempL_rng f 0 ((tempL 0 f).getD k 0) (by rw [List.getD_eq_getElem?_getD, List.getElem?_eq_getElem hk]; exact List.getElem_mem hk)
        have hx2 : ((tempL 0 f).getD k 0).toNat < f.length := by omega
        have hst : st < 2 ^ 31 := Nat.lt_of_lt_of_le hi (Nat.pow_le_pow_right (by omega) (by omega))
        constructor
        · unfold laws_FnSteps9.b2
          dsimp only
          have hixt : ix (tempL 0 f) (k : Int) = some ((tempL 0 f).getD k 0) := ix_nat hk
          have hixf : ix f ((tempL 0 f).getD k 0) = some (f.getD ((tempL 0 f).getD k 0).toNat default) := ix_ok (by omega) (by omega)
          rw [if_pos (by omega), hixt, Option.bind_some, hixf, Option.bind_some, Option.bind_some]
          have hk4 : ∀ i : Int, 0 ≤ i → i < f.length → laws_FnSteps9.k4 (tabN w f) (f, w) (nxN w p : Int) (st : Int) (k : Int) i = some (.inl (((if ((tabN w f).getD i.toNat default).getD (nxN w p) default = true then st ||| 2 ^ k else st : Nat) : Int), ((k + 1 : Nat) : Int))) := by
            intro i i0 i1
            unfold laws_FnSteps9.k4
            have hrl := tabRow_len (w := w) (e := f) (i := i.toNat) (by omega)
            rw [ix_ok i0 (by omega), Option.bind_some, hrl]
            dsimp only
            rw [wpl, if_neg (by simp), Option.bind_some, ix_nat (by rw [hrl]; exact hnx), Option.bind_some, WN (by omega)]
            split
            · rw [setPut_eq hst (by omega)]
            · rfl
          unfold nextB
          by_cases c : (f.getD ((tempL 0 f).getD k 0).toNat default).kind = 7
          · have hna := he.2.2 _ hx2
            have hkd := ltKinds hna
            rw [if_pos c, if_pos c, hk4 _ (by omega) (by omega)]
          · rw [if_neg c, if_neg c, hk4 _ (by omega) (by omega)]
        · split
          · exact or_lt hi (Nat.pow_lt_pow_right (by omega) hk)
          · exact hi
    unfold laws_FnSteps9.b0
    dsimp only
    have wp : W ((p : Int) + 1) = ((p + 1 : Nat) : Int) := WN (by omega)
    rw [wpl, if_pos (by omega), wp]
    by_cases c : p + 1 = plN w
    · rw [if_pos (by omega)]
      have : nxN w p = w.stem.length := by unfold nxN; rw [if_pos c]
      rw [this] at hk2; exact hk2
    · rw [if_neg (by omega)]
      have : nxN w p = p + 1 := by unfold nxN; rw [if_neg c]
      rw [this] at hk2; exact hk2
  have hall := all_loop (body := fun s : Int => laws_FnSteps9.b0 (f, w) (tempL 0 f) (tabN w f) s) (plN w) (fun _ => true) (fun p hp => by rw [main p hp, if_pos rfl]) (by unfold laws_FnSteps9.b0; dsimp only; rw [wpl, if_neg (by omega)])
  rw [hall, if_pos (by simp)]
  rfl
theorem drawBoth_ok {bs : List Int} (h : bs.length ≤ 1048576) {K : Nat} (hK : 5 ≤ K) : ∃ f w, spec_l9DrawBoth K bs = some (f, w) ∧ f.length ≤ 33 ∧ w.stem.length ≤ 50 ∧ w.loop.length ≤ 50 := by
  unfold spec_l9DrawBoth
  obtain ⟨c0, e0, h0⟩ := new_ok bs h
  obtain ⟨f, c1, e1, h1, l1⟩ := drawAny_ok hK h0
  obtain ⟨w, c2, e2, _, l2, l3⟩ := drawWord_ok h1
  rw [e0, Option.bind_some, e1, Option.bind_some, e2, Option.bind_some]
  exact ⟨_, _, rfl, l1, l2, l3⟩
theorem pureSteps9 (bs : List Int) (w : bs.length ≤ 9223372036854775807 ∧ ∀ q ∈ bs, (IntKind.u8.min ≤ q ∧ q ≤ IntKind.u8.max)) : laws_FnSteps9 40 bs = some true := by
  by_cases hb : laws_big bs = true
  · unfold laws_FnSteps9; rw [if_pos hb]
  · have h : bs.length ≤ 1048576 := by unfold laws_big at hb; simp at hb; omega
    obtain ⟨f, v, e, h1, h2, h3⟩ := drawBoth_ok h (K := 40) (by decide)
    refine pureSteps_fw h1 h2 h3 (K := 40) (bs := bs) ?_
    unfold spec_DrawLtlTable
    rw [e, Option.bind_some]
end Go.Proofs.Ytjjlkncefgfljaa
