/- The text of a list of pairs of regexes: the program and the reference write the same. -/
import Derived.Test.YtmmgpcnngaekoaaDOmegaPrint
import Derived.Test.YtmmgpcnngaekoaaPOmegaN
import Derived.Test.YtmmgpcnngaekoaaPRePrintN
namespace Go.Proofs.Ytmmgpcnngaekoaa
open Go Go.RowKit E
set_option linter.unusedVariables false

theorem specRePrint_eq (e : List TNode) : spec_RePrint 40 e = some (rePrint e) := by
  unfold spec_RePrint rePrint
  rw [specReOk_eq, Option.bind_some]
  by_cases h : treeOk reP e = true
  · have hn := treeOk_nodes h
    have h1 := hn.1
    have h2 := hn.2.1
    rw [if_neg (by rw [h]; simp), if_pos h, W, W_eq (by omega) (by omega), show ((e.length : Int) - 1) = ((e.length - 1 : Nat) : Int) by omega, l11Print_eq hn _ _ (by omega) (by omega)]; rfl
  · rw [if_pos (by simpa using h), if_neg h]
/-- No text is longer than this. -/
theorem reSize {e : List TNode} (h : Nodes reP e) (i : Nat) : i < e.length → ((reTexts e).getD i default).size + 3 ≤ 2 ^ (i + 3) := by
  induction i using Nat.strongRecOn with
  | _ i ih =>
    intro hi
    have hk := reKinds (h.2.2 _ hi)
    rw [reTexts_step h hi]
    generalize e.getD i default = n at hk
    have h8 : 4 ≤ 2 ^ (i + 2) := by
      have : 2 ^ 2 ≤ 2 ^ (i + 2) := Nat.pow_le_pow_right (by decide) (by omega)
      exact this
    have hd : 2 ^ (i + 3) = 2 * 2 ^ (i + 2) := by rw [Nat.pow_succ, Nat.mul_comm]
    have below : ∀ x : Int, 0 ≤ x → x < i → ((reTexts e).getD x.toNat default).size + 3 ≤ 2 ^ (i + 2) := fun x h0 h1 => by
      have h2 := ih x.toNat (by omega) (by omega)
      have h3 : 2 ^ (x.toNat + 3) ≤ 2 ^ (i + 2) := Nat.pow_le_pow_right (by decide) (by omega)
      omega
    unfold reText
    split
    · show 1 + 3 ≤ _; omega
    split
    · show 1 + 3 ≤ _; omega
    split
    · rw [digit_size]; omega
    split
    · have := below n.a (by omega) (by omega)
      rw [size_app]; show _ + 1 + 3 ≤ _; omega
    have k5 : n.kind = 5 ∨ n.kind = 6 := by omega
    have a1 := below n.a (by omega) (by omega)
    have a2 := below n.b (by omega) (by omega)
    split
    · rw [size_app, size_app, size_app, size_app]; show 1 + _ + 1 + _ + 1 + 3 ≤ _; omega
    · rw [size_app, size_app, size_app, size_app]; show 1 + _ + 1 + _ + 1 + 3 ≤ _; omega
theorem rePrint_size (e : List TNode) : (rePrint e).size ≤ 34359738368 := by
  unfold rePrint
  split
  · rename_i h
    have hn := treeOk_nodes h
    have h1 := hn.1
    have h2 := hn.2.1
    have h3 := reSize hn (e.length - 1) (by omega)
    have h4 : 2 ^ (e.length - 1 + 3) ≤ 2 ^ 35 := Nat.pow_le_pow_right (by decide) (by omega)
    have h5 : (2 : Nat) ^ 35 = 34359738368 := by decide
    omega
  · exact Nat.zero_le _
noncomputable def omText (o : TOmega) : ByteArray := (rePrint o.stem ++ ⟨#[59]⟩) ++ rePrint o.loop
noncomputable def sx (os : List TOmega) : Nat → ByteArray
  | 0 => ⟨#[]⟩
  | k + 1 => (((if k > 0 then sx os k ++ ⟨#[43]⟩ else sx os k) ++ rePrint (os.getD k default).stem) ++ ⟨#[59]⟩) ++ rePrint (os.getD k default).loop
theorem sx_size (os : List TOmega) : ∀ k, (sx os k).size ≤ k * 68719476740
  | 0 => Nat.zero_le _
  | k + 1 => by
    have ih := sx_size os k
    have h1 := rePrint_size (os.getD k default).stem
    have h2 := rePrint_size (os.getD k default).loop
    have hj : (if k > 0 then sx os k ++ ⟨#[43]⟩ else sx os k).size ≤ k * 68719476740 + 1 := by
      split
      · rw [size_app]; show _ + 1 ≤ _; omega
      · exact Nat.le_trans ih (Nat.le_add_right _ _)
    show ((((if k > 0 then sx os k ++ ⟨#[43]⟩ else sx os k) ++ rePrint (os.getD k default).stem) ++ ⟨#[59]⟩) ++ rePrint (os.getD k default).loop).size ≤ _
    rw [size_app, size_app, size_app]
    show _ + _ + 1 + _ ≤ _
    omega
theorem inter_cons (sep x : List UInt8) (r : List (List UInt8)) : sep.intercalate (x :: r) = x ++ (r.map (sep ++ ·)).flatten := by
  induction r generalizing x with
  | nil => simp [List.intercalate]
  | cons y r ih =>
    have h := ih y
    simp only [List.intercalate, List.intersperse, List.flatten_cons, List.map_cons] at h ⊢
    rw [h]
    simp
theorem inter_snoc (sep x : List UInt8) (l : List (List UInt8)) : sep.intercalate (l ++ [x]) = sep.intercalate l ++ ((if l.length > 0 then sep else []) ++ x) := by
  cases l with
  | nil => simp [List.intercalate]
  | cons y r =>
    rw [List.cons_append, inter_cons, inter_cons, if_pos (by simp)]
    simp
theorem sx_list (os : List TOmega) : ∀ k, k ≤ os.length → (sx os k).data.toList = joinL ((os.take k).map omText) ⟨#[43]⟩
  | 0, _ => rfl
  | k + 1, hk => by
    have ih := sx_list os k (by omega)
    have hl : ((os.take k).map omText).length = k := by rw [List.length_map, List.length_take]; omega
    unfold joinL at ih ⊢
    rw [List.take_succ_eq_append_getElem (by omega), List.map_append, List.map_append, show os[k] = os.getD k default by simp [show k < os.length by omega]]
    show _ = List.intercalate _ (_ ++ [(omText (os.getD k default)).data.toList])
    rw [inter_snoc, ← ih, List.length_map, hl]
    show ((((if k > 0 then sx os k ++ ⟨#[43]⟩ else sx os k) ++ rePrint (os.getD k default).stem) ++ ⟨#[59]⟩) ++ rePrint (os.getD k default).loop).data.toList = _
    unfold omText
    by_cases c : k > 0
    · rw [if_pos c, if_pos c]
      simp [ByteArray.data_append]
    · rw [if_neg c, if_neg c]
      simp [ByteArray.data_append]
noncomputable def omPrint (os : List TOmega) : ByteArray := if os.length ≤ 4 ∧ omegaB os = true then sx os os.length else ⟨#[]⟩
theorem specOmegaPrint_eq (os : List TOmega) (hl : os.length ≤ 1048576) : spec_OmegaPrint 40 os = some (omPrint os) := by
  unfold spec_OmegaPrint omPrint
  rw [specOmegaOk_eq os hl, Option.bind_some]
  by_cases c : os.length ≤ 4 ∧ omegaB os = true
  · rw [if_pos c, c.2, decide_eq_true c.1, if_neg (by simp)]
    have key := loop_up (body := fun s : ByteArray × Int => spec_OmegaPrint.b0 os 40 s.1 s.2) os.length (fun k => (sx os k, (k : Int))) (sx os os.length) (fun k hk => ?_) ?_ 0 (Nat.zero_le _)
    · have key : loop (fun s : ByteArray × Int => spec_OmegaPrint.b0 os 40 s.1 s.2) (⟨#[]⟩, 0) = some (sx os os.length) := key
      rw [key, Option.bind_some]; rfl
    · have hs := sx_size os k
      have h1 := rePrint_size (os.getD k default).stem
      have h2 := rePrint_size (os.getD k default).loop
      have hk1 : ∀ z : ByteArray, z.size ≤ k * 68719476740 + 1 → spec_OmegaPrint.k1 os (k : Int) 40 z = some (.inl (((z ++ rePrint (os.getD k default).stem) ++ ⟨#[59]⟩) ++ rePrint (os.getD k default).loop, ((k + 1 : Nat) : Int))) := fun z hz => by
        unfold spec_OmegaPrint.k1
        rw [ix_nat hk, Option.bind_some, specRePrint_eq, Option.bind_some, cat_ok (by omega), Option.bind_some, cat_ok (by rw [size_app]; show _ + 1 ≤ _; omega), Option.bind_some, Option.bind_some, specRePrint_eq, Option.bind_some, cat_ok (by rw [size_app, size_app]; show _ + 1 + _ ≤ _; omega), Option.bind_some, W, W_nat (by omega)]
      dsimp only
      unfold spec_OmegaPrint.b0
      rw [if_pos (by omega)]
      by_cases g : k > 0
      · rw [if_pos (by omega), cat_ok (by show _ + 1 ≤ _; omega), Option.bind_some, hk1 _ (by rw [size_app]; show _ + 1 ≤ _; omega)]
        show _ = some (Sum.inl (_ ++ _ ++ _ ++ _, _))
        rw [if_pos g]
      · rw [if_neg (by omega), hk1 _ (Nat.le_trans hs (Nat.le_add_right _ _))]
        show _ = some (Sum.inl (_ ++ _ ++ _ ++ _, _))
        rw [if_neg g]
    · dsimp only
      unfold spec_OmegaPrint.b0
      rw [if_neg (by omega)]
  · rw [if_neg c, if_pos]
    rw [Bool.not_eq_true', Bool.and_eq_false_iff, decide_eq_false_iff_not]
    by_cases d : os.length ≤ 4
    · exact .inr (by simpa using fun k => c ⟨d, k⟩)
    · exact .inl d
theorem implOmegaPrint_eq (os : List TOmega) (hl : os.length ≤ 1048576) : impl_OmegaPrint os = some (omPrint os) := by
  unfold impl_OmegaPrint omPrint
  rw [implOmegaOk_eq os hl, Option.bind_some]
  by_cases c : os.length ≤ 4 ∧ omegaB os = true
  · rw [if_pos c, c.2, decide_eq_true c.1, if_neg (by simp)]
    have key := loop_up (body := fun s : List ByteArray × Int => impl_OmegaPrint.b0 os s.1 s.2) os.length (fun k => ((os.take k).map omText, (k : Int))) (os.map omText) (fun k hk => ?_) ?_ 0 (Nat.zero_le _)
    · have key : loop (fun s : List ByteArray × Int => impl_OmegaPrint.b0 os s.1 s.2) ([], 0) = some (os.map omText) := key
      rw [key, Option.bind_some]
      unfold impl_OmegaPrint.k0 strings_Join
      have hx := sx_list os os.length (Nat.le_refl _)
      rw [List.take_length] at hx
      have hs := sx_size os os.length
      have hlen : (joinL (os.map omText) ⟨#[43]⟩).length ≤ 140737488355328 := by
        rw [← hx, Array.length_toList]
        show (sx os os.length).size ≤ _
        omega
      rw [if_pos ⟨hlen, by rw [List.length_map]; omega⟩, Option.bind_some, ← hx]
    · have h1 := rePrint_size (os.getD k default).stem
      have h2 := rePrint_size (os.getD k default).loop
      dsimp only
      unfold impl_OmegaPrint.b0
      rw [if_pos (by omega), ix_nat hk, Option.bind_some, implRePrint_eq, Option.bind_some, cat_ok (by show _ + 1 ≤ _; omega), Option.bind_some, implRePrint_eq, Option.bind_some, cat_ok (by rw [size_app]; show _ + 1 + _ ≤ _; omega), Option.bind_some, app_small (by rw [List.length_map, List.length_take, List.length_singleton]; omega) (by decide), Option.bind_some, W, W_nat (by omega), List.take_succ_eq_append_getElem hk, List.map_append, show os[k] = os.getD k default by simp [hk]]
      rfl
    · dsimp only
      unfold impl_OmegaPrint.b0
      rw [if_neg (by omega), List.take_length]
  · rw [if_neg c, if_pos]
    rw [Bool.not_eq_true', Bool.and_eq_false_iff, decide_eq_false_iff_not]
    by_cases d : os.length ≤ 4
    · exact .inr (by simpa using fun k => c ⟨d, k⟩)
    · exact .inl d
theorem pureOmegaPrint (os : List TOmega) (w : os.length ≤ 9223372036854775807 ∧ ∀ q ∈ os, TOmega.wf q) : laws_FnExactOmegaPrint 40 os = some true := by
  unfold laws_FnExactOmegaPrint
  obtain ⟨r, h1, h2⟩ := szOmegaS_ok os w
  rw [h1, Option.bind_some]
  split
  · rfl
  · rcases h2 with h2 | ⟨h2, h3⟩
    · contradiction
    · simp only [toOmegaS_eq os h2 h3, Option.bind_some, specOmegaPrint_eq os h2, implOmegaPrint_eq os h2, eqOmegaS_eq os os h2 h3]
      simp
end Go.Proofs.Ytmmgpcnngaekoaa
