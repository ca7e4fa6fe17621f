/- Each of these functions of the program comes to just what its plain function says: FnNnf. -/
import Derived.Test.YtjjlkncefgfljaaKNnfp0
namespace Go.Proofs.Ytjjlkncefgfljaa
open Go Go.RowKit E
set_option linter.unusedVariables false
set_option maxRecDepth 10000 in
theorem impl_reader_nnf.body_ok {p0 : Treader} {p1 : (List TNode)} {p2 : Int} {p3 : Bool} {r : Treader} {bp0 : Nat} {wp0_list : AV} {rec_impl_reader_nnf : Treader → (List TNode) → Int → Bool → Option Treader} {rec_impl_reader_second : Treader → Int → (List TNode) → Int → Bool → Option Treader} (ih_impl_reader_nnf : ∀ {p0 : Treader} {p1 : (List TNode)} {p2 : Int} {p3 : Bool} {r : Treader} {bp0 : Nat} {wp0_list : AV} , rec_impl_reader_nnf p0 p1 p2 p3 = some r → HS Try.prog 95 [(.ptr bp0 0), (.list 3 (List.map TNode.av p1)), (.int .i64 p2), (.bool p3)] [.cell bp0 [(.str p0.s), (.int .i64 p0.at_), (.int .i64 p0.code), wp0_list, .undef], .row 3 wp0_list (List.map TNode.av p0.list)] fun v L' => ∃ up0_list : AV, v = .tup [] ∧ L' = [.cell bp0 [(.str r.s), (.int .i64 r.at_), (.int .i64 r.code), up0_list, .undef], .row 3 up0_list (List.map TNode.av r.list)]) (ih_impl_reader_second : ∀ {p0 : Treader} {p1 : Int} {p2 : (List TNode)} {p3 : Int} {p4 : Bool} {r : Treader} {bp0 : Nat} {wp0_list : AV} , rec_impl_reader_second p0 p1 p2 p3 p4 = some r → HS Try.prog 116 [(.ptr bp0 0), (.int .i64 p1), (.list 3 (List.map TNode.av p2)), (.int .i64 p3), (.bool p4)] [.cell bp0 [(.str p0.s), (.int .i64 p0.at_), (.int .i64 p0.code), wp0_list, .undef], .row 3 wp0_list (List.map TNode.av p0.list)] fun v L' => ∃ up0_list : AV, v = .tup [] ∧ L' = [.cell bp0 [(.str r.s), (.int .i64 r.at_), (.int .i64 r.code), up0_list, .undef], .row 3 up0_list (List.map TNode.av r.list)]) (hF : impl_reader_nnf.body rec_impl_reader_nnf rec_impl_reader_second p0 p1 p2 p3 = some r) : HS Try.prog 95 [(.ptr bp0 0), (.list 3 (List.map TNode.av p1)), (.int .i64 p2), (.bool p3)] [.cell bp0 [(.str p0.s), (.int .i64 p0.at_), (.int .i64 p0.code), wp0_list, .undef], .row 3 wp0_list (List.map TNode.av p0.list)] fun v L' => ∃ up0_list : AV, v = .tup [] ∧ L' = [.cell bp0 [(.str r.s), (.int .i64 r.at_), (.int .i64 r.code), up0_list, .undef], .row 3 up0_list (List.map TNode.av r.list)] := by
  intro H S hS
  refine HC.enter Try.func95 rfl Try.ntmps95 (by simp) ?_
  simp only [List.cons_append, List.nil_append] at hS
  unfold impl_reader_nnf.body at hF
  refine AWP.seqR rfl ?_
  refine ASL.q (v := (.list 3 (List.map TNode.av p1))) rfl rfl (Light.quiet (opMove rfl rfl)) ?_
  refine ASL.q (v := (.int .i64 p2)) rfl rfl (Light.quiet (opMove rfl rfl)) ?_
  obtain ⟨a12, ha12, hF⟩ := bindE hF
  refine ASL.q (v := (.rptr [(.int .i64 a12.kind), (.int .i64 a12.a), (.int .i64 a12.b)])) rfl rfl (Light.quiet (kIx (f := TNode.av) ha12 rfl rfl rfl elemA_24 sizeA_59 rfl)) ?_
  refine ASL.q (v := (TNode.av a12)) rfl rfl (Light.quiet (opLoadRA rfl aggA_59 sizeA_59 rfl (nlt rfl) rfl)) ?_
  refine ASL.x rfl rfl (hNewZ hS [(.int .i64 0), (.int .i64 0), (.int .i64 0)] rfl zeroA_59 ⟨.inl rfl, .inl rfl, .inl rfl, trivial⟩ ?_); rintro b8 G3 hK hS
  refine ASL.n rfl rfl (hPutA hS (j := 0) rfl rfl sizeA_59 rfl rfl rfl rfl rfl (nlt rfl) ?_); rintro G5 hS
  refine ASL.done ?_
  refine AWP.seqR rfl ?_
  refine ASL.q (v := (.ptr b8 0)) rfl rfl (Light.quiet (opFieldAddr rfl fieldA_59_0 rfl rfl)) ?_
  refine ASL.q (v := (.int .i64 a12.kind)) rfl rfl (Light.quiet (kAt hS (j := 0) rfl rfl aggA_3 rfl rfl)) ?_
  refine ASL.q (v := (.int .i64 a12.kind)) rfl rfl (Light.quiet (opAssign rfl rfl)) ?_
  refine ASL.done ?_
  refine AWP.seqM (fun e H => ∃ x9_1 : Int, E.Told e [(0, (.ptr bp0 0)), (1, (.list 3 (List.map TNode.av p1))), (3, (.bool p3)), (8, (.ptr b8 0)), (9, (.int .i64 x9_1))] ∧ E.Sep H [.row 3 wp0_list (List.map TNode.av p0.list), .cell bp0 [(.str p0.s), (.int .i64 p0.at_), (.int .i64 p0.code), wp0_list, .undef], .cell b8 [(.int .i64 a12.kind), (.int .i64 a12.a), (.int .i64 a12.b)], .snap S] ∧ impl_reader_nnf.k0 p0 a12 p3 rec_impl_reader_nnf p1 rec_impl_reader_second x9_1 = some r) ?_ ?_
  · rintro e0 G51 ⟨x9_1, hT, hS, hF⟩; refine AWP.only _ hT ?_; unfold impl_reader_nnf.k0 at hF
    refine AWP.seqR rfl ?_
    refine ASL.q (v := (.int .i64 x9_1)) rfl rfl (Light.quiet (opMove rfl rfl)) ?_
    refine ASL.done ?_
    refine AWP.block ?_
    refine AWP.seqM (fun e H => ∃ x33_2 : Bool, E.Told e [(0, (.ptr bp0 0)), (1, (.list 3 (List.map TNode.av p1))), (3, (.bool p3)), (8, (.ptr b8 0)), (9, (.int .i64 x9_1)), (19, (.int .i64 x9_1)), (33, (.bool x33_2))] ∧ E.Sep H [.row 3 wp0_list (List.map TNode.av p0.list), .cell bp0 [(.str p0.s), (.int .i64 p0.at_), (.int .i64 p0.code), wp0_list, .undef], .cell b8 [(.int .i64 a12.kind), (.int .i64 a12.a), (.int .i64 a12.b)], .snap S] ∧ impl_reader_nnf.k1 p0 x9_1 a12 p3 rec_impl_reader_nnf p1 rec_impl_reader_second x33_2 = some r) ?_ ?_
    · rintro e0 G49 ⟨x33_2, hT, hS, hF⟩; refine AWP.only _ hT ?_; unfold impl_reader_nnf.k1 at hF
      refine AWP.ifB hF rfl (fun hc6 hF => ?_) (fun hc6 hF => ?_)
      · skip
        refine AWP.lastR rfl ?_
        refine ASL.q (v := (.ptr bp0 0)) rfl rfl (Light.quiet (opMove rfl rfl)) ?_
        refine ASL.q (v := (.int .i64 x9_1)) rfl rfl (Light.quiet (opMove rfl rfl)) ?_
        obtain ⟨a38, ha38, hF⟩ := bindE hF
        refine ASL.x rfl rfl (hCallS hS [1, 0, 2, 3] (F := [.cell b8 [(.int .i64 a12.kind), (.int .i64 a12.a), (.int .i64 a12.b)], .snap S]) rfl rfl rfl call_115 (impl_reader_leaf_ok ha38) rfl rfl ?_); rintro _ _ G9 ⟨w7, rfl, rfl⟩ hS
        refine ASL.done ?_
        refine QBlock.nrm ?_
        refine QRet.end ?_
        obtain rfl := someE hF
        exact QRet.many (vs := []) trivial (by simp) ⟨_, ⟨w7, rfl, rfl⟩, hS.pick [0, 1, 3] rfl rfl⟩
      · skip
        refine AWP.seqR rfl ?_
        refine ASL.q (v := (.bool (decide (x9_1 = 3)))) rfl rfl (Light.quiet (opInt rfl rfl rfl rfl)) ?_
        refine ASL.q (v := (.bool (decide (x9_1 = 3)))) rfl rfl (Light.quiet (opAssign rfl rfl)) ?_
        refine ASL.done ?_
        refine AWP.ifP hF rfl (fun hc10 hF => ?_) (fun hc10 hF => ?_)
        · skip
          refine AWP.seqR rfl ?_
          refine ASL.q (v := (.ptr bp0 0)) rfl rfl (Light.quiet (opMove rfl rfl)) ?_
          refine ASL.q (v := (.int .i64 x9_1)) rfl rfl (Light.quiet (opMove rfl rfl)) ?_
          refine ASL.q (v := (.ptr b8 1)) rfl rfl (Light.quiet (opFieldAddr rfl fieldA_59_1 rfl rfl)) ?_
          refine ASL.q (v := (.int .i64 a12.a)) rfl rfl (Light.quiet (kAt hS (j := 2) rfl rfl aggA_3 rfl rfl)) ?_
          obtain ⟨a45, ha45, hF⟩ := bindE hF
          refine ASL.x rfl rfl (hCallS hS [1, 0, 2, 3] (F := [.cell b8 [(.int .i64 a12.kind), (.int .i64 a12.a), (.int .i64 a12.b)], .snap S]) rfl rfl rfl call_115 (impl_reader_leaf_ok ha45) rfl rfl ?_); rintro _ _ G13 ⟨w11, rfl, rfl⟩ hS
          refine ASL.done ?_
          refine AWP.seqR rfl ?_
          refine ASL.q (v := (.bool p3)) rfl rfl (Light.quiet (opMove rfl rfl)) ?_
          refine ASL.done ?_
          refine AWP.ifB hF rfl (fun hc14 hF => ?_) (fun hc14 hF => ?_)
          · skip
            refine AWP.lastR rfl ?_
            refine ASL.q (v := (.ptr bp0 0)) rfl rfl (Light.quiet (opMove rfl rfl)) ?_
            obtain ⟨a48, ha48, hF⟩ := bindE hF
            refine ASL.x rfl rfl (hCallS hS [0, 1, 2, 3] (F := [.cell b8 [(.int .i64 a12.kind), (.int .i64 a12.a), (.int .i64 a12.b)], .snap S]) rfl rfl rfl call_59 (impl_reader_one_ok ha48) rfl rfl ?_); rintro _ _ G17 ⟨w15, rfl, rfl⟩ hS
            refine ASL.done ?_
            refine QBlock.nrm ?_
            refine QRet.end ?_
            obtain rfl := someE hF
            exact QRet.many (vs := []) trivial (by simp) ⟨_, ⟨w15, rfl, rfl⟩, hS.pick [0, 1, 3] rfl rfl⟩
          · skip
            refine AWP.skip ?_
            refine QBlock.nrm ?_
            refine QRet.end ?_
            obtain rfl := someE hF
            exact QRet.many (vs := []) trivial (by simp) ⟨_, ⟨w11, rfl, rfl⟩, hS.pick [0, 1, 3] rfl rfl⟩
        · skip
          refine AWP.seqR rfl ?_
          refine ASL.q (v := (.bool (decide (x9_1 = 4)))) rfl rfl (Light.quiet (opInt rfl rfl rfl rfl)) ?_
          refine ASL.q (v := (.bool (decide (x9_1 = 4)))) rfl rfl (Light.quiet (opAssign rfl rfl)) ?_
          refine ASL.done ?_
          refine AWP.ifP hF rfl (fun hc18 hF => ?_) (fun hc18 hF => ?_)
          · skip
            refine AWP.lastR rfl ?_
            refine ASL.q (v := (.ptr bp0 0)) rfl rfl (Light.quiet (opMove rfl rfl)) ?_
            refine ASL.q (v := (.list 3 (List.map TNode.av p1))) rfl rfl (Light.quiet (opMove rfl rfl)) ?_
            refine ASL.q (v := (.ptr b8 1)) rfl rfl (Light.quiet (opFieldAddr rfl fieldA_59_1 rfl rfl)) ?_
            refine ASL.q (v := (.int .i64 a12.a)) rfl rfl (Light.quiet (kAt hS (j := 2) rfl rfl aggA_3 rfl rfl)) ?_
            refine ASL.q (v := (.bool p3)) rfl rfl (Light.quiet (opMove rfl rfl)) ?_
            refine ASL.q (v := (.bool (!p3))) rfl rfl (Light.quiet (opNot rfl rfl)) ?_
            obtain ⟨a57, ha57, hF⟩ := bindE hF
            refine ASL.x rfl rfl (hCallS hS [1, 0, 2, 3] (F := [.cell b8 [(.int .i64 a12.kind), (.int .i64 a12.a), (.int .i64 a12.b)], .snap S]) rfl rfl rfl call_95 (ih_impl_reader_nnf ha57) rfl rfl ?_); rintro _ _ G21 ⟨w19, rfl, rfl⟩ hS
            refine ASL.done ?_
            refine QBlock.nrm ?_
            refine QRet.end ?_
            obtain rfl := someE hF
            exact QRet.many (vs := []) trivial (by simp) ⟨_, ⟨w19, rfl, rfl⟩, hS.pick [0, 1, 3] rfl rfl⟩
          · skip
            refine AWP.seqR rfl ?_
            refine ASL.q (v := (.bool (decide (x9_1 = 7)))) rfl rfl (Light.quiet (opInt rfl rfl rfl rfl)) ?_
            refine ASL.q (v := (.bool (decide (x9_1 = 7)))) rfl rfl (Light.quiet (opAssign rfl rfl)) ?_
            refine ASL.done ?_
            refine AWP.ifP hF rfl (fun hc22 hF => ?_) (fun hc22 hF => ?_)
            · skip
              refine AWP.seqR rfl ?_
              refine ASL.q (v := (.ptr bp0 0)) rfl rfl (Light.quiet (opMove rfl rfl)) ?_
              refine ASL.q (v := (.list 3 (List.map TNode.av p1))) rfl rfl (Light.quiet (opMove rfl rfl)) ?_
              refine ASL.q (v := (.ptr b8 1)) rfl rfl (Light.quiet (opFieldAddr rfl fieldA_59_1 rfl rfl)) ?_
              refine ASL.q (v := (.int .i64 a12.a)) rfl rfl (Light.quiet (kAt hS (j := 2) rfl rfl aggA_3 rfl rfl)) ?_
              refine ASL.q (v := (.bool p3)) rfl rfl (Light.quiet (opMove rfl rfl)) ?_
              obtain ⟨a65, ha65, hF⟩ := bindE hF
              refine ASL.x rfl rfl (hCallS hS [1, 0, 2, 3] (F := [.cell b8 [(.int .i64 a12.kind), (.int .i64 a12.a), (.int .i64 a12.b)], .snap S]) rfl rfl rfl call_95 (ih_impl_reader_nnf ha65) rfl rfl ?_); rintro _ _ G25 ⟨w23, rfl, rfl⟩ hS
              refine ASL.done ?_
              refine AWP.lastR rfl ?_
              refine ASL.q (v := (.ptr bp0 0)) rfl rfl (Light.quiet (opMove rfl rfl)) ?_
              refine ASL.q (v := (.int .i64 x9_1)) rfl rfl (Light.quiet (opMove rfl rfl)) ?_
              obtain ⟨a68, ha68, hF⟩ := bindE hF
              refine ASL.x rfl rfl (hCallS hS [0, 1, 2, 3] (F := [.cell b8 [(.int .i64 a12.kind), (.int .i64 a12.a), (.int .i64 a12.b)], .snap S]) rfl rfl rfl call_59 (impl_reader_one_ok ha68) rfl rfl ?_); rintro _ _ G28 ⟨w26, rfl, rfl⟩ hS
              refine ASL.done ?_
              refine QBlock.nrm ?_
              refine QRet.end ?_
              obtain rfl := someE hF
              exact QRet.many (vs := []) trivial (by simp) ⟨_, ⟨w26, rfl, rfl⟩, hS.pick [0, 1, 3] rfl rfl⟩
            · skip
              refine AWP.seqR rfl ?_
              refine ASL.q (v := (.bool (decide (x9_1 = 10)))) rfl rfl (Light.quiet (opInt rfl rfl rfl rfl)) ?_
              refine ASL.q (v := (.bool (decide (x9_1 = 10)))) rfl rfl (Light.quiet (opAssign rfl rfl)) ?_
              refine ASL.done ?_
              refine AWP.ifP hF rfl (fun hc29 hF => ?_) (fun hc29 hF => ?_)
              · skip
                refine AWP.seqR rfl ?_
                refine ASL.q (v := (.ptr bp0 0)) rfl rfl (Light.quiet (opMove rfl rfl)) ?_
                obtain ⟨a72, ha72, hF⟩ := bindE hF
                refine ASL.x rfl rfl (hCallS hS [1, 0, 2, 3] (F := [.cell b8 [(.int .i64 a12.kind), (.int .i64 a12.a), (.int .i64 a12.b)], .snap S]) rfl rfl rfl call_115 (impl_reader_leaf_ok ha72) rfl rfl ?_); rintro _ _ G32 ⟨w30, rfl, rfl⟩ hS
                refine ASL.done ?_
                refine AWP.lastR rfl ?_
                refine ASL.q (v := (.ptr bp0 0)) rfl rfl (Light.quiet (opMove rfl rfl)) ?_
                refine ASL.q (v := (.list 3 (List.map TNode.av p1))) rfl rfl (Light.quiet (opMove rfl rfl)) ?_
                refine ASL.q (v := (.ptr b8 1)) rfl rfl (Light.quiet (opFieldAddr rfl fieldA_59_1 rfl rfl)) ?_
                refine ASL.q (v := (.int .i64 a12.a)) rfl rfl (Light.quiet (kAt hS (j := 2) rfl rfl aggA_3 rfl rfl)) ?_
                refine ASL.q (v := (.bool p3)) rfl rfl (Light.quiet (opMove rfl rfl)) ?_
                obtain ⟨a78, ha78, hF⟩ := bindE hF
                refine ASL.x rfl rfl (hCallS hS [0, 1, 2, 3] (F := [.cell b8 [(.int .i64 a12.kind), (.int .i64 a12.a), (.int .i64 a12.b)], .snap S]) rfl rfl rfl call_116 (ih_impl_reader_second ha78) rfl rfl ?_); rintro _ _ G35 ⟨w33, rfl, rfl⟩ hS
                refine ASL.done ?_
                refine QBlock.nrm ?_
                refine QRet.end ?_
                obtain rfl := someE hF
                exact QRet.many (vs := []) trivial (by simp) ⟨_, ⟨w33, rfl, rfl⟩, hS.pick [0, 1, 3] rfl rfl⟩
              · skip
                refine AWP.seqR rfl ?_
                refine ASL.q (v := (.bool (decide (x9_1 = 11)))) rfl rfl (Light.quiet (opInt rfl rfl rfl rfl)) ?_
                refine ASL.q (v := (.bool (decide (x9_1 = 11)))) rfl rfl (Light.quiet (opAssign rfl rfl)) ?_
                refine ASL.done ?_
                refine AWP.ifP hF rfl (fun hc36 hF => ?_) (fun hc36 hF => ?_)
                · skip
                  refine AWP.seqR rfl ?_
                  refine ASL.q (v := (.ptr bp0 0)) rfl rfl (Light.quiet (opMove rfl rfl)) ?_
                  obtain ⟨a82, ha82, hF⟩ := bindE hF
                  refine ASL.x rfl rfl (hCallS hS [1, 0, 2, 3] (F := [.cell b8 [(.int .i64 a12.kind), (.int .i64 a12.a), (.int .i64 a12.b)], .snap S]) rfl rfl rfl call_115 (impl_reader_leaf_ok ha82) rfl rfl ?_); rintro _ _ G39 ⟨w37, rfl, rfl⟩ hS
                  refine ASL.done ?_
                  refine AWP.lastR rfl ?_
                  refine ASL.q (v := (.ptr bp0 0)) rfl rfl (Light.quiet (opMove rfl rfl)) ?_
                  refine ASL.q (v := (.list 3 (List.map TNode.av p1))) rfl rfl (Light.quiet (opMove rfl rfl)) ?_
                  refine ASL.q (v := (.ptr b8 1)) rfl rfl (Light.quiet (opFieldAddr rfl fieldA_59_1 rfl rfl)) ?_
                  refine ASL.q (v := (.int .i64 a12.a)) rfl rfl (Light.quiet (kAt hS (j := 2) rfl rfl aggA_3 rfl rfl)) ?_
                  refine ASL.q (v := (.bool p3)) rfl rfl (Light.quiet (opMove rfl rfl)) ?_
                  obtain ⟨a88, ha88, hF⟩ := bindE hF
                  refine ASL.x rfl rfl (hCallS hS [0, 1, 2, 3] (F := [.cell b8 [(.int .i64 a12.kind), (.int .i64 a12.a), (.int .i64 a12.b)], .snap S]) rfl rfl rfl call_116 (ih_impl_reader_second ha88) rfl rfl ?_); rintro _ _ G42 ⟨w40, rfl, rfl⟩ hS
                  refine ASL.done ?_
                  refine QBlock.nrm ?_
                  refine QRet.end ?_
                  obtain rfl := someE hF
                  exact QRet.many (vs := []) trivial (by simp) ⟨_, ⟨w40, rfl, rfl⟩, hS.pick [0, 1, 3] rfl rfl⟩
                · skip
                  refine AWP.seqR rfl ?_
                  refine ASL.q (v := (.ptr bp0 0)) rfl rfl (Light.quiet (opMove rfl rfl)) ?_
                  refine ASL.q (v := (.list 3 (List.map TNode.av p1))) rfl rfl (Light.quiet (opMove rfl rfl)) ?_
                  refine ASL.q (v := (.ptr b8 1)) rfl rfl (Light.quiet (opFieldAddr rfl fieldA_59_1 rfl rfl)) ?_
                  refine ASL.q (v := (.int .i64 a12.a)) rfl rfl (Light.quiet (kAt hS (j := 2) rfl rfl aggA_3 rfl rfl)) ?_
                  refine ASL.q (v := (.bool p3)) rfl rfl (Light.quiet (opMove rfl rfl)) ?_
                  obtain ⟨a25, ha25, hF⟩ := bindE hF
                  refine ASL.x rfl rfl (hCallS hS [1, 0, 2, 3] (F := [.cell b8 [(.int .i64 a12.kind), (.int .i64 a12.a), (.int .i64 a12.b)], .snap S]) rfl rfl rfl call_95 (ih_impl_reader_nnf ha25) rfl rfl ?_); rintro _ _ G45 ⟨w43, rfl, rfl⟩ hS
                  refine ASL.done ?_
                  refine AWP.lastR rfl ?_
                  refine ASL.q (v := (.ptr bp0 0)) rfl rfl (Light.quiet (opMove rfl rfl)) ?_
                  refine ASL.q (v := (.int .i64 x9_1)) rfl rfl (Light.quiet (opMove rfl rfl)) ?_
                  refine ASL.q (v := (.list 3 (List.map TNode.av p1))) rfl rfl (Light.quiet (opMove rfl rfl)) ?_
                  refine ASL.q (v := (.ptr b8 2)) rfl rfl (Light.quiet (opFieldAddr rfl fieldA_59_2 rfl rfl)) ?_
                  refine ASL.q (v := (.int .i64 a12.b)) rfl rfl (Light.quiet (kAt hS (j := 2) rfl rfl aggA_3 rfl rfl)) ?_
                  refine ASL.q (v := (.bool p3)) rfl rfl (Light.quiet (opMove rfl rfl)) ?_
                  obtain ⟨a32, ha32, hF⟩ := bindE hF
                  refine ASL.x rfl rfl (hCallS hS [0, 1, 2, 3] (F := [.cell b8 [(.int .i64 a12.kind), (.int .i64 a12.a), (.int .i64 a12.b)], .snap S]) rfl rfl rfl call_116 (ih_impl_reader_second ha32) rfl rfl ?_); rintro _ _ G48 ⟨w46, rfl, rfl⟩ hS
                  refine ASL.done ?_
                  refine QBlock.nrm ?_
                  refine QRet.end ?_
                  obtain rfl := someE hF
                  exact QRet.many (vs := []) trivial (by simp) ⟨_, ⟨w46, rfl, rfl⟩, hS.pick [0, 1, 3] rfl rfl⟩
    · skip
      refine AWP.seqR rfl ?_
      refine ASL.q (v := (.bool (decide (x9_1 = 1)))) rfl rfl (Light.quiet (opInt rfl rfl rfl rfl)) ?_
      refine ASL.q (v := (.bool (decide (x9_1 = 1)))) rfl rfl (Light.quiet (opAssign rfl rfl)) ?_
      refine ASL.done ?_
      refine AWP.ifP hF rfl (fun hc50 hF => ?_) (fun hc50 hF => ?_)
      · skip
        refine AWP.skip ?_
        refine QThen.nrm ?_
        exact ⟨(decide (x9_1 = 1)), ⟨rfl, rfl, rfl, rfl, rfl, rfl, rfl, trivial⟩, (hS.pick [0, 1, 2, 3] rfl rfl), hF⟩
      · skip
        refine AWP.lastR rfl ?_
        refine ASL.q (v := (.bool (decide (x9_1 = 2)))) rfl rfl (Light.quiet (opInt rfl rfl rfl rfl)) ?_
        refine ASL.q (v := (.bool (decide (x9_1 = 2)))) rfl rfl (Light.quiet (opAssign rfl rfl)) ?_
        refine ASL.done ?_
        refine QThen.nrm ?_
        exact ⟨(decide (x9_1 = 2)), ⟨rfl, rfl, rfl, rfl, rfl, rfl, rfl, trivial⟩, (hS.pick [0, 1, 2, 3] rfl rfl), hF⟩
  · skip
    refine AWP.seqR rfl ?_
    refine ASL.q (v := (.bool p3)) rfl rfl (Light.quiet (opMove rfl rfl)) ?_
    refine ASL.done ?_
    refine AWP.ifB hF rfl (fun hc52 hF => ?_) (fun hc52 hF => ?_)
    · skip
      refine AWP.lastR rfl ?_
      refine ASL.q (v := (.int .i64 a12.kind)) rfl rfl (Light.quiet (opMove rfl rfl)) ?_
      refine ASL.q (v := (.int .i64 (impl_contrary a12.kind))) rfl rfl ((qCall rfl rfl call_114 (impl_contrary_ok a12.kind) rfl)) ?_
      refine ASL.q (v := (.int .i64 (impl_contrary a12.kind))) rfl rfl (Light.quiet (opAssign rfl rfl)) ?_
      refine ASL.done ?_
      refine QThen.nrm ?_
      exact ⟨(impl_contrary a12.kind), ⟨rfl, rfl, rfl, rfl, rfl, trivial⟩, (hS.pick [2, 1, 0, 3] rfl rfl), hF⟩
    · skip
      refine AWP.skip ?_
      refine QThen.nrm ?_
      exact ⟨a12.kind, ⟨rfl, rfl, rfl, rfl, rfl, trivial⟩, (hS.pick [2, 1, 0, 3] rfl rfl), hF⟩

set_option maxRecDepth 10000 in
theorem impl_reader_second.body_ok {p0 : Treader} {p1 : Int} {p2 : (List TNode)} {p3 : Int} {p4 : Bool} {r : Treader} {bp0 : Nat} {wp0_list : AV} {rec_impl_reader_nnf : Treader → (List TNode) → Int → Bool → Option Treader} {rec_impl_reader_second : Treader → Int → (List TNode) → Int → Bool → Option Treader} (ih_impl_reader_nnf : ∀ {p0 : Treader} {p1 : (List TNode)} {p2 : Int} {p3 : Bool} {r : Treader} {bp0 : Nat} {wp0_list : AV} , rec_impl_reader_nnf p0 p1 p2 p3 = some r → HS Try.prog 95 [(.ptr bp0 0), (.list 3 (List.map TNode.av p1)), (.int .i64 p2), (.bool p3)] [.cell bp0 [(.str p0.s), (.int .i64 p0.at_), (.int .i64 p0.code), wp0_list, .undef], .row 3 wp0_list (List.map TNode.av p0.list)] fun v L' => ∃ up0_list : AV, v = .tup [] ∧ L' = [.cell bp0 [(.str r.s), (.int .i64 r.at_), (.int .i64 r.code), up0_list, .undef], .row 3 up0_list (List.map TNode.av r.list)]) (ih_impl_reader_second : ∀ {p0 : Treader} {p1 : Int} {p2 : (List TNode)} {p3 : Int} {p4 : Bool} {r : Treader} {bp0 : Nat} {wp0_list : AV} , rec_impl_reader_second p0 p1 p2 p3 p4 = some r → HS Try.prog 116 [(.ptr bp0 0), (.int .i64 p1), (.list 3 (List.map TNode.av p2)), (.int .i64 p3), (.bool p4)] [.cell bp0 [(.str p0.s), (.int .i64 p0.at_), (.int .i64 p0.code), wp0_list, .undef], .row 3 wp0_list (List.map TNode.av p0.list)] fun v L' => ∃ up0_list : AV, v = .tup [] ∧ L' = [.cell bp0 [(.str r.s), (.int .i64 r.at_), (.int .i64 r.code), up0_list, .undef], .row 3 up0_list (List.map TNode.av r.list)]) (hF : impl_reader_second.body rec_impl_reader_nnf rec_impl_reader_second p0 p1 p2 p3 p4 = some r) : HS Try.prog 116 [(.ptr bp0 0), (.int .i64 p1), (.list 3 (List.map TNode.av p2)), (.int .i64 p3), (.bool p4)] [.cell bp0 [(.str p0.s), (.int .i64 p0.at_), (.int .i64 p0.code), wp0_list, .undef], .row 3 wp0_list (List.map TNode.av p0.list)] fun v L' => ∃ up0_list : AV, v = .tup [] ∧ L' = [.cell bp0 [(.str r.s), (.int .i64 r.at_), (.int .i64 r.code), up0_list, .undef], .row 3 up0_list (List.map TNode.av r.list)] := by
  intro H S hS
  refine HC.enter Try.func116 rfl Try.ntmps116 (by simp) ?_
  simp only [List.cons_append, List.nil_append] at hS
  unfold impl_reader_second.body at hF
  refine AWP.seqR rfl ?_
  refine ASL.q (v := (.ptr bp0 0)) rfl rfl (Light.quiet (opMove rfl rfl)) ?_
  refine ASL.q (v := (.ptr bp0 0)) rfl rfl (Light.quiet (opNil rfl rfl rfl)) ?_
  refine ASL.q (v := (.ptr bp0 3)) rfl rfl (Light.quiet (opFieldAddr rfl fieldA_75_3 rfl rfl)) ?_
  refine ASL.q (v := wp0_list) rfl rfl (Light.quiet (kAt hS (j := 0) rfl rfl aggA_24 rfl rfl)) ?_
  refine ASL.q (v := (.int .i64 (p0.list.length : Int))) rfl rfl (Light.quiet (kLen hS (j := 1) rfl rfl rfl rfl lenT_24 rfl)) ?_
  refine ASL.q (v := (.int .i64 (W (((p0.list.length : Int)) - 1)))) rfl rfl (Light.quiet (opInt rfl rfl rfl rfl)) ?_
  refine ASL.q (v := (.int .i64 (W (((p0.list.length : Int)) - 1)))) rfl rfl (Light.quiet (opAssign rfl rfl)) ?_
  refine ASL.done ?_
  refine AWP.seqR rfl ?_
  refine ASL.q (v := (.ptr bp0 0)) rfl rfl (Light.quiet (opMove rfl rfl)) ?_
  refine ASL.q (v := (.list 3 (List.map TNode.av p2))) rfl rfl (Light.quiet (opMove rfl rfl)) ?_
  refine ASL.q (v := (.int .i64 p3)) rfl rfl (Light.quiet (opMove rfl rfl)) ?_
  refine ASL.q (v := (.bool p4)) rfl rfl (Light.quiet (opMove rfl rfl)) ?_
  obtain ⟨a21, ha21, hF⟩ := bindE hF
  refine ASL.x rfl rfl (hCallS hS [0, 1, 2] (F := [.snap S]) rfl rfl rfl call_95 (ih_impl_reader_nnf ha21) rfl rfl ?_); rintro _ _ G5 ⟨w3, rfl, rfl⟩ hS
  refine ASL.done ?_
  refine AWP.lastR rfl ?_
  refine ASL.q (v := (.ptr bp0 0)) rfl rfl (Light.quiet (opMove rfl rfl)) ?_
  refine ASL.q (v := (.int .i64 p1)) rfl rfl (Light.quiet (opMove rfl rfl)) ?_
  refine ASL.q (v := (.int .i64 (W (((p0.list.length : Int)) - 1)))) rfl rfl (Light.quiet (opMove rfl rfl)) ?_
  obtain ⟨a25, ha25, hF⟩ := bindE hF
  refine ASL.x rfl rfl (hCallS hS [0, 1, 2] (F := [.snap S]) rfl rfl rfl call_54 (impl_reader_two_ok ha25) rfl rfl ?_); rintro _ _ G8 ⟨w6, rfl, rfl⟩ hS
  refine ASL.done ?_
  refine QRet.end ?_
  obtain rfl := someE hF
  exact QRet.many (vs := []) trivial (by simp) ⟨_, ⟨w6, rfl, rfl⟩, hS.pick [0, 1, 2] rfl rfl⟩
theorem impl_reader_nnf.grp_ok {K : Nat} : (∀ {p0 : Treader} {p1 : (List TNode)} {p2 : Int} {p3 : Bool} {r : Treader} {bp0 : Nat} {wp0_list : AV} , impl_reader_nnf K p0 p1 p2 p3 = some r → HS Try.prog 95 [(.ptr bp0 0), (.list 3 (List.map TNode.av p1)), (.int .i64 p2), (.bool p3)] [.cell bp0 [(.str p0.s), (.int .i64 p0.at_), (.int .i64 p0.code), wp0_list, .undef], .row 3 wp0_list (List.map TNode.av p0.list)] fun v L' => ∃ up0_list : AV, v = .tup [] ∧ L' = [.cell bp0 [(.str r.s), (.int .i64 r.at_), (.int .i64 r.code), up0_list, .undef], .row 3 up0_list (List.map TNode.av r.list)]) ∧ (∀ {p0 : Treader} {p1 : Int} {p2 : (List TNode)} {p3 : Int} {p4 : Bool} {r : Treader} {bp0 : Nat} {wp0_list : AV} , impl_reader_second K p0 p1 p2 p3 p4 = some r → HS Try.prog 116 [(.ptr bp0 0), (.int .i64 p1), (.list 3 (List.map TNode.av p2)), (.int .i64 p3), (.bool p4)] [.cell bp0 [(.str p0.s), (.int .i64 p0.at_), (.int .i64 p0.code), wp0_list, .undef], .row 3 wp0_list (List.map TNode.av p0.list)] fun v L' => ∃ up0_list : AV, v = .tup [] ∧ L' = [.cell bp0 [(.str r.s), (.int .i64 r.at_), (.int .i64 r.code), up0_list, .undef], .row 3 up0_list (List.map TNode.av r.list)]) := by
  induction K with
  | zero => exact ⟨(by intros; rename_i h; cases h), (by intros; rename_i h; cases h)⟩
  | succ K ih => exact ⟨(by intros; rename_i h; exact impl_reader_nnf.body_ok ih.1 ih.2 h), (by intros; rename_i h; exact impl_reader_second.body_ok ih.1 ih.2 h)⟩

theorem impl_reader_nnf_ok {K : Nat} : (∀ {p0 : Treader} {p1 : (List TNode)} {p2 : Int} {p3 : Bool} {r : Treader} {bp0 : Nat} {wp0_list : AV} , impl_reader_nnf K p0 p1 p2 p3 = some r → HS Try.prog 95 [(.ptr bp0 0), (.list 3 (List.map TNode.av p1)), (.int .i64 p2), (.bool p3)] [.cell bp0 [(.str p0.s), (.int .i64 p0.at_), (.int .i64 p0.code), wp0_list, .undef], .row 3 wp0_list (List.map TNode.av p0.list)] fun v L' => ∃ up0_list : AV, v = .tup [] ∧ L' = [.cell bp0 [(.str r.s), (.int .i64 r.at_), (.int .i64 r.code), up0_list, .undef], .row 3 up0_list (List.map TNode.av r.list)]) := impl_reader_nnf.grp_ok.1

theorem impl_reader_second_ok {K : Nat} : (∀ {p0 : Treader} {p1 : Int} {p2 : (List TNode)} {p3 : Int} {p4 : Bool} {r : Treader} {bp0 : Nat} {wp0_list : AV} , impl_reader_second K p0 p1 p2 p3 p4 = some r → HS Try.prog 116 [(.ptr bp0 0), (.int .i64 p1), (.list 3 (List.map TNode.av p2)), (.int .i64 p3), (.bool p4)] [.cell bp0 [(.str p0.s), (.int .i64 p0.at_), (.int .i64 p0.code), wp0_list, .undef], .row 3 wp0_list (List.map TNode.av p0.list)] fun v L' => ∃ up0_list : AV, v = .tup [] ∧ L' = [.cell bp0 [(.str r.s), (.int .i64 r.at_), (.int .i64 r.code), up0_list, .undef], .row 3 up0_list (List.map TNode.av r.list)]) := impl_reader_nnf.grp_ok.2

set_option maxRecDepth 10000 in
theorem impl_fitting_ok {p0 : (List TNode)} {r : ((List TNode) × Bool)} {vp0 : AV} (hF : impl_fitting p0 = some r) : HS Try.prog 55 [vp0] [.row 3 vp0 (List.map TNode.av p0)] fun v L' => ∃ o0 : AV, v = .tup [o0, (.bool r.2)] ∧ L' = [.row 3 o0 (List.map TNode.av r.1)] := by
  intro H S hS
  refine HC.enter Try.func55 rfl Try.ntmps55 (by simp) ?_
  simp only [List.cons_append, List.nil_append] at hS
  unfold impl_fitting at hF
  refine AWP.seqR rfl ?_
  have hS := hNil (s := 3) (f := TNode.av) hS
  refine ASL.q (v := .nil) rfl rfl (Light.quiet (opAssign rfl rfl)) ?_
  refine ASL.q (v := (.bool false)) rfl rfl (Light.quiet (opAssign rfl rfl)) ?_
  refine ASL.done ?_
  refine AWP.seq ?_
  refine AWP.seqR rfl ?_
  refine ASL.q (v := vp0) rfl rfl (Light.quiet (opMove rfl rfl)) ?_
  refine ASL.q (v := (.int .i64 (p0.length : Int))) rfl rfl (Light.quiet (kLen hS (j := 1) rfl rfl rfl rfl lenT_24 rfl)) ?_
  refine ASL.q (v := (.bool (decide (((p0.length : Int)) > 31)))) rfl rfl (Light.quiet (opInt rfl rfl rfl rfl)) ?_
  refine ASL.done ?_
  refine AWP.ifP hF rfl (fun hc3 hF => ?_) (fun hc3 hF => ?_)
  · skip
    refine AWP.seqR rfl ?_
    have hS := hNil (s := 3) (f := TNode.av) hS
    refine ASL.q (v := .nil) rfl rfl (Light.quiet (opAssign rfl rfl)) ?_
    refine ASL.q (v := (.bool false)) rfl rfl (Light.quiet (opAssign rfl rfl)) ?_
    refine ASL.done ?_
    refine AWP.ret ?_
    refine QThen.rt ?_
    obtain rfl := someE hF
    exact QRet.many (vs := [.nil, (.bool false)]) ⟨rfl, rfl, trivial⟩ (by simp) ⟨_, ⟨.nil, rfl, rfl⟩, hS.pick [0, 3] rfl rfl⟩
  · skip
    refine AWP.skip ?_
    refine QThen.nrm ?_
    refine AWP.seqR rfl ?_
    refine ASL.q (v := vp0) rfl rfl (Light.quiet (opMove rfl rfl)) ?_
    refine ASL.q (v := vp0) rfl rfl (Light.quiet (opAssign rfl rfl)) ?_
    refine ASL.q (v := (.bool true)) rfl rfl (Light.quiet (opAssign rfl rfl)) ?_
    refine ASL.done ?_
    refine AWP.ret ?_
    obtain rfl := someE hF
    exact QRet.many (vs := [vp0, (.bool true)]) ⟨rfl, rfl, trivial⟩ (by simp) ⟨_, ⟨vp0, rfl, rfl⟩, hS.pick [1, 2] rfl rfl⟩

set_option maxRecDepth 10000 in
theorem impl_LtlNnf_ok {K : Nat} {p0 : (List TNode)} {r : ((List TNode) × Bool)} (hF : impl_LtlNnf K p0 = some r) : HS Try.prog 48 [(.list 3 (List.map TNode.av p0))] [] fun v L' => ∃ o0 : AV, v = .tup [o0, (.bool r.2)] ∧ L' = [.row 3 o0 (List.map TNode.av r.1)] := by
  intro H S hS
  refine HC.enter Try.func48 rfl Try.ntmps48 (by simp) ?_
  simp only [List.cons_append, List.nil_append] at hS
  unfold impl_LtlNnf at hF
  refine AWP.seqR rfl ?_
  have hS := hNil (s := 3) (f := TNode.av) hS
  refine ASL.q (v := .nil) rfl rfl (Light.quiet (opAssign rfl rfl)) ?_
  refine ASL.q (v := (.bool false)) rfl rfl (Light.quiet (opAssign rfl rfl)) ?_
  refine ASL.done ?_
  refine AWP.seq ?_
  refine AWP.seqR rfl ?_
  refine ASL.q (v := (.list 3 (List.map TNode.av p0))) rfl rfl (Light.quiet (opMove rfl rfl)) ?_
  obtain ⟨a6, ha6, hF⟩ := bindE hF
  refine ASL.q (v := (.bool a6)) rfl rfl ((qCall rfl rfl call_16 (impl_LtlOk_ok ha6) rfl)) ?_
  refine ASL.q (v := (.bool (!a6))) rfl rfl (Light.quiet (opNot rfl rfl)) ?_
  refine ASL.done ?_
  refine AWP.ifB hF rfl (fun hc2 hF => ?_) (fun hc2 hF => ?_)
  · skip
    refine AWP.seqR rfl ?_
    have hS := hNil (s := 3) (f := TNode.av) hS
    refine ASL.q (v := .nil) rfl rfl (Light.quiet (opAssign rfl rfl)) ?_
    refine ASL.q (v := (.bool false)) rfl rfl (Light.quiet (opAssign rfl rfl)) ?_
    refine ASL.done ?_
    refine AWP.ret ?_
    refine QThen.rt ?_
    obtain rfl := someE hF
    exact QRet.many (vs := [.nil, (.bool false)]) ⟨rfl, rfl, trivial⟩ (by simp) ⟨_, ⟨.nil, rfl, rfl⟩, hS.pick [0, 2] rfl rfl⟩
  · skip
    refine AWP.skip ?_
    refine QThen.nrm ?_
    refine AWP.seqR rfl ?_
    refine ASL.q (v := (.agg [(.str ⟨#[]⟩), (.int .i64 0), (.int .i64 0), .nil, .undef])) rfl rfl (Light.quiet (opBuildZ (zs := [(.str ⟨#[]⟩), (.int .i64 0), (.int .i64 0), .nil, .undef]) rfl plan_75 zeroA_75 ⟨.inl rfl, .inl rfl, .inl rfl, .inl rfl, .inl rfl, trivial⟩ rfl)) ?_
    have hS := hNil (s := 3) (f := TNode.av) hS
    refine ASL.x rfl rfl (hBox hS rfl rfl rfl ?_); rintro b9 G4 hK hS
    refine ASL.q (v := (.ptr b9 0)) rfl rfl (Light.quiet (opAssign rfl rfl)) ?_
    refine ASL.done ?_
    refine AWP.seqR rfl ?_
    refine ASL.q (v := (.ptr b9 0)) rfl rfl (Light.quiet (opMove rfl rfl)) ?_
    refine ASL.q (v := (.list 3 (List.map TNode.av p0))) rfl rfl (Light.quiet (opMove rfl rfl)) ?_
    refine ASL.q (v := (.list 3 (List.map TNode.av p0))) rfl rfl (Light.quiet (opMove rfl rfl)) ?_
    refine ASL.q (v := (.int .i64 (p0.length : Int))) rfl rfl (Light.quiet (opLenMap (f := TNode.av) rfl rfl rfl lenT_24 rfl)) ?_
    refine ASL.q (v := (.int .i64 (W (((p0.length : Int)) - 1)))) rfl rfl (Light.quiet (opInt rfl rfl rfl rfl)) ?_
    obtain ⟨a15, ha15, hF⟩ := bindE hF
    refine ASL.x rfl rfl (hCallS hS [0, 1, 2, 3] (F := [.row 3 .nil (List.map TNode.av ([])), .snap S]) rfl rfl rfl call_95 (impl_reader_nnf_ok ha15) rfl rfl ?_); rintro _ _ G9 ⟨w7, rfl, rfl⟩ hS
    refine ASL.done ?_
    refine AWP.seqR rfl ?_
    refine ASL.q (v := (.ptr b9 0)) rfl rfl (Light.quiet (opMove rfl rfl)) ?_
    refine ASL.q (v := (.ptr b9 0)) rfl rfl (Light.quiet (opNil rfl rfl rfl)) ?_
    refine ASL.q (v := (.ptr b9 3)) rfl rfl (Light.quiet (opFieldAddr rfl fieldA_75_3 rfl rfl)) ?_
    refine ASL.q (v := w7) rfl rfl (Light.quiet (kAt hS (j := 0) rfl rfl aggA_24 rfl rfl)) ?_
    obtain ⟨a20, ha20, hF⟩ := bindE hF
    refine ASL.x rfl rfl (hCallS hS [1, 0, 2, 3] (F := [.cell b9 [(.str a15.s), (.int .i64 a15.at_), (.int .i64 a15.code), w7, .undef], .row 3 .nil (List.map TNode.av ([])), .snap S]) rfl rfl rfl call_55 (impl_fitting_ok ha20) rfl rfl ?_); rintro _ _ G12 ⟨w10, rfl, rfl⟩ hS
    refine ASL.q (v := w10) rfl rfl (Light.quiet (opExtract rfl rfl rfl)) ?_
    refine ASL.q (v := (.bool a20.2)) rfl rfl (Light.quiet (opExtract rfl rfl rfl)) ?_
    refine ASL.q (v := w10) rfl rfl (Light.quiet (opAssign rfl rfl)) ?_
    refine ASL.q (v := (.bool a20.2)) rfl rfl (Light.quiet (opAssign rfl rfl)) ?_
    refine ASL.done ?_
    refine AWP.ret ?_
    obtain rfl := someE hF
    exact QRet.many (vs := [w10, (.bool a20.2)]) ⟨rfl, rfl, trivial⟩ (by simp) ⟨_, ⟨w10, rfl, rfl⟩, hS.pick [0, 3] rfl rfl⟩

set_option maxRecDepth 10000 in
theorem spec_l8Parts_ok (p0 : Int) : PC Try.prog 56 [(.int .i64 p0)] fun v => v = (.int .i64 (spec_l8Parts p0)) := by
  generalize hF : spec_l8Parts p0 = r
  refine PC.enter Try.func56 rfl Try.ntmps56 (by simp) ?_
  have hS := Sep.void; unfold spec_l8Parts at hF
  refine AWP.seqR rfl ?_
  refine ASL.q (v := (.int .i64 0)) rfl rfl (Light.quiet (opAssign rfl rfl)) ?_
  refine ASL.done ?_
  refine AWP.seq ?_
  refine AWP.seqR rfl ?_
  refine ASL.q (v := (.int .i64 p0)) rfl rfl (Light.quiet (opMove rfl rfl)) ?_
  refine ASL.done ?_
  refine AWP.block ?_
  refine AWP.seqM (fun e H => ∃ x4_1 : Bool, E.Told e [(3, (.int .i64 p0)), (4, (.bool x4_1))] ∧ E.Sep H [] ∧ spec_l8Parts.k0 p0 x4_1 = r) ?_ ?_
  · rintro e0 G14 ⟨x4_1, hT, hS, hF⟩; refine AWP.only _ hT ?_; unfold spec_l8Parts.k0 at hF
    refine AWP.ifB hF rfl (fun hc1 hF => ?_) (fun hc1 hF => ?_)
    · skip
      refine AWP.seqR rfl ?_
      refine ASL.q (v := (.int .i64 0)) rfl rfl (Light.quiet (opAssign rfl rfl)) ?_
      refine ASL.done ?_
      refine AWP.ret ?_
      refine QBlock.ret ?_
      refine QThen.rt ?_
      obtain rfl := hF
      exact QRet.sole (v := (.int .i64 0)) ⟨rfl, trivial⟩ rfl
    · skip
      refine AWP.seqM (fun e H => ∃ x8_2 : Bool, E.Told e [(3, (.int .i64 p0)), (8, (.bool x8_2))] ∧ E.Sep H [] ∧ spec_l8Parts.k1 p0 x8_2 = r) ?_ ?_
      · rintro e0 G10 ⟨x8_2, hT, hS, hF⟩; refine AWP.only _ hT ?_; unfold spec_l8Parts.k1 at hF
        refine AWP.ifB hF rfl (fun hc2 hF => ?_) (fun hc2 hF => ?_)
        · skip
          refine AWP.seqR rfl ?_
          refine ASL.q (v := (.int .i64 1)) rfl rfl (Light.quiet (opAssign rfl rfl)) ?_
          refine ASL.done ?_
          refine AWP.ret ?_
          refine QBlock.ret ?_
          refine QThen.rt ?_
          obtain rfl := hF
          exact QRet.sole (v := (.int .i64 1)) ⟨rfl, trivial⟩ rfl
        · skip
          refine AWP.seq ?_
          refine AWP.seqR rfl ?_
          refine ASL.q (v := (.bool (decide (p0 = 5)))) rfl rfl (Light.quiet (opInt rfl rfl rfl rfl)) ?_
          refine ASL.q (v := (.bool (decide (p0 = 5)))) rfl rfl (Light.quiet (opAssign rfl rfl)) ?_
          refine ASL.done ?_
          refine AWP.ifP hF rfl (fun hc3 hF => ?_) (fun hc3 hF => ?_)
          · skip
            refine AWP.skip ?_
            refine QThen.nrm ?_
            refine AWP.ifP hF rfl (fun hc4 hF => ?_) (fun hc4 hF => ?_)
            · skip
              refine AWP.seqR rfl ?_
              refine ASL.q (v := (.int .i64 2)) rfl rfl (Light.quiet (opAssign rfl rfl)) ?_
              refine ASL.done ?_
              refine AWP.ret ?_
              refine QBlock.ret ?_
              refine QThen.rt ?_
              obtain rfl := hF
              exact QRet.sole (v := (.int .i64 2)) ⟨rfl, trivial⟩ rfl
            · skip
              refine AWP.skip ?_
              refine QBlock.nrm ?_
              refine QThen.nrm ?_
              refine AWP.seqR rfl ?_
              refine ASL.q (v := (.int .i64 (-1))) rfl rfl (Light.quiet (opAssign rfl rfl)) ?_
              refine ASL.done ?_
              refine AWP.ret ?_
              obtain rfl := hF
              exact QRet.sole (v := (.int .i64 (-1))) ⟨rfl, trivial⟩ rfl
          · skip
            refine AWP.seqR rfl ?_
            refine ASL.q (v := (.bool (decide (p0 = 6)))) rfl rfl (Light.quiet (opInt rfl rfl rfl rfl)) ?_
            refine ASL.q (v := (.bool (decide (p0 = 6)))) rfl rfl (Light.quiet (opAssign rfl rfl)) ?_
            refine ASL.done ?_
            refine AWP.ifP hF rfl (fun hc5 hF => ?_) (fun hc5 hF => ?_)
            · skip
              refine AWP.skip ?_
              refine QThen.nrm ?_
              refine AWP.ifP hF rfl (fun hc6 hF => ?_) (fun hc6 hF => ?_)
              · skip
                refine AWP.seqR rfl ?_
                refine ASL.q (v := (.int .i64 2)) rfl rfl (Light.quiet (opAssign rfl rfl)) ?_
                refine ASL.done ?_
                refine AWP.ret ?_
                refine QBlock.ret ?_
                refine QThen.rt ?_
                obtain rfl := hF
                exact QRet.sole (v := (.int .i64 2)) ⟨rfl, trivial⟩ rfl
              · skip
                refine AWP.skip ?_
                refine QBlock.nrm ?_
                refine QThen.nrm ?_
                refine AWP.seqR rfl ?_
                refine ASL.q (v := (.int .i64 (-1))) rfl rfl (Light.quiet (opAssign rfl rfl)) ?_
                refine ASL.done ?_
                refine AWP.ret ?_
                obtain rfl := hF
                exact QRet.sole (v := (.int .i64 (-1))) ⟨rfl, trivial⟩ rfl
            · skip
              refine AWP.seqR rfl ?_
              refine ASL.q (v := (.bool (decide (p0 = 8)))) rfl rfl (Light.quiet (opInt rfl rfl rfl rfl)) ?_
              refine ASL.q (v := (.bool (decide (p0 = 8)))) rfl rfl (Light.quiet (opAssign rfl rfl)) ?_
              refine ASL.done ?_
              refine AWP.ifP hF rfl (fun hc7 hF => ?_) (fun hc7 hF => ?_)
              · skip
                refine AWP.skip ?_
                refine QThen.nrm ?_
                refine AWP.ifP hF rfl (fun hc8 hF => ?_) (fun hc8 hF => ?_)
                · skip
                  refine AWP.seqR rfl ?_
                  refine ASL.q (v := (.int .i64 2)) rfl rfl (Light.quiet (opAssign rfl rfl)) ?_
                  refine ASL.done ?_
                  refine AWP.ret ?_
                  refine QBlock.ret ?_
                  refine QThen.rt ?_
                  obtain rfl := hF
                  exact QRet.sole (v := (.int .i64 2)) ⟨rfl, trivial⟩ rfl
                · skip
                  refine AWP.skip ?_
                  refine QBlock.nrm ?_
                  refine QThen.nrm ?_
                  refine AWP.seqR rfl ?_
                  refine ASL.q (v := (.int .i64 (-1))) rfl rfl (Light.quiet (opAssign rfl rfl)) ?_
                  refine ASL.done ?_
                  refine AWP.ret ?_
                  obtain rfl := hF
                  exact QRet.sole (v := (.int .i64 (-1))) ⟨rfl, trivial⟩ rfl
              · skip
                refine AWP.lastR rfl ?_
                refine ASL.q (v := (.bool (decide (p0 = 9)))) rfl rfl (Light.quiet (opInt rfl rfl rfl rfl)) ?_
                refine ASL.q (v := (.bool (decide (p0 = 9)))) rfl rfl (Light.quiet (opAssign rfl rfl)) ?_
                refine ASL.done ?_
                refine QThen.nrm ?_
                refine AWP.ifP hF rfl (fun hc9 hF => ?_) (fun hc9 hF => ?_)
                · skip
                  refine AWP.seqR rfl ?_
                  refine ASL.q (v := (.int .i64 2)) rfl rfl (Light.quiet (opAssign rfl rfl)) ?_
                  refine ASL.done ?_
                  refine AWP.ret ?_
                  refine QBlock.ret ?_
                  refine QThen.rt ?_
                  obtain rfl := hF
                  exact QRet.sole (v := (.int .i64 2)) ⟨rfl, trivial⟩ rfl
                · skip
                  refine AWP.skip ?_
                  refine QBlock.nrm ?_
                  refine QThen.nrm ?_
                  refine AWP.seqR rfl ?_
                  refine ASL.q (v := (.int .i64 (-1))) rfl rfl (Light.quiet (opAssign rfl rfl)) ?_
                  refine ASL.done ?_
                  refine AWP.ret ?_
                  obtain rfl := hF
                  exact QRet.sole (v := (.int .i64 (-1))) ⟨rfl, trivial⟩ rfl
      · skip
        refine AWP.seqR rfl ?_
        refine ASL.q (v := (.bool (decide (p0 = 4)))) rfl rfl (Light.quiet (opInt rfl rfl rfl rfl)) ?_
        refine ASL.q (v := (.bool (decide (p0 = 4)))) rfl rfl (Light.quiet (opAssign rfl rfl)) ?_
        refine ASL.done ?_
        refine AWP.ifP hF rfl (fun hc11 hF => ?_) (fun hc11 hF => ?_)
        · skip
          refine AWP.skip ?_
          refine QThen.nrm ?_
          exact ⟨(decide (p0 = 4)), ⟨rfl, rfl, trivial⟩, (hS.pick [] rfl rfl), hF⟩
        · skip
          refine AWP.seqR rfl ?_
          refine ASL.q (v := (.bool (decide (p0 = 7)))) rfl rfl (Light.quiet (opInt rfl rfl rfl rfl)) ?_
          refine ASL.q (v := (.bool (decide (p0 = 7)))) rfl rfl (Light.quiet (opAssign rfl rfl)) ?_
          refine ASL.done ?_
          refine AWP.ifP hF rfl (fun hc12 hF => ?_) (fun hc12 hF => ?_)
          · skip
            refine AWP.skip ?_
            refine QThen.nrm ?_
            exact ⟨(decide (p0 = 7)), ⟨rfl, rfl, trivial⟩, (hS.pick [] rfl rfl), hF⟩
          · skip
            refine AWP.seqR rfl ?_
            refine ASL.q (v := (.bool (decide (p0 = 10)))) rfl rfl (Light.quiet (opInt rfl rfl rfl rfl)) ?_
            refine ASL.q (v := (.bool (decide (p0 = 10)))) rfl rfl (Light.quiet (opAssign rfl rfl)) ?_
            refine ASL.done ?_
            refine AWP.ifP hF rfl (fun hc13 hF => ?_) (fun hc13 hF => ?_)
            · skip
              refine AWP.skip ?_
              refine QThen.nrm ?_
              exact ⟨(decide (p0 = 10)), ⟨rfl, rfl, trivial⟩, (hS.pick [] rfl rfl), hF⟩
            · skip
              refine AWP.lastR rfl ?_
              refine ASL.q (v := (.bool (decide (p0 = 11)))) rfl rfl (Light.quiet (opInt rfl rfl rfl rfl)) ?_
              refine ASL.q (v := (.bool (decide (p0 = 11)))) rfl rfl (Light.quiet (opAssign rfl rfl)) ?_
              refine ASL.done ?_
              refine QThen.nrm ?_
              exact ⟨(decide (p0 = 11)), ⟨rfl, rfl, trivial⟩, (hS.pick [] rfl rfl), hF⟩
  · skip
    refine AWP.seqR rfl ?_
    refine ASL.q (v := (.bool (decide (p0 = 1)))) rfl rfl (Light.quiet (opInt rfl rfl rfl rfl)) ?_
    refine ASL.q (v := (.bool (decide (p0 = 1)))) rfl rfl (Light.quiet (opAssign rfl rfl)) ?_
    refine ASL.done ?_
    refine AWP.ifP hF rfl (fun hc15 hF => ?_) (fun hc15 hF => ?_)
    · skip
      refine AWP.skip ?_
      refine QThen.nrm ?_
      exact ⟨(decide (p0 = 1)), ⟨rfl, rfl, trivial⟩, (hS.pick [] rfl rfl), hF⟩
    · skip
      refine AWP.seqR rfl ?_
      refine ASL.q (v := (.bool (decide (p0 = 2)))) rfl rfl (Light.quiet (opInt rfl rfl rfl rfl)) ?_
      refine ASL.q (v := (.bool (decide (p0 = 2)))) rfl rfl (Light.quiet (opAssign rfl rfl)) ?_
      refine ASL.done ?_
      refine AWP.ifP hF rfl (fun hc16 hF => ?_) (fun hc16 hF => ?_)
      · skip
        refine AWP.skip ?_
        refine QThen.nrm ?_
        exact ⟨(decide (p0 = 2)), ⟨rfl, rfl, trivial⟩, (hS.pick [] rfl rfl), hF⟩
      · skip
        refine AWP.lastR rfl ?_
        refine ASL.q (v := (.bool (decide (p0 = 3)))) rfl rfl (Light.quiet (opInt rfl rfl rfl rfl)) ?_
        refine ASL.q (v := (.bool (decide (p0 = 3)))) rfl rfl (Light.quiet (opAssign rfl rfl)) ?_
        refine ASL.done ?_
        refine QThen.nrm ?_
        exact ⟨(decide (p0 = 3)), ⟨rfl, rfl, trivial⟩, (hS.pick [] rfl rfl), hF⟩

set_option maxRecDepth 10000 in
theorem spec_l2Leaf_ok (p0 : TNode) : PC Try.prog 87 [(TNode.av p0)] fun v => v = (.bool (spec_l2Leaf p0)) := by
  generalize hF : spec_l2Leaf p0 = r
  refine PC.enter Try.func87 rfl Try.ntmps87 (by simp) ?_
  have hS := Sep.void; unfold spec_l2Leaf at hF
  refine AWP.seqR rfl ?_
  refine ASL.q (v := (.rptr [(.int .i64 p0.kind), (.int .i64 p0.a), (.int .i64 p0.b)])) rfl rfl ((qBoxI (v := (TNode.av p0)) rfl rfl rfl rfl)) ?_
  refine ASL.q (v := (.bool false)) rfl rfl (Light.quiet (opAssign rfl rfl)) ?_
  refine ASL.done ?_
  refine AWP.seq ?_
  refine AWP.seqR rfl ?_
  refine ASL.q (v := (.rptr [(.int .i64 p0.kind), (.int .i64 p0.a), (.int .i64 p0.b)])) rfl rfl (Light.quiet (opFieldAddrR rfl fieldA_59_0 rfl rfl)) ?_
  refine ASL.q (v := (.int .i64 p0.kind)) rfl rfl (Light.quiet (opLoadR rfl aggA_3 rfl rfl)) ?_
  refine ASL.q (v := (.bool (decide (p0.kind = 3)))) rfl rfl (Light.quiet (opInt rfl rfl rfl rfl)) ?_
  refine ASL.done ?_
  refine AWP.ifP hF rfl (fun hc1 hF => ?_) (fun hc1 hF => ?_)
  · skip
    refine AWP.seqR rfl ?_
    refine ASL.q (v := (.rptr [(.int .i64 p0.a), (.int .i64 p0.b)])) rfl rfl (Light.quiet (opFieldAddrR rfl fieldA_59_1 rfl rfl)) ?_
    refine ASL.q (v := (.int .i64 p0.a)) rfl rfl (Light.quiet (opLoadR rfl aggA_3 rfl rfl)) ?_
    refine ASL.q (v := (.bool (spec_l1In p0.a 0 2))) rfl rfl ((qCall rfl rfl call_86 (spec_l1In_ok p0.a 0 2) rfl)) ?_
    refine ASL.q (v := (.bool (spec_l1In p0.a 0 2))) rfl rfl (Light.quiet (opAssign rfl rfl)) ?_
    refine ASL.done ?_
    refine AWP.ret ?_
    refine QThen.rt ?_
    obtain rfl := hF
    exact QRet.sole (v := (.bool (spec_l1In p0.a 0 2))) ⟨rfl, trivial⟩ rfl
  · skip
    refine AWP.skip ?_
    refine QThen.nrm ?_
    refine AWP.seqR rfl ?_
    refine ASL.q (v := (.rptr [(.int .i64 p0.a), (.int .i64 p0.b)])) rfl rfl (Light.quiet (opFieldAddrR rfl fieldA_59_1 rfl rfl)) ?_
    refine ASL.q (v := (.int .i64 p0.a)) rfl rfl (Light.quiet (opLoadR rfl aggA_3 rfl rfl)) ?_
    refine ASL.q (v := (.bool (decide (p0.a = 0)))) rfl rfl (Light.quiet (opInt rfl rfl rfl rfl)) ?_
    refine ASL.q (v := (.bool (decide (p0.a = 0)))) rfl rfl (Light.quiet (opAssign rfl rfl)) ?_
    refine ASL.done ?_
    refine AWP.ret ?_
    obtain rfl := hF
    exact QRet.sole (v := (.bool (decide (p0.a = 0)))) ⟨rfl, trivial⟩ rfl

set_option maxRecDepth 10000 in
theorem spec_l2Sizes_ok {p0 : (List TNode)} {p1 : (List Int)} {r : (List Int)} (hF : spec_l2Sizes p0 p1 = some r) : PO Try.prog 88 [(.list 3 (List.map TNode.av p0)), (.list 1 (List.map (AV.int .i64) p1))] 1 (List.map (AV.int .i64) r) := by
  refine HC.enter Try.func88 rfl Try.ntmps88 (by simp) ?_
  have hS := Sep.void; unfold spec_l2Sizes at hF
  refine AWP.seqR rfl ?_
  have hS := hNil (s := 1) (f := (AV.int .i64)) hS
  refine ASL.q (v := .nil) rfl rfl (Light.quiet (opAssign rfl rfl)) ?_
  refine ASL.done ?_
  refine AWP.seqR rfl ?_
  refine ASL.x rfl rfl (hLit (f := (AV.int .i64)) (zs := []) hS rfl rfl elemA_32 sizeA_3 zeroA_3 rfl rfl rfl rfl (by simp [cells]) (nlt rfl) ?_); rintro v10 G2 hK hS
  refine ASL.q (v := v10) rfl rfl (Light.quiet (opAssign rfl rfl)) ?_
  refine ASL.done ?_
  refine AWP.seqM (fun e H => ∃ y4 : (List Int), ∃ w5 : AV, E.Told e [(5, w5)] ∧ E.Sep H [.row 1 w5 (List.map (AV.int .i64) y4)] ∧ spec_l2Sizes.k0 y4 = some r) ?_ ?_
  · rintro e0 G7 ⟨y4, w5, hT, hS, hF⟩; refine AWP.only _ hT ?_; unfold spec_l2Sizes.k0 at hF
    refine AWP.seqR rfl ?_
    refine ASL.q (v := w5) rfl rfl (Light.quiet (opMove rfl rfl)) ?_
    refine ASL.q (v := w5) rfl rfl (Light.quiet (opAssign rfl rfl)) ?_
    refine ASL.done ?_
    refine AWP.ret ?_
    obtain rfl := someE hF
    exact QRet.sole (v := w5) ⟨rfl, trivial⟩ (hS.get (k := 0) rfl)
  · skip
    refine AWP.seqR rfl ?_
    refine ASL.q (v := (.int .i64 0)) rfl rfl (Light.quiet (opAssign rfl rfl)) ?_
    refine ASL.done ?_
    refine AWP.block ?_
    obtain ⟨o14, hL13, hR15⟩ := bindE hF
    refine AWP.loopF (ω := AV) hL13 (fun s w => [(0, (.list 3 (List.map TNode.av p0))), (1, (.list 1 (List.map (AV.int .i64) p1))), (5, w), (6, (.int .i64 s.2))]) (fun s w => [.row 1 w (List.map (AV.int .i64) s.1)]) v10 ⟨rfl, rfl, rfl, rfl, trivial⟩ (hS.pick [0] rfl rfl) ?_
    rintro ⟨y8, x6_l0⟩ w9 G16 hS x11 hF hx12
    try dsimp only at hS ⊢
    have hF : spec_l2Sizes.b0 p0 p1 y8 x6_l0 = some x11 := hF; unfold spec_l2Sizes.b0 at hF
    refine AWP.seq ?_
    refine AWP.seqR rfl ?_
    refine ASL.q (v := (.int .i64 x6_l0)) rfl rfl (Light.quiet (opMove rfl rfl)) ?_
    refine ASL.q (v := (.list 3 (List.map TNode.av p0))) rfl rfl (Light.quiet (opMove rfl rfl)) ?_
    refine ASL.q (v := (.int .i64 (p0.length : Int))) rfl rfl (Light.quiet (opLenMap (f := TNode.av) rfl rfl rfl lenT_24 rfl)) ?_
    refine ASL.q (v := (.bool (decide (x6_l0 < ((p0.length : Int)))))) rfl rfl (Light.quiet (opInt rfl rfl rfl rfl)) ?_
    refine ASL.done ?_
    refine AWP.ifP hF rfl (fun hc17 hF => ?_) (fun hc17 hF => ?_)
    · skip
      refine AWP.skip ?_
      refine QThen.nrm ?_
      refine AWP.seq ?_
      refine AWP.block ?_
      refine AWP.seqR rfl ?_
      refine ASL.q (v := (.list 3 (List.map TNode.av p0))) rfl rfl (Light.quiet (opMove rfl rfl)) ?_
      refine ASL.q (v := (.int .i64 x6_l0)) rfl rfl (Light.quiet (opMove rfl rfl)) ?_
      obtain ⟨a19, ha19, hF⟩ := bindE hF
      refine ASL.q (v := (.rptr [(.int .i64 a19.kind), (.int .i64 a19.a), (.int .i64 a19.b)])) rfl rfl (Light.quiet (kIx (f := TNode.av) ha19 rfl rfl rfl elemA_24 sizeA_59 rfl)) ?_
      refine ASL.q (v := (TNode.av a19)) rfl rfl (Light.quiet (opLoadRA rfl aggA_59 sizeA_59 rfl (nlt rfl) rfl)) ?_
      refine ASL.x rfl rfl (hNewZ hS [(.int .i64 0), (.int .i64 0), (.int .i64 0)] rfl zeroA_59 ⟨.inl rfl, .inl rfl, .inl rfl, trivial⟩ ?_); rintro b7 G18 hK hS
      refine ASL.n rfl rfl (hPutA hS (j := 0) rfl rfl sizeA_59 rfl rfl rfl rfl rfl (nlt rfl) ?_); rintro G20 hS
      refine ASL.done ?_
      refine AWP.seqR rfl ?_
      refine ASL.q (v := (.int .i64 1)) rfl rfl (Light.quiet (opAssign rfl rfl)) ?_
      refine ASL.done ?_
      refine AWP.seq ?_
      refine AWP.seqR rfl ?_
      refine ASL.q (v := (.list 1 (List.map (AV.int .i64) p1))) rfl rfl (Light.quiet (opMove rfl rfl)) ?_
      refine ASL.q (v := (.int .i64 x6_l0)) rfl rfl (Light.quiet (opMove rfl rfl)) ?_
      obtain ⟨a23, ha23, hF⟩ := bindE hF
      refine ASL.q (v := (.rptr [(.int .i64 a23)])) rfl rfl (Light.quiet (kIx (f := (AV.int .i64)) ha23 rfl rfl rfl elemA_32 sizeA_3 rfl)) ?_
      refine ASL.q (v := (.int .i64 a23)) rfl rfl (Light.quiet (opLoadR rfl aggA_3 rfl rfl)) ?_
      refine ASL.done ?_
      refine AWP.block ?_
      refine AWP.seqR rfl ?_
      refine ASL.q (v := (.bool (decide (a23 = 1)))) rfl rfl (Light.quiet (opInt rfl rfl rfl rfl)) ?_
      refine ASL.q (v := (.bool (decide (a23 = 1)))) rfl rfl (Light.quiet (opAssign rfl rfl)) ?_
      refine ASL.done ?_
      refine AWP.ifP hF rfl (fun hc21 hF => ?_) (fun hc21 hF => ?_)
      · skip
        refine AWP.seq ?_
        refine AWP.seqR rfl ?_
        refine ASL.q (v := (.int .i64 x6_l0)) rfl rfl (Light.quiet (opMove rfl rfl)) ?_
        refine ASL.q (v := (.bool (decide (x6_l0 < 1)))) rfl rfl (Light.quiet (opInt rfl rfl rfl rfl)) ?_
        obtain ⟨c33, hc33, hF⟩ := bndE hF
        refine ASL.q (v := (.bool c33)) rfl rfl ((Quiet.cast (Light.quiet (opMove rfl rfl)) (congrArg AV.bool hc33.symm))) ?_
        refine ASL.g (v := (.ptr b7 1)) (.bool c33) false rfl (wF _) rfl (fun hG => by have q0 := gN hG; subst q0; exact Light.quiet (opFieldAddr rfl fieldA_59_1 rfl rfl)) ?_
        refine ASL.g (v := (.int .i64 a19.a)) (.bool c33) false rfl (wF _) rfl (fun hG => by have q0 := gN hG; subst q0; exact Light.quiet (kAt hS (j := 0) rfl rfl aggA_3 rfl rfl)) ?_
        refine ASL.g (v := (.int .i64 x6_l0)) (.bool c33) false rfl (wF _) rfl (fun hG => by have q0 := gN hG; subst q0; exact Light.quiet (opMove rfl rfl)) ?_
        refine ASL.g (v := (.int .i64 (W (x6_l0 - 1)))) (.bool c33) false rfl (wF _) rfl (fun hG => by have q0 := gN hG; subst q0; exact Light.quiet (opInt rfl rfl rfl rfl)) ?_
        refine ASL.g (v := (.bool (decide (a19.a ≠ ((W (x6_l0 - 1))))))) (.bool c33) false rfl (wF _) rfl (fun hG => by have q0 := gN hG; subst q0; exact Light.quiet (opInt rfl rfl rfl rfl)) ?_
        refine ASL.q (v := (.bool (c33 || (decide (a19.a ≠ ((W (x6_l0 - 1)))))))) rfl rfl (Light.quiet (opPick (b := c33) rfl rfl (by cases c33 <;> rfl))) ?_
        obtain ⟨c40, hc40, hF⟩ := bndE hF
        refine ASL.q (v := (.bool c40)) rfl rfl ((Quiet.cast (Light.quiet (opMove rfl rfl)) (congrArg AV.bool hc40.symm))) ?_
        refine ASL.g (v := (.ptr b7 2)) (.bool c40) false rfl (wF _) rfl (fun hG => by have q0 := gN hG; subst q0; exact Light.quiet (opFieldAddr rfl fieldA_59_2 rfl rfl)) ?_
        refine ASL.g (v := (.int .i64 a19.b)) (.bool c40) false rfl (wF _) rfl (fun hG => by have q0 := gN hG; subst q0; exact Light.quiet (kAt hS (j := 0) rfl rfl aggA_3 rfl rfl)) ?_
        refine ASL.g (v := (.bool (decide (a19.b ≠ 0)))) (.bool c40) false rfl (wF _) rfl (fun hG => by have q0 := gN hG; subst q0; exact Light.quiet (opInt rfl rfl rfl rfl)) ?_
        refine ASL.q (v := (.bool (c40 || (decide (a19.b ≠ 0))))) rfl rfl (Light.quiet (opPick (b := c40) rfl rfl (by cases c40 <;> rfl))) ?_
        refine ASL.done ?_
        refine AWP.ifB hF rfl (fun hc22 hF => ?_) (fun hc22 hF => ?_)
        · skip
          refine AWP.seqR rfl ?_
          refine ASL.x rfl rfl (hLit (f := (AV.int .i64)) (zs := []) hS rfl rfl elemA_32 sizeA_3 zeroA_3 rfl rfl rfl rfl (by simp [cells]) (nlt rfl) ?_); rintro v45 G23 hK hS
          refine ASL.q (v := v45) rfl rfl (Light.quiet (opAssign rfl rfl)) ?_
          refine ASL.done ?_
          refine AWP.ret ?_
          refine QThen.rt ?_
          refine QBlock.ret ?_
          refine QThen.rt ?_
          refine QBlock.ret ?_
          refine QThen.rt ?_
          refine QThen.rt ?_
          refine QBlock.ret ?_
          refine QThen.rt ?_
          obtain rfl := (hx12 _ (someE hF).symm)
          have hF := hR15
          have hF := sumR hF
          obtain rfl := someE hF
          exact QRet.sole (v := v45) ⟨rfl, trivial⟩ (hS.get (k := 0) rfl)
        · skip
          refine AWP.skip ?_
          refine QThen.nrm ?_
          refine AWP.lastR rfl ?_
          refine ASL.q (v := w9) rfl rfl (Light.quiet (opMove rfl rfl)) ?_
          refine ASL.q (v := (.int .i64 x6_l0)) rfl rfl (Light.quiet (opMove rfl rfl)) ?_
          refine ASL.q (v := (.int .i64 (W (x6_l0 - 1)))) rfl rfl (Light.quiet (opInt rfl rfl rfl rfl)) ?_
          obtain ⟨a49, ha49, hF⟩ := bindE hF
          refine ASL.q (v := (ptrTo w9 ((W (x6_l0 - 1))).toNat 1)) rfl rfl (Light.quiet (kIxOx hS (j := 1) rfl ha49 rfl rfl rfl elemA_32 sizeA_3)) ?_
          refine ASL.q (v := (.int .i64 a49)) rfl rfl (Light.quiet (kLd (f := (AV.int .i64)) hS (j := 1) rfl ha49 rfl aggA_3 rfl (fun _ => rfl))) ?_
          refine ASL.q (v := (.int .i64 (W (1 + a49)))) rfl rfl (Light.quiet (opInt rfl rfl rfl rfl)) ?_
          refine ASL.q (v := (.int .i64 (W (1 + a49)))) rfl rfl (Light.quiet (opAssign rfl rfl)) ?_
          refine ASL.done ?_
          refine QBlock.nrm ?_
          refine QThen.nrm ?_
          refine AWP.lastR rfl ?_
          refine ASL.q (v := w9) rfl rfl (Light.quiet (opMove rfl rfl)) ?_
          refine ASL.q (v := (.int .i64 (W (1 + a49)))) rfl rfl (Light.quiet (opMove rfl rfl)) ?_
          refine ASL.q (v := (.list 1 (List.map (AV.int .i64) [(W (1 + a49))]))) rfl rfl ((qLit (xs := [(.int .i64 (W (1 + a49)))]) rfl elemA_32 sizeA_3 zeroA_3 rfl rfl rfl rfl (by simp [cells]) (nlt rfl))) ?_
          obtain ⟨z95, hz95, hF⟩ := bindE hF
          refine ASL.x rfl rfl (hApp (f := (AV.int .i64)) (ws := [(W (1 + a49))]) hS (j := 1) rfl hz95 rfl elemA_32 rfl sizeA_3 bytesA_3 zeroA_3 rfl rfl rfl (fun _ => rfl) ?_); rintro v95 G25 hS
          refine ASL.q (v := v95) rfl rfl (Light.quiet (opAssign rfl rfl)) ?_
          refine ASL.done ?_
          refine QBlock.nrm ?_
          refine QThen.nrm ?_
          refine AWP.lastR rfl ?_
          refine ASL.q (v := (.int .i64 x6_l0)) rfl rfl (Light.quiet (opMove rfl rfl)) ?_
          refine ASL.q (v := (.int .i64 (W (x6_l0 + 1)))) rfl rfl (Light.quiet (opInt rfl rfl rfl rfl)) ?_
          refine ASL.q (v := (.int .i64 (W (x6_l0 + 1)))) rfl rfl (Light.quiet (opAssign rfl rfl)) ?_
          refine ASL.done ?_
          refine QThen.nrm ?_
          exact ⟨(z95, (W (x6_l0 + 1))), v95, (someE hF).symm, ⟨rfl, rfl, rfl, rfl, trivial⟩, (hS.pick [1] rfl rfl)⟩
      · skip
        refine AWP.seqR rfl ?_
        refine ASL.q (v := (.bool (decide (a23 = 2)))) rfl rfl (Light.quiet (opInt rfl rfl rfl rfl)) ?_
        refine ASL.q (v := (.bool (decide (a23 = 2)))) rfl rfl (Light.quiet (opAssign rfl rfl)) ?_
        refine ASL.done ?_
        refine AWP.ifP hF rfl (fun hc27 hF => ?_) (fun hc27 hF => ?_)
        · skip
          refine AWP.seq ?_
          refine AWP.seqR rfl ?_
          refine ASL.q (v := (.int .i64 x6_l0)) rfl rfl (Light.quiet (opMove rfl rfl)) ?_
          refine ASL.q (v := (.bool (decide (x6_l0 < 2)))) rfl rfl (Light.quiet (opInt rfl rfl rfl rfl)) ?_
          obtain ⟨c56, hc56, hF⟩ := bndE hF
          refine ASL.q (v := (.bool c56)) rfl rfl ((Quiet.cast (Light.quiet (opMove rfl rfl)) (congrArg AV.bool hc56.symm))) ?_
          refine ASL.g (v := (.ptr b7 2)) (.bool c56) false rfl (wF _) rfl (fun hG => by have q0 := gN hG; subst q0; exact Light.quiet (opFieldAddr rfl fieldA_59_2 rfl rfl)) ?_
          refine ASL.g (v := (.int .i64 a19.b)) (.bool c56) false rfl (wF _) rfl (fun hG => by have q0 := gN hG; subst q0; exact Light.quiet (kAt hS (j := 0) rfl rfl aggA_3 rfl rfl)) ?_
          refine ASL.g (v := (.int .i64 x6_l0)) (.bool c56) false rfl (wF _) rfl (fun hG => by have q0 := gN hG; subst q0; exact Light.quiet (opMove rfl rfl)) ?_
          refine ASL.g (v := (.int .i64 (W (x6_l0 - 1)))) (.bool c56) false rfl (wF _) rfl (fun hG => by have q0 := gN hG; subst q0; exact Light.quiet (opInt rfl rfl rfl rfl)) ?_
          refine ASL.g (v := (.bool (decide (a19.b ≠ ((W (x6_l0 - 1))))))) (.bool c56) false rfl (wF _) rfl (fun hG => by have q0 := gN hG; subst q0; exact Light.quiet (opInt rfl rfl rfl rfl)) ?_
          refine ASL.q (v := (.bool (c56 || (decide (a19.b ≠ ((W (x6_l0 - 1)))))))) rfl rfl (Light.quiet (opPick (b := c56) rfl rfl (by cases c56 <;> rfl))) ?_
          refine ASL.done ?_
          refine AWP.ifB hF rfl (fun hc28 hF => ?_) (fun hc28 hF => ?_)
          · skip
            refine AWP.seqR rfl ?_
            refine ASL.x rfl rfl (hLit (f := (AV.int .i64)) (zs := []) hS rfl rfl elemA_32 sizeA_3 zeroA_3 rfl rfl rfl rfl (by simp [cells]) (nlt rfl) ?_); rintro v63 G29 hK hS
            refine ASL.q (v := v63) rfl rfl (Light.quiet (opAssign rfl rfl)) ?_
            refine ASL.done ?_
            refine AWP.ret ?_
            refine QThen.rt ?_
            refine QBlock.ret ?_
            refine QThen.rt ?_
            refine QBlock.ret ?_
            refine QThen.rt ?_
            refine QThen.rt ?_
            refine QBlock.ret ?_
            refine QThen.rt ?_
            obtain rfl := (hx12 _ (someE hF).symm)
            have hF := hR15
            have hF := sumR hF
            obtain rfl := someE hF
            exact QRet.sole (v := v63) ⟨rfl, trivial⟩ (hS.get (k := 0) rfl)
          · skip
            refine AWP.skip ?_
            refine QThen.nrm ?_
            refine AWP.seqR rfl ?_
            refine ASL.q (v := (.int .i64 x6_l0)) rfl rfl (Light.quiet (opMove rfl rfl)) ?_
            refine ASL.q (v := (.int .i64 (W (x6_l0 - 1)))) rfl rfl (Light.quiet (opInt rfl rfl rfl rfl)) ?_
            refine ASL.q (v := w9) rfl rfl (Light.quiet (opMove rfl rfl)) ?_
            refine ASL.q (v := (.int .i64 x6_l0)) rfl rfl (Light.quiet (opMove rfl rfl)) ?_
            refine ASL.q (v := (.int .i64 (W (x6_l0 - 1)))) rfl rfl (Light.quiet (opInt rfl rfl rfl rfl)) ?_
            obtain ⟨a69, ha69, hF⟩ := bindE hF
            refine ASL.q (v := (ptrTo w9 ((W (x6_l0 - 1))).toNat 1)) rfl rfl (Light.quiet (kIxOx hS (j := 1) rfl ha69 rfl rfl rfl elemA_32 sizeA_3)) ?_
            refine ASL.q (v := (.int .i64 a69)) rfl rfl (Light.quiet (kLd (f := (AV.int .i64)) hS (j := 1) rfl ha69 rfl aggA_3 rfl (fun _ => rfl))) ?_
            refine ASL.q (v := (.int .i64 (W (((W (x6_l0 - 1))) - a69)))) rfl rfl (Light.quiet (opInt rfl rfl rfl rfl)) ?_
            refine ASL.q (v := (.int .i64 (W (((W (x6_l0 - 1))) - a69)))) rfl rfl (Light.quiet (opAssign rfl rfl)) ?_
            refine ASL.done ?_
            refine AWP.seq ?_
            refine AWP.seqR rfl ?_
            refine ASL.q (v := (.int .i64 (W (((W (x6_l0 - 1))) - a69)))) rfl rfl (Light.quiet (opMove rfl rfl)) ?_
            refine ASL.q (v := (.bool (decide (((W (((W (x6_l0 - 1))) - a69))) < 0)))) rfl rfl (Light.quiet (opInt rfl rfl rfl rfl)) ?_
            obtain ⟨c74, hc74, hF⟩ := bndE hF
            refine ASL.q (v := (.bool c74)) rfl rfl ((Quiet.cast (Light.quiet (opMove rfl rfl)) (congrArg AV.bool hc74.symm))) ?_
            refine ASL.g (v := (.ptr b7 1)) (.bool c74) false rfl (wF _) rfl (fun hG => by have q0 := gN hG; subst q0; exact Light.quiet (opFieldAddr rfl fieldA_59_1 rfl rfl)) ?_
            refine ASL.g (v := (.int .i64 a19.a)) (.bool c74) false rfl (wF _) rfl (fun hG => by have q0 := gN hG; subst q0; exact Light.quiet (kAt hS (j := 0) rfl rfl aggA_3 rfl rfl)) ?_
            refine ASL.g (v := (.int .i64 (W (((W (x6_l0 - 1))) - a69)))) (.bool c74) false rfl (wF _) rfl (fun hG => by have q0 := gN hG; subst q0; exact Light.quiet (opMove rfl rfl)) ?_
            refine ASL.g (v := (.bool (decide (a19.a ≠ ((W (((W (x6_l0 - 1))) - a69))))))) (.bool c74) false rfl (wF _) rfl (fun hG => by have q0 := gN hG; subst q0; exact Light.quiet (opInt rfl rfl rfl rfl)) ?_
            refine ASL.q (v := (.bool (c74 || (decide (a19.a ≠ ((W (((W (x6_l0 - 1))) - a69)))))))) rfl rfl (Light.quiet (opPick (b := c74) rfl rfl (by cases c74 <;> rfl))) ?_
            refine ASL.done ?_
            refine AWP.ifB hF rfl (fun hc31 hF => ?_) (fun hc31 hF => ?_)
            · skip
              refine AWP.seqR rfl ?_
              refine ASL.x rfl rfl (hLit (f := (AV.int .i64)) (zs := []) hS rfl rfl elemA_32 sizeA_3 zeroA_3 rfl rfl rfl rfl (by simp [cells]) (nlt rfl) ?_); rintro v80 G32 hK hS
              refine ASL.q (v := v80) rfl rfl (Light.quiet (opAssign rfl rfl)) ?_
              refine ASL.done ?_
              refine AWP.ret ?_
              refine QThen.rt ?_
              refine QBlock.ret ?_
              refine QThen.rt ?_
              refine QBlock.ret ?_
              refine QThen.rt ?_
              refine QThen.rt ?_
              refine QBlock.ret ?_
              refine QThen.rt ?_
              obtain rfl := (hx12 _ (someE hF).symm)
              have hF := hR15
              have hF := sumR hF
              obtain rfl := someE hF
              exact QRet.sole (v := v80) ⟨rfl, trivial⟩ (hS.get (k := 0) rfl)
            · skip
              refine AWP.skip ?_
              refine QThen.nrm ?_
              refine AWP.lastD [(0, false), (1, false), (2, false), (3, false), (4, false), (5, false), (6, false), (7, false), (8, false), (9, false), (10, false), (11, false)] mixed (by kernel_rfl) rfl ?_
              refine ARL.q0 (v := w9) rfl rfl (Light.quiet (opMove rfl rfl)) ?_
              refine ARL.q0 (v := (.int .i64 x6_l0)) rfl rfl (Light.quiet (opMove rfl rfl)) ?_
              refine ARL.q0 (v := (.int .i64 (W (x6_l0 - 1)))) rfl rfl (Light.quiet (opInt rfl rfl rfl rfl)) ?_
              obtain ⟨a84, ha84, hF⟩ := bindE hF
              refine ARL.q0 (v := (ptrTo w9 ((W (x6_l0 - 1))).toNat 1)) rfl rfl (Light.quiet (kIxOx hS (j := 1) rfl ha84 rfl rfl rfl elemA_32 sizeA_3)) ?_
              refine ARL.q (v := (.int .i64 a84)) rfl rfl (hS.aliveR (k := 1) rfl) (Light.quiet (kLd (f := (AV.int .i64)) hS (j := 1) rfl ha84 rfl aggA_3 rfl (fun _ => rfl))) ?_
              refine ARL.q0 (v := (.int .i64 (W (1 + a84)))) rfl rfl (Light.quiet (opInt rfl rfl rfl rfl)) ?_
              refine ARL.q0 (v := w9) rfl rfl (Light.quiet (opMove rfl rfl)) ?_
              refine ARL.q0 (v := (.int .i64 (W (((W (x6_l0 - 1))) - a69)))) rfl rfl (Light.quiet (opMove rfl rfl)) ?_
              obtain ⟨a89, ha89, hF⟩ := bindE hF
              refine ARL.q0 (v := (ptrTo w9 ((W (((W (x6_l0 - 1))) - a69))).toNat 1)) rfl rfl (Light.quiet (kIxOx hS (j := 1) rfl ha89 rfl rfl rfl elemA_32 sizeA_3)) ?_
              refine ARL.q (v := (.int .i64 a89)) rfl rfl (hS.aliveR (k := 1) rfl) (Light.quiet (kLd (f := (AV.int .i64)) hS (j := 1) rfl ha89 rfl aggA_3 rfl (fun _ => rfl))) ?_
              refine ARL.q0 (v := (.int .i64 (W (((W (1 + a84))) + a89)))) rfl rfl (Light.quiet (opInt rfl rfl rfl rfl)) ?_
              refine ARL.q0 (v := (.int .i64 (W (((W (1 + a84))) + a89)))) rfl rfl (Light.quiet (opAssign rfl rfl)) ?_
              refine ARL.done ?_
              refine QBlock.nrm ?_
              refine QThen.nrm ?_
              refine AWP.lastR rfl ?_
              refine ASL.q (v := w9) rfl rfl (Light.quiet (opMove rfl rfl)) ?_
              refine ASL.q (v := (.int .i64 (W (((W (1 + a84))) + a89)))) rfl rfl (Light.quiet (opMove rfl rfl)) ?_
              refine ASL.q (v := (.list 1 (List.map (AV.int .i64) [(W (((W (1 + a84))) + a89))]))) rfl rfl ((qLit (xs := [(.int .i64 (W (((W (1 + a84))) + a89)))]) rfl elemA_32 sizeA_3 zeroA_3 rfl rfl rfl rfl (by simp [cells]) (nlt rfl))) ?_
              obtain ⟨z95, hz95, hF⟩ := bindE hF
              refine ASL.x rfl rfl (hApp (f := (AV.int .i64)) (ws := [(W (((W (1 + a84))) + a89))]) hS (j := 1) rfl hz95 rfl elemA_32 rfl sizeA_3 bytesA_3 zeroA_3 rfl rfl rfl (fun _ => rfl) ?_); rintro v95 G34 hS
              refine ASL.q (v := v95) rfl rfl (Light.quiet (opAssign rfl rfl)) ?_
              refine ASL.done ?_
              refine QBlock.nrm ?_
              refine QThen.nrm ?_
              refine AWP.lastR rfl ?_
              refine ASL.q (v := (.int .i64 x6_l0)) rfl rfl (Light.quiet (opMove rfl rfl)) ?_
              refine ASL.q (v := (.int .i64 (W (x6_l0 + 1)))) rfl rfl (Light.quiet (opInt rfl rfl rfl rfl)) ?_
              refine ASL.q (v := (.int .i64 (W (x6_l0 + 1)))) rfl rfl (Light.quiet (opAssign rfl rfl)) ?_
              refine ASL.done ?_
              refine QThen.nrm ?_
              exact ⟨(z95, (W (x6_l0 + 1))), v95, (someE hF).symm, ⟨rfl, rfl, rfl, rfl, trivial⟩, (hS.pick [1] rfl rfl)⟩
        · skip
          refine AWP.seqR rfl ?_
          refine ASL.q (v := (.ptr b7 2)) rfl rfl (Light.quiet (opFieldAddr rfl fieldA_59_2 rfl rfl)) ?_
          refine ASL.q (v := (.int .i64 a19.b)) rfl rfl (Light.quiet (kAt hS (j := 0) rfl rfl aggA_3 rfl rfl)) ?_
          refine ASL.q (v := (.bool (decide (a19.b ≠ 0)))) rfl rfl (Light.quiet (opInt rfl rfl rfl rfl)) ?_
          refine ASL.done ?_
          refine AWP.ifP hF rfl (fun hc36 hF => ?_) (fun hc36 hF => ?_)
          · skip
            refine AWP.seqR rfl ?_
            refine ASL.x rfl rfl (hLit (f := (AV.int .i64)) (zs := []) hS rfl rfl elemA_32 sizeA_3 zeroA_3 rfl rfl rfl rfl (by simp [cells]) (nlt rfl) ?_); rintro v28 G37 hK hS
            refine ASL.q (v := v28) rfl rfl (Light.quiet (opAssign rfl rfl)) ?_
            refine ASL.done ?_
            refine AWP.ret ?_
            refine QBlock.ret ?_
            refine QThen.rt ?_
            refine QBlock.ret ?_
            refine QThen.rt ?_
            refine QThen.rt ?_
            refine QBlock.ret ?_
            refine QThen.rt ?_
            obtain rfl := (hx12 _ (someE hF).symm)
            have hF := hR15
            have hF := sumR hF
            obtain rfl := someE hF
            exact QRet.sole (v := v28) ⟨rfl, trivial⟩ (hS.get (k := 0) rfl)
          · skip
            refine AWP.skip ?_
            refine QBlock.nrm ?_
            refine QThen.nrm ?_
            refine AWP.lastR rfl ?_
            refine ASL.q (v := w9) rfl rfl (Light.quiet (opMove rfl rfl)) ?_
            refine ASL.q (v := (.int .i64 1)) rfl rfl (Light.quiet (opMove rfl rfl)) ?_
            refine ASL.q (v := (.list 1 (List.map (AV.int .i64) [1]))) rfl rfl ((qLit (xs := [(.int .i64 1)]) rfl elemA_32 sizeA_3 zeroA_3 rfl rfl rfl rfl (by simp [cells]) (nlt rfl))) ?_
            obtain ⟨z95, hz95, hF⟩ := bindE hF
            refine ASL.x rfl rfl (hApp (f := (AV.int .i64)) (ws := [1]) hS (j := 1) rfl hz95 rfl elemA_32 rfl sizeA_3 bytesA_3 zeroA_3 rfl rfl rfl (fun _ => rfl) ?_); rintro v95 G39 hS
            refine ASL.q (v := v95) rfl rfl (Light.quiet (opAssign rfl rfl)) ?_
            refine ASL.done ?_
            refine QBlock.nrm ?_
            refine QThen.nrm ?_
            refine AWP.lastR rfl ?_
            refine ASL.q (v := (.int .i64 x6_l0)) rfl rfl (Light.quiet (opMove rfl rfl)) ?_
            refine ASL.q (v := (.int .i64 (W (x6_l0 + 1)))) rfl rfl (Light.quiet (opInt rfl rfl rfl rfl)) ?_
            refine ASL.q (v := (.int .i64 (W (x6_l0 + 1)))) rfl rfl (Light.quiet (opAssign rfl rfl)) ?_
            refine ASL.done ?_
            refine QThen.nrm ?_
            exact ⟨(z95, (W (x6_l0 + 1))), v95, (someE hF).symm, ⟨rfl, rfl, rfl, rfl, trivial⟩, (hS.pick [1] rfl rfl)⟩
    · skip
      refine AWP.exit ?_
      refine QThen.ext ?_
      refine QThen.ext ?_
      refine QBlock.hit ?_
      obtain rfl := (hx12 _ (someE hF).symm)
      have hF := hR15
      have hF := sumL hF
      refine QThen.nrm ?_
      exact ⟨y8, w9, ⟨rfl, trivial⟩, (hS.pick [0] rfl rfl), hF⟩

set_option maxRecDepth 10000 in
theorem spec_LtlOk_ok {p0 : (List TNode)} {r : Bool} (hF : spec_LtlOk p0 = some r) : PC Try.prog 43 [(.list 3 (List.map TNode.av p0))] fun v => v = (.bool r) := by
  refine PC.enter Try.func43 rfl Try.ntmps43 (by simp) ?_
  have hS := Sep.void; unfold spec_LtlOk at hF
  refine AWP.seqR rfl ?_
  refine ASL.q (v := (.bool false)) rfl rfl (Light.quiet (opAssign rfl rfl)) ?_
  refine ASL.done ?_
  refine AWP.seq ?_
  refine AWP.seqR rfl ?_
  refine ASL.q (v := (.list 3 (List.map TNode.av p0))) rfl rfl (Light.quiet (opMove rfl rfl)) ?_
  refine ASL.q (v := (.int .i64 (p0.length : Int))) rfl rfl (Light.quiet (opLenMap (f := TNode.av) rfl rfl rfl lenT_24 rfl)) ?_
  refine ASL.q (v := (.bool (spec_l1In ((p0.length : Int)) 1 31))) rfl rfl ((qCall rfl rfl call_86 (spec_l1In_ok ((p0.length : Int)) 1 31) rfl)) ?_
  refine ASL.q (v := (.bool (!(spec_l1In ((p0.length : Int)) 1 31)))) rfl rfl (Light.quiet (opNot rfl rfl)) ?_
  refine ASL.done ?_
  refine AWP.ifB hF rfl (fun hc1 hF => ?_) (fun hc1 hF => ?_)
  · skip
    refine AWP.seqR rfl ?_
    refine ASL.q (v := (.bool false)) rfl rfl (Light.quiet (opAssign rfl rfl)) ?_
    refine ASL.done ?_
    refine AWP.ret ?_
    refine QThen.rt ?_
    obtain rfl := someE hF
    exact QRet.sole (v := (.bool false)) ⟨rfl, trivial⟩ rfl
  · skip
    refine AWP.skip ?_
    refine QThen.nrm ?_
    refine AWP.seqR rfl ?_
    refine ASL.x rfl rfl (hLit (f := (AV.int .i64)) (zs := []) hS rfl rfl elemA_32 sizeA_3 zeroA_3 rfl rfl rfl rfl (by simp [cells]) (nlt rfl) ?_); rintro v11 G2 hK hS
    refine ASL.q (v := v11) rfl rfl (Light.quiet (opAssign rfl rfl)) ?_
    refine ASL.done ?_
    refine AWP.seqM (fun e H => ∃ y4 : (List Int), ∃ w5 : AV, E.Told e [(0, (.list 3 (List.map TNode.av p0))), (3, w5)] ∧ E.Sep H [.row 1 w5 (List.map (AV.int .i64) y4)] ∧ spec_LtlOk.k0 p0 y4 = some r) ?_ ?_
    · rintro e0 G7 ⟨y4, w5, hT, hS, hF⟩; refine AWP.only _ hT ?_; unfold spec_LtlOk.k0 at hF
      refine AWP.seqR rfl ?_
      refine ASL.q (v := (.list 3 (List.map TNode.av p0))) rfl rfl (Light.quiet (opMove rfl rfl)) ?_
      refine ASL.q (v := w5) rfl rfl (Light.quiet (opMove rfl rfl)) ?_
      obtain ⟨a44, ha44, hF⟩ := bindE hF
      refine ASL.q (v := (.list 1 (List.map (AV.int .i64) a44))) rfl rfl ((qCallRL hS rfl rfl call_88 (spec_l2Sizes_ok ha44) ⟨.same _, .row (k := 0) rfl, trivial⟩ (Scal.ints _ _))) ?_
      refine ASL.q (v := (.list 1 (List.map (AV.int .i64) a44))) rfl rfl (Light.quiet (opAssign rfl rfl)) ?_
      refine ASL.done ?_
      refine AWP.seqR rfl ?_
      refine ASL.q (v := (.list 1 (List.map (AV.int .i64) a44))) rfl rfl (Light.quiet (opMove rfl rfl)) ?_
      refine ASL.q (v := (.int .i64 (a44.length : Int))) rfl rfl (Light.quiet (opLenMap (f := (AV.int .i64)) rfl rfl rfl lenT_32 rfl)) ?_
      refine ASL.q (v := (.list 3 (List.map TNode.av p0))) rfl rfl (Light.quiet (opMove rfl rfl)) ?_
      refine ASL.q (v := (.int .i64 (p0.length : Int))) rfl rfl (Light.quiet (opLenMap (f := TNode.av) rfl rfl rfl lenT_24 rfl)) ?_
      refine ASL.q (v := (.bool (decide (((a44.length : Int)) = ((p0.length : Int)))))) rfl rfl (Light.quiet (opInt rfl rfl rfl rfl)) ?_
      obtain ⟨c50, hc50, hF⟩ := bndE hF
      refine ASL.q (v := (.bool c50)) rfl rfl ((Quiet.cast (Light.quiet (opMove rfl rfl)) (congrArg AV.bool hc50.symm))) ?_
      refine ASL.g (v := (.list 1 (List.map (AV.int .i64) a44))) (.bool c50) true rfl (wT _) rfl (fun hG => by have q0 := hG; subst q0; exact Light.quiet (opMove rfl rfl)) ?_
      refine ASL.g (v := (.list 3 (List.map TNode.av p0))) (.bool c50) true rfl (wT _) rfl (fun hG => by have q0 := hG; subst q0; exact Light.quiet (opMove rfl rfl)) ?_
      refine ASL.g (v := (.int .i64 (p0.length : Int))) (.bool c50) true rfl (wT _) rfl (fun hG => by have q0 := hG; subst q0; exact Light.quiet (opLenMap (f := TNode.av) rfl rfl rfl lenT_24 rfl)) ?_
      refine ASL.g (v := (.int .i64 (W (((p0.length : Int)) - 1)))) (.bool c50) true rfl (wT _) rfl (fun hG => by have q0 := hG; subst q0; exact Light.quiet (opInt rfl rfl rfl rfl)) ?_
      obtain ⟨a55, ha55, hF⟩ := bindE hF
      refine ASL.g (v := (.rptr [(.int .i64 a55)])) (.bool c50) true rfl (wT _) rfl (fun hG => by have q0 := hG; subst q0; exact Light.quiet (kIx (f := (AV.int .i64)) (whenE ha55) rfl rfl rfl elemA_32 sizeA_3 rfl)) ?_
      refine ASL.g (v := (.int .i64 a55)) (.bool c50) true rfl (wT _) rfl (fun hG => by have q0 := hG; subst q0; exact Light.quiet (opLoadR rfl aggA_3 rfl rfl)) ?_
      refine ASL.g (v := (.list 3 (List.map TNode.av p0))) (.bool c50) true rfl (wT _) rfl (fun hG => by have q0 := hG; subst q0; exact Light.quiet (opMove rfl rfl)) ?_
      refine ASL.g (v := (.int .i64 (p0.length : Int))) (.bool c50) true rfl (wT _) rfl (fun hG => by have q0 := hG; subst q0; exact Light.quiet (opLenMap (f := TNode.av) rfl rfl rfl lenT_24 rfl)) ?_
      refine ASL.g (v := (.bool (decide (a55 = ((p0.length : Int)))))) (.bool c50) true rfl (wT _) rfl (fun hG => by have q0 := hG; subst q0; exact Light.quiet (opInt rfl rfl rfl rfl)) ?_
      refine ASL.q (v := (.bool (c50 && (decide (a55 = ((p0.length : Int))))))) rfl rfl (Light.quiet (opPick (b := c50) rfl rfl (by cases c50 <;> rfl))) ?_
      refine ASL.q (v := (.bool (c50 && (decide (a55 = ((p0.length : Int))))))) rfl rfl (Light.quiet (opAssign rfl rfl)) ?_
      refine ASL.done ?_
      refine AWP.ret ?_
      obtain rfl := someE hF
      exact QRet.sole (v := (.bool (c50 && (decide (a55 = ((p0.length : Int))))))) ⟨rfl, trivial⟩ rfl
    · skip
      refine AWP.seqR rfl ?_
      refine ASL.q (v := (.int .i64 0)) rfl rfl (Light.quiet (opAssign rfl rfl)) ?_
      refine ASL.done ?_
      refine AWP.block ?_
      obtain ⟨o14, hL13, hR15⟩ := bindE hF
      refine AWP.loopF (ω := AV) hL13 (fun s w => [(0, (.list 3 (List.map TNode.av p0))), (3, w), (4, (.int .i64 s.2))]) (fun s w => [.row 1 w (List.map (AV.int .i64) s.1)]) v11 ⟨rfl, rfl, rfl, trivial⟩ (hS.pick [0] rfl rfl) ?_
      rintro ⟨y8, x4_l0⟩ w9 G16 hS x11 hF hx12
      try dsimp only at hS ⊢
      have hF : spec_LtlOk.b0 p0 y8 x4_l0 = some x11 := hF; unfold spec_LtlOk.b0 at hF
      refine AWP.seq ?_
      refine AWP.seqR rfl ?_
      refine ASL.q (v := (.int .i64 x4_l0)) rfl rfl (Light.quiet (opMove rfl rfl)) ?_
      refine ASL.q (v := (.list 3 (List.map TNode.av p0))) rfl rfl (Light.quiet (opMove rfl rfl)) ?_
      refine ASL.q (v := (.int .i64 (p0.length : Int))) rfl rfl (Light.quiet (opLenMap (f := TNode.av) rfl rfl rfl lenT_24 rfl)) ?_
      refine ASL.q (v := (.bool (decide (x4_l0 < ((p0.length : Int)))))) rfl rfl (Light.quiet (opInt rfl rfl rfl rfl)) ?_
      refine ASL.done ?_
      refine AWP.ifP hF rfl (fun hc17 hF => ?_) (fun hc17 hF => ?_)
      · skip
        refine AWP.skip ?_
        refine QThen.nrm ?_
        refine AWP.seq ?_
        refine AWP.block ?_
        refine AWP.seqR rfl ?_
        refine ASL.q (v := (.list 3 (List.map TNode.av p0))) rfl rfl (Light.quiet (opMove rfl rfl)) ?_
        refine ASL.q (v := (.int .i64 x4_l0)) rfl rfl (Light.quiet (opMove rfl rfl)) ?_
        obtain ⟨a20, ha20, hF⟩ := bindE hF
        refine ASL.q (v := (.rptr [(.int .i64 a20.kind), (.int .i64 a20.a), (.int .i64 a20.b)])) rfl rfl (Light.quiet (kIx (f := TNode.av) ha20 rfl rfl rfl elemA_24 sizeA_59 rfl)) ?_
        refine ASL.q (v := (.rptr [(.int .i64 a20.kind), (.int .i64 a20.a), (.int .i64 a20.b)])) rfl rfl (Light.quiet (opFieldAddrR rfl fieldA_59_0 rfl rfl)) ?_
        refine ASL.q (v := (.int .i64 a20.kind)) rfl rfl (Light.quiet (opLoadR rfl aggA_3 rfl rfl)) ?_
        refine ASL.q (v := (.int .i64 (spec_l8Parts a20.kind))) rfl rfl ((qCall rfl rfl call_56 (spec_l8Parts_ok a20.kind) rfl)) ?_
        refine ASL.q (v := (.int .i64 (spec_l8Parts a20.kind))) rfl rfl (Light.quiet (opAssign rfl rfl)) ?_
        refine ASL.done ?_
        refine AWP.seq ?_
        refine AWP.seqR rfl ?_
        refine ASL.q (v := (.int .i64 (spec_l8Parts a20.kind))) rfl rfl (Light.quiet (opMove rfl rfl)) ?_
        refine ASL.q (v := (.bool (decide (((spec_l8Parts a20.kind)) < 0)))) rfl rfl (Light.quiet (opInt rfl rfl rfl rfl)) ?_
        obtain ⟨c26, hc26, hF⟩ := bndE hF
        refine ASL.q (v := (.bool c26)) rfl rfl ((Quiet.cast (Light.quiet (opMove rfl rfl)) (congrArg AV.bool hc26.symm))) ?_
        refine ASL.g (v := (.int .i64 (spec_l8Parts a20.kind))) (.bool c26) false rfl (wF _) rfl (fun hG => by have q0 := gN hG; subst q0; exact Light.quiet (opMove rfl rfl)) ?_
        refine ASL.g (v := (.bool (decide (((spec_l8Parts a20.kind)) = 0)))) (.bool c26) false rfl (wF _) rfl (fun hG => by have q0 := gN hG; subst q0; exact Light.quiet (opInt rfl rfl rfl rfl)) ?_
        obtain ⟨c29, hc29, hF⟩ := bndE hF
        refine ASL.g (v := (.bool c29)) (.bool c26) false rfl (wF _) rfl (fun hG => by have q0 := gN hG; subst q0; exact (Quiet.cast (Light.quiet (opMove rfl rfl)) (congrArg AV.bool hc29.symm))) ?_
        refine ASL.g (v := (.list 3 (List.map TNode.av p0))) (bif (!c26) then (.bool c29) else .tup []) true rfl (wGT _ _) rfl (fun hG => by have q0 := gN (gA1 hG); have q1 := gA2 hG; subst q0; subst q1; exact Light.quiet (opMove rfl rfl)) ?_
        refine ASL.g (v := (.int .i64 x4_l0)) (bif (!c26) then (.bool c29) else .tup []) true rfl (wGT _ _) rfl (fun hG => by have q0 := gN (gA1 hG); have q1 := gA2 hG; subst q0; subst q1; exact Light.quiet (opMove rfl rfl)) ?_
        obtain ⟨a32, ha32, hF⟩ := bindE hF
        refine ASL.g (v := (.rptr [(.int .i64 a32.kind), (.int .i64 a32.a), (.int .i64 a32.b)])) (bif (!c26) then (.bool c29) else .tup []) true rfl (wGT _ _) rfl (fun hG => by have q0 := gN (gA1 hG); have q1 := gA2 hG; subst q0; subst q1; exact Light.quiet (kIx (f := TNode.av) (whenE ha32) rfl rfl rfl elemA_24 sizeA_59 rfl)) ?_
        refine ASL.g (v := (TNode.av a32)) (bif (!c26) then (.bool c29) else .tup []) true rfl (wGT _ _) rfl (fun hG => by have q0 := gN (gA1 hG); have q1 := gA2 hG; subst q0; subst q1; exact Light.quiet (opLoadRA rfl aggA_59 sizeA_59 rfl (nlt rfl) rfl)) ?_
        refine ASL.g (v := (.bool (spec_l2Leaf a32))) (bif (!c26) then (.bool c29) else .tup []) true rfl (wGT _ _) rfl (fun hG => by have q0 := gN (gA1 hG); have q1 := gA2 hG; subst q0; subst q1; exact (qCall rfl rfl call_87 (spec_l2Leaf_ok a32) rfl)) ?_
        refine ASL.g (v := (.bool (!(spec_l2Leaf a32)))) (bif (!c26) then (.bool c29) else .tup []) true rfl (wGT _ _) rfl (fun hG => by have q0 := gN (gA1 hG); have q1 := gA2 hG; subst q0; subst q1; exact Light.quiet (opNot rfl rfl)) ?_
        refine ASL.g (v := (.bool (c29 && (!(spec_l2Leaf a32))))) (.bool c26) false rfl (wF _) rfl (fun hG => by have q0 := gN hG; subst q0; exact Light.quiet (opPick (b := c29) rfl rfl (by cases c29 <;> rfl))) ?_
        refine ASL.q (v := (.bool (c26 || (c29 && (!(spec_l2Leaf a32)))))) rfl rfl (Light.quiet (opPick (b := c26) rfl rfl (by cases c26 <;> rfl))) ?_
        refine ASL.done ?_
        refine AWP.ifB hF rfl (fun hc18 hF => ?_) (fun hc18 hF => ?_)
        · skip
          refine AWP.seqR rfl ?_
          refine ASL.q (v := (.bool false)) rfl rfl (Light.quiet (opAssign rfl rfl)) ?_
          refine ASL.done ?_
          refine AWP.ret ?_
          refine QThen.rt ?_
          refine QBlock.ret ?_
          refine QThen.rt ?_
          refine QThen.rt ?_
          refine QBlock.ret ?_
          refine QThen.rt ?_
          obtain rfl := (hx12 _ (someE hF).symm)
          have hF := hR15
          have hF := sumR hF
          obtain rfl := someE hF
          exact QRet.sole (v := (.bool false)) ⟨rfl, trivial⟩ rfl
        · skip
          refine AWP.skip ?_
          refine QThen.nrm ?_
          refine AWP.lastR rfl ?_
          refine ASL.q (v := w9) rfl rfl (Light.quiet (opMove rfl rfl)) ?_
          refine ASL.q (v := (.int .i64 (spec_l8Parts a20.kind))) rfl rfl (Light.quiet (opMove rfl rfl)) ?_
          refine ASL.q (v := (.list 1 (List.map (AV.int .i64) [(spec_l8Parts a20.kind)]))) rfl rfl ((qLit (xs := [(.int .i64 (spec_l8Parts a20.kind))]) rfl elemA_32 sizeA_3 zeroA_3 rfl rfl rfl rfl (by simp [cells]) (nlt rfl))) ?_
          obtain ⟨z41, hz41, hF⟩ := bindE hF
          refine ASL.x rfl rfl (hApp (f := (AV.int .i64)) (ws := [(spec_l8Parts a20.kind)]) hS (j := 0) rfl hz41 rfl elemA_32 rfl sizeA_3 bytesA_3 zeroA_3 rfl rfl rfl (fun _ => rfl) ?_); rintro v41 G19 hS
          refine ASL.q (v := v41) rfl rfl (Light.quiet (opAssign rfl rfl)) ?_
          refine ASL.done ?_
          refine QBlock.nrm ?_
          refine QThen.nrm ?_
          refine AWP.lastR rfl ?_
          refine ASL.q (v := (.int .i64 x4_l0)) rfl rfl (Light.quiet (opMove rfl rfl)) ?_
          refine ASL.q (v := (.int .i64 (W (x4_l0 + 1)))) rfl rfl (Light.quiet (opInt rfl rfl rfl rfl)) ?_
          refine ASL.q (v := (.int .i64 (W (x4_l0 + 1)))) rfl rfl (Light.quiet (opAssign rfl rfl)) ?_
          refine ASL.done ?_
          refine QThen.nrm ?_
          exact ⟨(z41, (W (x4_l0 + 1))), v41, (someE hF).symm, ⟨rfl, rfl, rfl, trivial⟩, (hS.pick [0] rfl rfl)⟩
      · skip
        refine AWP.exit ?_
        refine QThen.ext ?_
        refine QThen.ext ?_
        refine QBlock.hit ?_
        obtain rfl := (hx12 _ (someE hF).symm)
        have hF := hR15
        have hF := sumL hF
        refine QThen.nrm ?_
        exact ⟨y8, w9, ⟨rfl, rfl, trivial⟩, (hS.pick [0] rfl rfl), hF⟩

set_option maxRecDepth 10000 in
theorem spec_l8Nnf.body_ok {p0 : (List TNode)} {p1 : Int} {p2 : Bool} {p3 : (List TNode)} {r : (List TNode)} {vp3 : AV} {rec_spec_l8Nnf : (List TNode) → Int → Bool → (List TNode) → Option (List TNode)} (ih_spec_l8Nnf : ∀ {p0 : (List TNode)} {p1 : Int} {p2 : Bool} {p3 : (List TNode)} {r : (List TNode)} {vp3 : AV} , rec_spec_l8Nnf p0 p1 p2 p3 = some r → HS Try.prog 96 [(.list 3 (List.map TNode.av p0)), (.int .i64 p1), (.bool p2), vp3] [.row 3 vp3 (List.map TNode.av p3)] fun v L' => ∃ o0 : AV, v = o0 ∧ L' = [.row 3 o0 (List.map TNode.av r)]) (hF : spec_l8Nnf.body rec_spec_l8Nnf p0 p1 p2 p3 = some r) : HS Try.prog 96 [(.list 3 (List.map TNode.av p0)), (.int .i64 p1), (.bool p2), vp3] [.row 3 vp3 (List.map TNode.av p3)] fun v L' => ∃ o0 : AV, v = o0 ∧ L' = [.row 3 o0 (List.map TNode.av r)] := by
  intro H S hS
  refine HC.enter Try.func96 rfl Try.ntmps96 (by simp) ?_
  simp only [List.cons_append, List.nil_append] at hS
  unfold spec_l8Nnf.body at hF
  refine AWP.seqR rfl ?_
  have hS := hNil (s := 3) (f := TNode.av) hS
  refine ASL.q (v := .nil) rfl rfl (Light.quiet (opAssign rfl rfl)) ?_
  refine ASL.done ?_
  refine AWP.seqR rfl ?_
  refine ASL.q (v := (.list 3 (List.map TNode.av p0))) rfl rfl (Light.quiet (opMove rfl rfl)) ?_
  refine ASL.q (v := (.int .i64 p1)) rfl rfl (Light.quiet (opMove rfl rfl)) ?_
  obtain ⟨a16, ha16, hF⟩ := bindE hF
  refine ASL.q (v := (.rptr [(.int .i64 a16.kind), (.int .i64 a16.a), (.int .i64 a16.b)])) rfl rfl (Light.quiet (kIx (f := TNode.av) ha16 rfl rfl rfl elemA_24 sizeA_59 rfl)) ?_
  refine ASL.q (v := (TNode.av a16)) rfl rfl (Light.quiet (opLoadRA rfl aggA_59 sizeA_59 rfl (nlt rfl) rfl)) ?_
  refine ASL.x rfl rfl (hNewZ hS [(.int .i64 0), (.int .i64 0), (.int .i64 0)] rfl zeroA_59 ⟨.inl rfl, .inl rfl, .inl rfl, trivial⟩ ?_); rintro b9 G3 hK hS
  refine ASL.n rfl rfl (hPutA hS (j := 0) rfl rfl sizeA_59 rfl rfl rfl rfl rfl (nlt rfl) ?_); rintro G5 hS
  refine ASL.done ?_
  refine AWP.seqR rfl ?_
  refine ASL.q (v := (.ptr b9 0)) rfl rfl (Light.quiet (opFieldAddr rfl fieldA_59_0 rfl rfl)) ?_
  refine ASL.q (v := (.int .i64 a16.kind)) rfl rfl (Light.quiet (kAt hS (j := 0) rfl rfl aggA_3 rfl rfl)) ?_
  refine ASL.q (v := (.int .i64 a16.kind)) rfl rfl (Light.quiet (opAssign rfl rfl)) ?_
  refine ASL.done ?_
  refine AWP.seqM (fun e H => ∃ y6 : (List TNode), ∃ x10_1 : Int, ∃ w7 : AV, E.Told e [(0, (.list 3 (List.map TNode.av p0))), (2, (.bool p2)), (3, w7), (9, (.ptr b9 0)), (10, (.int .i64 x10_1))] ∧ E.Sep H [.row 3 w7 (List.map TNode.av y6), .cell b9 [(.int .i64 a16.kind), (.int .i64 a16.a), (.int .i64 a16.b)], .snap S] ∧ spec_l8Nnf.k0 rec_spec_l8Nnf p0 a16 p2 y6 x10_1 = some r) ?_ ?_
  · rintro e0 G18 ⟨y6, x10_1, w7, hT, hS, hF⟩; refine AWP.only _ hT ?_; unfold spec_l8Nnf.k0 at hF
    refine AWP.seqR rfl ?_
    refine ASL.q (v := (.list 3 (List.map TNode.av p0))) rfl rfl (Light.quiet (opMove rfl rfl)) ?_
    refine ASL.q (v := (.ptr b9 1)) rfl rfl (Light.quiet (opFieldAddr rfl fieldA_59_1 rfl rfl)) ?_
    refine ASL.q (v := (.int .i64 a16.a)) rfl rfl (Light.quiet (kAt hS (j := 1) rfl rfl aggA_3 rfl rfl)) ?_
    refine ASL.q (v := (.bool p2)) rfl rfl (Light.quiet (opMove rfl rfl)) ?_
    refine ASL.q (v := w7) rfl rfl (Light.quiet (opMove rfl rfl)) ?_
    obtain ⟨a122, ha122, hF⟩ := bindE hF
    refine ASL.x rfl rfl (hCallS hS [0, 1, 2] (F := [.cell b9 [(.int .i64 a16.kind), (.int .i64 a16.a), (.int .i64 a16.b)], .snap S]) rfl rfl rfl call_96 (ih_spec_l8Nnf ha122) rfl rfl ?_); rintro w9 _ G11 ⟨_, rfl, rfl⟩ hS
    refine ASL.q (v := w9) rfl rfl (Light.quiet (opAssign rfl rfl)) ?_
    refine ASL.done ?_
    refine AWP.seqR rfl ?_
    refine ASL.q (v := w9) rfl rfl (Light.quiet (opMove rfl rfl)) ?_
    refine ASL.q (v := (.int .i64 (a122.length : Int))) rfl rfl (Light.quiet (kLen hS (j := 0) rfl rfl rfl rfl lenT_24 rfl)) ?_
    refine ASL.q (v := (.int .i64 (W (((a122.length : Int)) - 1)))) rfl rfl (Light.quiet (opInt rfl rfl rfl rfl)) ?_
    refine ASL.q (v := (.int .i64 (W (((a122.length : Int)) - 1)))) rfl rfl (Light.quiet (opAssign rfl rfl)) ?_
    refine ASL.done ?_
    refine AWP.seqR rfl ?_
    refine ASL.q (v := (.list 3 (List.map TNode.av p0))) rfl rfl (Light.quiet (opMove rfl rfl)) ?_
    refine ASL.q (v := (.ptr b9 2)) rfl rfl (Light.quiet (opFieldAddr rfl fieldA_59_2 rfl rfl)) ?_
    refine ASL.q (v := (.int .i64 a16.b)) rfl rfl (Light.quiet (kAt hS (j := 1) rfl rfl aggA_3 rfl rfl)) ?_
    refine ASL.q (v := (.bool p2)) rfl rfl (Light.quiet (opMove rfl rfl)) ?_
    refine ASL.q (v := w9) rfl rfl (Light.quiet (opMove rfl rfl)) ?_
    obtain ⟨a131, ha131, hF⟩ := bindE hF
    refine ASL.x rfl rfl (hCallS hS [0, 1, 2] (F := [.cell b9 [(.int .i64 a16.kind), (.int .i64 a16.a), (.int .i64 a16.b)], .snap S]) rfl rfl rfl call_96 (ih_spec_l8Nnf ha131) rfl rfl ?_); rintro w12 _ G14 ⟨_, rfl, rfl⟩ hS
    refine ASL.q (v := w12) rfl rfl (Light.quiet (opAssign rfl rfl)) ?_
    refine ASL.done ?_
    refine AWP.seqR rfl ?_
    refine ASL.q (v := w12) rfl rfl (Light.quiet (opMove rfl rfl)) ?_
    refine ASL.q (v := (.int .i64 x10_1)) rfl rfl (Light.quiet (opMove rfl rfl)) ?_
    refine ASL.q (v := (.int .i64 (W (((a122.length : Int)) - 1)))) rfl rfl (Light.quiet (opMove rfl rfl)) ?_
    obtain ⟨a135, ha135, hF⟩ := bindE hF
    refine ASL.x rfl rfl (hCallS hS [0, 1, 2] (F := [.cell b9 [(.int .i64 a16.kind), (.int .i64 a16.a), (.int .i64 a16.b)], .snap S]) rfl rfl rfl call_58 (spec_l8Two_ok ha135) rfl rfl ?_); rintro w15 _ G17 ⟨_, rfl, rfl⟩ hS
    refine ASL.q (v := w15) rfl rfl (Light.quiet (opAssign rfl rfl)) ?_
    refine ASL.done ?_
    refine AWP.ret ?_
    obtain rfl := someE hF
    exact QRet.sole (v := w15) ⟨rfl, trivial⟩ ⟨_, ⟨w15, rfl, rfl⟩, hS.pick [0, 2] rfl rfl⟩
  · skip
    refine AWP.seqR rfl ?_
    refine ASL.q (v := (.ptr b9 0)) rfl rfl (Light.quiet (opFieldAddr rfl fieldA_59_0 rfl rfl)) ?_
    refine ASL.q (v := (.int .i64 a16.kind)) rfl rfl (Light.quiet (kAt hS (j := 0) rfl rfl aggA_3 rfl rfl)) ?_
    refine ASL.done ?_
    refine AWP.block ?_
    refine AWP.seqM (fun e H => ∃ x22_2 : Bool, E.Told e [(0, (.list 3 (List.map TNode.av p0))), (2, (.bool p2)), (3, vp3), (9, (.ptr b9 0)), (10, (.int .i64 a16.kind)), (21, (.int .i64 a16.kind)), (22, (.bool x22_2))] ∧ E.Sep H [.row 3 vp3 (List.map TNode.av p3), .cell b9 [(.int .i64 a16.kind), (.int .i64 a16.a), (.int .i64 a16.b)], .snap S] ∧ spec_l8Nnf.k1 p2 p3 a16 rec_spec_l8Nnf p0 x22_2 = some r) ?_ ?_
    · rintro e0 G71 ⟨x22_2, hT, hS, hF⟩; refine AWP.only _ hT ?_; unfold spec_l8Nnf.k1 at hF
      refine AWP.ifB hF rfl (fun hc19 hF => ?_) (fun hc19 hF => ?_)
      · skip
        refine AWP.seqM (fun e H => ∃ x10_3 : Int, E.Told e [(3, vp3), (10, (.int .i64 x10_3))] ∧ E.Sep H [.row 3 vp3 (List.map TNode.av p3), .snap S] ∧ spec_l8Nnf.k2 p3 x10_3 = some r) ?_ ?_
        · rintro e0 G22 ⟨x10_3, hT, hS, hF⟩; refine AWP.only _ hT ?_; unfold spec_l8Nnf.k2 at hF
          refine AWP.seqR rfl ?_
          refine ASL.q (v := vp3) rfl rfl (Light.quiet (opMove rfl rfl)) ?_
          refine ASL.q (v := (.int .i64 x10_3)) rfl rfl (Light.quiet (opMove rfl rfl)) ?_
          refine ASL.q (v := (.agg [(.int .i64 x10_3), (.int .i64 0), (.int .i64 0)])) rfl rfl (Light.quiet (opBuildZ (zs := [(.int .i64 0), (.int .i64 0), (.int .i64 0)]) rfl plan_59 zeroA_59 ⟨.inl rfl, .inl rfl, .inl rfl, trivial⟩ rfl)) ?_
          refine ASL.q (v := (.list 3 (List.map TNode.av [(TNode.mk x10_3 0 0)]))) rfl rfl ((qLit (xs := [(.agg [(.int .i64 x10_3), (.int .i64 0), (.int .i64 0)])]) rfl elemA_24 sizeA_59 zeroA_59 rfl rfl rfl rfl (by simp [cells, TNode.av]) (nlt rfl))) ?_
          obtain ⟨z32, hz32, hF⟩ := bindE hF
          refine ASL.x rfl rfl (hApp (f := TNode.av) (ws := [(TNode.mk x10_3 0 0)]) hS (j := 0) rfl hz32 rfl elemA_24 rfl sizeA_59 bytesA_59 zeroA_59 rfl rfl rfl (fun _ => rfl) ?_); rintro v32 G20 hS
          refine ASL.q (v := v32) rfl rfl (Light.quiet (opAssign rfl rfl)) ?_
          refine ASL.done ?_
          refine AWP.ret ?_
          refine QBlock.ret ?_
          refine QThen.rt ?_
          obtain rfl := someE hF
          exact QRet.sole (v := v32) ⟨rfl, trivial⟩ ⟨_, ⟨v32, rfl, rfl⟩, hS.pick [0, 1] rfl rfl⟩
        · skip
          refine AWP.seqR rfl ?_
          refine ASL.q (v := (.bool p2)) rfl rfl (Light.quiet (opMove rfl rfl)) ?_
          refine ASL.done ?_
          refine AWP.ifB hF rfl (fun hc23 hF => ?_) (fun hc23 hF => ?_)
          · skip
            refine AWP.lastR rfl ?_
            refine ASL.q (v := (.int .i64 a16.kind)) rfl rfl (Light.quiet (opMove rfl rfl)) ?_
            refine ASL.q (v := (.int .i64 (W (3 - a16.kind)))) rfl rfl (Light.quiet (opInt rfl rfl rfl rfl)) ?_
            refine ASL.q (v := (.int .i64 (W (3 - a16.kind)))) rfl rfl (Light.quiet (opAssign rfl rfl)) ?_
            refine ASL.done ?_
            refine QThen.nrm ?_
            exact ⟨(W (3 - a16.kind)), ⟨rfl, rfl, trivial⟩, (hS.pick [0, 2] rfl rfl), hF⟩
          · skip
            refine AWP.skip ?_
            refine QThen.nrm ?_
            exact ⟨a16.kind, ⟨rfl, rfl, trivial⟩, (hS.pick [0, 2] rfl rfl), hF⟩
      · skip
        refine AWP.seqR rfl ?_
        refine ASL.q (v := (.bool (decide (a16.kind = 3)))) rfl rfl (Light.quiet (opInt rfl rfl rfl rfl)) ?_
        refine ASL.q (v := (.bool (decide (a16.kind = 3)))) rfl rfl (Light.quiet (opAssign rfl rfl)) ?_
        refine ASL.done ?_
        refine AWP.ifP hF rfl (fun hc24 hF => ?_) (fun hc24 hF => ?_)
        · skip
          refine AWP.seqR rfl ?_
          refine ASL.q (v := vp3) rfl rfl (Light.quiet (opMove rfl rfl)) ?_
          refine ASL.q (v := (TNode.av a16)) rfl rfl (Light.quiet (kAtA hS (j := 1) rfl rfl aggA_59 sizeA_59 rfl (nlt rfl) rfl)) ?_
          refine ASL.q (v := (.list 3 (List.map TNode.av [a16]))) rfl rfl ((qLit (xs := [(TNode.av a16)]) rfl elemA_24 sizeA_59 zeroA_59 rfl rfl rfl rfl (by simp [cells, TNode.av]) (nlt rfl))) ?_
          obtain ⟨z38, hz38, hF⟩ := bindE hF
          refine ASL.x rfl rfl (hApp (f := TNode.av) (ws := [a16]) hS (j := 0) rfl hz38 rfl elemA_24 rfl sizeA_59 bytesA_59 zeroA_59 rfl rfl rfl (fun _ => rfl) ?_); rintro v38 G25 hS
          refine ASL.q (v := v38) rfl rfl (Light.quiet (opAssign rfl rfl)) ?_
          refine ASL.done ?_
          refine AWP.seq ?_
          refine AWP.seqR rfl ?_
          refine ASL.q (v := (.bool p2)) rfl rfl (Light.quiet (opMove rfl rfl)) ?_
          refine ASL.done ?_
          refine AWP.ifB hF rfl (fun hc27 hF => ?_) (fun hc27 hF => ?_)
          · skip
            refine AWP.lastR rfl ?_
            refine ASL.q (v := v38) rfl rfl (Light.quiet (opMove rfl rfl)) ?_
            refine ASL.q (v := v38) rfl rfl (Light.quiet (opMove rfl rfl)) ?_
            refine ASL.q (v := (.int .i64 (z38.length : Int))) rfl rfl (Light.quiet (kLen hS (j := 0) rfl rfl rfl rfl lenT_24 rfl)) ?_
            refine ASL.q (v := (.int .i64 (W (((z38.length : Int)) - 1)))) rfl rfl (Light.quiet (opInt rfl rfl rfl rfl)) ?_
            refine ASL.q (v := (.agg [(.int .i64 4), (.int .i64 (W (((z38.length : Int)) - 1))), (.int .i64 0)])) rfl rfl (Light.quiet (opBuildZ (zs := [(.int .i64 0), (.int .i64 0), (.int .i64 0)]) rfl plan_59 zeroA_59 ⟨.inl rfl, .inl rfl, .inl rfl, trivial⟩ rfl)) ?_
            refine ASL.q (v := (.list 3 (List.map TNode.av [(TNode.mk 4 ((W (((z38.length : Int)) - 1))) 0)]))) rfl rfl ((qLit (xs := [(.agg [(.int .i64 4), (.int .i64 (W (((z38.length : Int)) - 1))), (.int .i64 0)])]) rfl elemA_24 sizeA_59 zeroA_59 rfl rfl rfl rfl (by simp [cells, TNode.av]) (nlt rfl))) ?_
            obtain ⟨z46, hz46, hF⟩ := bindE hF
            refine ASL.x rfl rfl (hApp (f := TNode.av) (ws := [(TNode.mk 4 ((W (((z38.length : Int)) - 1))) 0)]) hS (j := 0) rfl hz46 rfl elemA_24 rfl sizeA_59 bytesA_59 zeroA_59 rfl rfl rfl (fun _ => rfl) ?_); rintro v46 G28 hS
            refine ASL.q (v := v46) rfl rfl (Light.quiet (opAssign rfl rfl)) ?_
            refine ASL.done ?_
            refine QThen.nrm ?_
            refine AWP.seqR rfl ?_
            refine ASL.q (v := v46) rfl rfl (Light.quiet (opMove rfl rfl)) ?_
            refine ASL.q (v := v46) rfl rfl (Light.quiet (opAssign rfl rfl)) ?_
            refine ASL.done ?_
            refine AWP.ret ?_
            refine QBlock.ret ?_
            refine QThen.rt ?_
            obtain rfl := someE hF
            exact QRet.sole (v := v46) ⟨rfl, trivial⟩ ⟨_, ⟨v46, rfl, rfl⟩, hS.pick [0, 2] rfl rfl⟩
          · skip
            refine AWP.skip ?_
            refine QThen.nrm ?_
            refine AWP.seqR rfl ?_
            refine ASL.q (v := v38) rfl rfl (Light.quiet (opMove rfl rfl)) ?_
            refine ASL.q (v := v38) rfl rfl (Light.quiet (opAssign rfl rfl)) ?_
            refine ASL.done ?_
            refine AWP.ret ?_
            refine QBlock.ret ?_
            refine QThen.rt ?_
            obtain rfl := someE hF
            exact QRet.sole (v := v38) ⟨rfl, trivial⟩ ⟨_, ⟨v38, rfl, rfl⟩, hS.pick [0, 2] rfl rfl⟩
        · skip
          refine AWP.seqR rfl ?_
          refine ASL.q (v := (.bool (decide (a16.kind = 4)))) rfl rfl (Light.quiet (opInt rfl rfl rfl rfl)) ?_
          refine ASL.q (v := (.bool (decide (a16.kind = 4)))) rfl rfl (Light.quiet (opAssign rfl rfl)) ?_
          refine ASL.done ?_
          refine AWP.ifP hF rfl (fun hc30 hF => ?_) (fun hc30 hF => ?_)
          · skip
            refine AWP.seqR rfl ?_
            refine ASL.q (v := (.list 3 (List.map TNode.av p0))) rfl rfl (Light.quiet (opMove rfl rfl)) ?_
            refine ASL.q (v := (.ptr b9 1)) rfl rfl (Light.quiet (opFieldAddr rfl fieldA_59_1 rfl rfl)) ?_
            refine ASL.q (v := (.int .i64 a16.a)) rfl rfl (Light.quiet (kAt hS (j := 1) rfl rfl aggA_3 rfl rfl)) ?_
            refine ASL.q (v := (.bool p2)) rfl rfl (Light.quiet (opMove rfl rfl)) ?_
            refine ASL.q (v := (.bool (!p2))) rfl rfl (Light.quiet (opNot rfl rfl)) ?_
            refine ASL.q (v := vp3) rfl rfl (Light.quiet (opMove rfl rfl)) ?_
            obtain ⟨a56, ha56, hF⟩ := bindE hF
            refine ASL.x rfl rfl (hCallS hS [0, 1, 2] (F := [.cell b9 [(.int .i64 a16.kind), (.int .i64 a16.a), (.int .i64 a16.b)], .snap S]) rfl rfl rfl call_96 (ih_spec_l8Nnf ha56) rfl rfl ?_); rintro w31 _ G33 ⟨_, rfl, rfl⟩ hS
            refine ASL.q (v := w31) rfl rfl (Light.quiet (opAssign rfl rfl)) ?_
            refine ASL.done ?_
            refine AWP.ret ?_
            refine QBlock.ret ?_
            refine QThen.rt ?_
            obtain rfl := someE hF
            exact QRet.sole (v := w31) ⟨rfl, trivial⟩ ⟨_, ⟨w31, rfl, rfl⟩, hS.pick [0, 2] rfl rfl⟩
          · skip
            refine AWP.seqR rfl ?_
            refine ASL.q (v := (.bool (decide (a16.kind = 7)))) rfl rfl (Light.quiet (opInt rfl rfl rfl rfl)) ?_
            refine ASL.q (v := (.bool (decide (a16.kind = 7)))) rfl rfl (Light.quiet (opAssign rfl rfl)) ?_
            refine ASL.done ?_
            refine AWP.ifP hF rfl (fun hc34 hF => ?_) (fun hc34 hF => ?_)
            · skip
              refine AWP.seqR rfl ?_
              refine ASL.q (v := (.list 3 (List.map TNode.av p0))) rfl rfl (Light.quiet (opMove rfl rfl)) ?_
              refine ASL.q (v := (.ptr b9 1)) rfl rfl (Light.quiet (opFieldAddr rfl fieldA_59_1 rfl rfl)) ?_
              refine ASL.q (v := (.int .i64 a16.a)) rfl rfl (Light.quiet (kAt hS (j := 1) rfl rfl aggA_3 rfl rfl)) ?_
              refine ASL.q (v := (.bool p2)) rfl rfl (Light.quiet (opMove rfl rfl)) ?_
              refine ASL.q (v := vp3) rfl rfl (Light.quiet (opMove rfl rfl)) ?_
              obtain ⟨a64, ha64, hF⟩ := bindE hF
              refine ASL.x rfl rfl (hCallS hS [0, 1, 2] (F := [.cell b9 [(.int .i64 a16.kind), (.int .i64 a16.a), (.int .i64 a16.b)], .snap S]) rfl rfl rfl call_96 (ih_spec_l8Nnf ha64) rfl rfl ?_); rintro w35 _ G37 ⟨_, rfl, rfl⟩ hS
              refine ASL.q (v := w35) rfl rfl (Light.quiet (opAssign rfl rfl)) ?_
              refine ASL.done ?_
              refine AWP.seqR rfl ?_
              refine ASL.q (v := w35) rfl rfl (Light.quiet (opMove rfl rfl)) ?_
              refine ASL.q (v := w35) rfl rfl (Light.quiet (opMove rfl rfl)) ?_
              refine ASL.q (v := (.int .i64 (a64.length : Int))) rfl rfl (Light.quiet (kLen hS (j := 0) rfl rfl rfl rfl lenT_24 rfl)) ?_
              refine ASL.q (v := (.int .i64 (W (((a64.length : Int)) - 1)))) rfl rfl (Light.quiet (opInt rfl rfl rfl rfl)) ?_
              refine ASL.q (v := (.agg [(.int .i64 7), (.int .i64 (W (((a64.length : Int)) - 1))), (.int .i64 0)])) rfl rfl (Light.quiet (opBuildZ (zs := [(.int .i64 0), (.int .i64 0), (.int .i64 0)]) rfl plan_59 zeroA_59 ⟨.inl rfl, .inl rfl, .inl rfl, trivial⟩ rfl)) ?_
              refine ASL.q (v := (.list 3 (List.map TNode.av [(TNode.mk 7 ((W (((a64.length : Int)) - 1))) 0)]))) rfl rfl ((qLit (xs := [(.agg [(.int .i64 7), (.int .i64 (W (((a64.length : Int)) - 1))), (.int .i64 0)])]) rfl elemA_24 sizeA_59 zeroA_59 rfl rfl rfl rfl (by simp [cells, TNode.av]) (nlt rfl))) ?_
              obtain ⟨z71, hz71, hF⟩ := bindE hF
              refine ASL.x rfl rfl (hApp (f := TNode.av) (ws := [(TNode.mk 7 ((W (((a64.length : Int)) - 1))) 0)]) hS (j := 0) rfl hz71 rfl elemA_24 rfl sizeA_59 bytesA_59 zeroA_59 rfl rfl rfl (fun _ => rfl) ?_); rintro v71 G38 hS
              refine ASL.q (v := v71) rfl rfl (Light.quiet (opAssign rfl rfl)) ?_
              refine ASL.done ?_
              refine AWP.ret ?_
              refine QBlock.ret ?_
              refine QThen.rt ?_
              obtain rfl := someE hF
              exact QRet.sole (v := v71) ⟨rfl, trivial⟩ ⟨_, ⟨v71, rfl, rfl⟩, hS.pick [0, 2] rfl rfl⟩
            · skip
              refine AWP.seqM (fun e H => ∃ x72_4 : Bool, E.Told e [(0, (.list 3 (List.map TNode.av p0))), (2, (.bool p2)), (3, vp3), (9, (.ptr b9 0)), (10, (.int .i64 a16.kind)), (21, (.int .i64 a16.kind)), (72, (.bool x72_4))] ∧ E.Sep H [.row 3 vp3 (List.map TNode.av p3), .cell b9 [(.int .i64 a16.kind), (.int .i64 a16.a), (.int .i64 a16.b)], .snap S] ∧ spec_l8Nnf.k3 a16 p2 p3 rec_spec_l8Nnf p0 x72_4 = some r) ?_ ?_
              · rintro e0 G69 ⟨x72_4, hT, hS, hF⟩; refine AWP.only _ hT ?_; unfold spec_l8Nnf.k3 at hF
                refine AWP.ifB hF rfl (fun hc40 hF => ?_) (fun hc40 hF => ?_)
                · skip
                  refine AWP.seqR rfl ?_
                  refine ASL.q (v := (.ptr b9 0)) rfl rfl (Light.quiet (opFieldAddr rfl fieldA_59_0 rfl rfl)) ?_
                  refine ASL.q (v := (.int .i64 a16.kind)) rfl rfl (Light.quiet (kAt hS (j := 1) rfl rfl aggA_3 rfl rfl)) ?_
                  refine ASL.q (v := (.bool (decide (a16.kind = 10)))) rfl rfl (Light.quiet (opInt rfl rfl rfl rfl)) ?_
                  refine ASL.q (v := (.bool p2)) rfl rfl (Light.quiet (opMove rfl rfl)) ?_
                  refine ASL.q (v := (.bool (!((decide (a16.kind = 10)) == p2)))) rfl rfl (Light.quiet (opBoolEq rfl rfl rfl und_4 rfl)) ?_
                  refine ASL.q (v := (.bool (!((decide (a16.kind = 10)) == p2)))) rfl rfl (Light.quiet (opAssign rfl rfl)) ?_
                  refine ASL.done ?_
                  refine AWP.seqM (fun e H => ∃ y41 : (List TNode), ∃ w42 : AV, E.Told e [(0, (.list 3 (List.map TNode.av p0))), (2, (.bool p2)), (3, w42), (9, (.ptr b9 0)), (11, (.bool (!((decide (a16.kind = 10)) == p2))))] ∧ E.Sep H [.row 3 w42 (List.map TNode.av y41), .cell b9 [(.int .i64 a16.kind), (.int .i64 a16.a), (.int .i64 a16.b)], .snap S] ∧ spec_l8Nnf.k4 rec_spec_l8Nnf p0 a16 p2 y41 = some r) ?_ ?_
                  · rintro e0 G54 ⟨y41, w42, hT, hS, hF⟩; refine AWP.only _ hT ?_; unfold spec_l8Nnf.k4 at hF
                    refine AWP.seqR rfl ?_
                    refine ASL.q (v := w42) rfl rfl (Light.quiet (opMove rfl rfl)) ?_
                    refine ASL.q (v := (.int .i64 (y41.length : Int))) rfl rfl (Light.quiet (kLen hS (j := 0) rfl rfl rfl rfl lenT_24 rfl)) ?_
                    refine ASL.q (v := (.int .i64 (W (((y41.length : Int)) - 1)))) rfl rfl (Light.quiet (opInt rfl rfl rfl rfl)) ?_
                    refine ASL.q (v := (.int .i64 (W (((y41.length : Int)) - 1)))) rfl rfl (Light.quiet (opAssign rfl rfl)) ?_
                    refine ASL.done ?_
                    refine AWP.seqR rfl ?_
                    refine ASL.q (v := (.list 3 (List.map TNode.av p0))) rfl rfl (Light.quiet (opMove rfl rfl)) ?_
                    refine ASL.q (v := (.ptr b9 1)) rfl rfl (Light.quiet (opFieldAddr rfl fieldA_59_1 rfl rfl)) ?_
                    refine ASL.q (v := (.int .i64 a16.a)) rfl rfl (Light.quiet (kAt hS (j := 1) rfl rfl aggA_3 rfl rfl)) ?_
                    refine ASL.q (v := (.bool p2)) rfl rfl (Light.quiet (opMove rfl rfl)) ?_
                    refine ASL.q (v := w42) rfl rfl (Light.quiet (opMove rfl rfl)) ?_
                    obtain ⟨a97, ha97, hF⟩ := bindE hF
                    refine ASL.x rfl rfl (hCallS hS [0, 1, 2] (F := [.cell b9 [(.int .i64 a16.kind), (.int .i64 a16.a), (.int .i64 a16.b)], .snap S]) rfl rfl rfl call_96 (ih_spec_l8Nnf ha97) rfl rfl ?_); rintro w44 _ G46 ⟨_, rfl, rfl⟩ hS
                    refine ASL.q (v := w44) rfl rfl (Light.quiet (opAssign rfl rfl)) ?_
                    refine ASL.done ?_
                    refine AWP.seq ?_
                    refine AWP.seqR rfl ?_
                    refine ASL.q (v := (.bool (!((decide (a16.kind = 10)) == p2)))) rfl rfl (Light.quiet (opMove rfl rfl)) ?_
                    refine ASL.done ?_
                    refine AWP.ifB hF rfl (fun hc47 hF => ?_) (fun hc47 hF => ?_)
                    · skip
                      refine AWP.seqR rfl ?_
                      refine ASL.q (v := w44) rfl rfl (Light.quiet (opMove rfl rfl)) ?_
                      refine ASL.q (v := (.int .i64 (W (((y41.length : Int)) - 1)))) rfl rfl (Light.quiet (opMove rfl rfl)) ?_
                      obtain ⟨a101, ha101, hF⟩ := bindE hF
                      refine ASL.x rfl rfl (hCallS hS [0, 1, 2] (F := [.cell b9 [(.int .i64 a16.kind), (.int .i64 a16.a), (.int .i64 a16.b)], .snap S]) rfl rfl rfl call_58 (spec_l8Two_ok ha101) rfl rfl ?_); rintro w48 _ G50 ⟨_, rfl, rfl⟩ hS
                      refine ASL.q (v := w48) rfl rfl (Light.quiet (opAssign rfl rfl)) ?_
                      refine ASL.done ?_
                      refine AWP.ret ?_
                      refine QThen.rt ?_
                      refine QBlock.ret ?_
                      refine QThen.rt ?_
                      obtain rfl := someE hF
                      exact QRet.sole (v := w48) ⟨rfl, trivial⟩ ⟨_, ⟨w48, rfl, rfl⟩, hS.pick [0, 2] rfl rfl⟩
                    · skip
                      refine AWP.skip ?_
                      refine QThen.nrm ?_
                      refine AWP.seqR rfl ?_
                      refine ASL.q (v := w44) rfl rfl (Light.quiet (opMove rfl rfl)) ?_
                      refine ASL.q (v := (.int .i64 (W (((y41.length : Int)) - 1)))) rfl rfl (Light.quiet (opMove rfl rfl)) ?_
                      obtain ⟨a104, ha104, hF⟩ := bindE hF
                      refine ASL.x rfl rfl (hCallS hS [0, 1, 2] (F := [.cell b9 [(.int .i64 a16.kind), (.int .i64 a16.a), (.int .i64 a16.b)], .snap S]) rfl rfl rfl call_58 (spec_l8Two_ok ha104) rfl rfl ?_); rintro w51 _ G53 ⟨_, rfl, rfl⟩ hS
                      refine ASL.q (v := w51) rfl rfl (Light.quiet (opAssign rfl rfl)) ?_
                      refine ASL.done ?_
                      refine AWP.ret ?_
                      refine QBlock.ret ?_
                      refine QThen.rt ?_
                      obtain rfl := someE hF
                      exact QRet.sole (v := w51) ⟨rfl, trivial⟩ ⟨_, ⟨w51, rfl, rfl⟩, hS.pick [0, 2] rfl rfl⟩
                  · skip
                    refine AWP.seqR rfl ?_
                    refine ASL.q (v := (.bool (!((decide (a16.kind = 10)) == p2)))) rfl rfl (Light.quiet (opMove rfl rfl)) ?_
                    refine ASL.done ?_
                    refine AWP.ifB hF rfl (fun hc55 hF => ?_) (fun hc55 hF => ?_)
                    · skip
                      refine AWP.lastR rfl ?_
                      refine ASL.q (v := vp3) rfl rfl (Light.quiet (opMove rfl rfl)) ?_
                      refine ASL.q (v := (.agg [(.int .i64 1), (.int .i64 0), (.int .i64 0)])) rfl rfl (Light.quiet (opBuildZ (zs := [(.int .i64 0), (.int .i64 0), (.int .i64 0)]) rfl plan_59 zeroA_59 ⟨.inl rfl, .inl rfl, .inl rfl, trivial⟩ rfl)) ?_
                      refine ASL.q (v := (.list 3 (List.map TNode.av [(TNode.mk 1 0 0)]))) rfl rfl ((qLit (xs := [(.agg [(.int .i64 1), (.int .i64 0), (.int .i64 0)])]) rfl elemA_24 sizeA_59 zeroA_59 rfl rfl rfl rfl (by simp [cells, TNode.av]) (nlt rfl))) ?_
                      obtain ⟨z84, hz84, hF⟩ := bindE hF
                      refine ASL.x rfl rfl (hApp (f := TNode.av) (ws := [(TNode.mk 1 0 0)]) hS (j := 0) rfl hz84 rfl elemA_24 rfl sizeA_59 bytesA_59 zeroA_59 rfl rfl rfl (fun _ => rfl) ?_); rintro v84 G56 hS
                      refine ASL.q (v := v84) rfl rfl (Light.quiet (opAssign rfl rfl)) ?_
                      refine ASL.done ?_
                      refine QThen.nrm ?_
                      exact ⟨z84, v84, ⟨rfl, rfl, rfl, rfl, rfl, trivial⟩, (hS.pick [0, 1, 2] rfl rfl), hF⟩
                    · skip
                      refine AWP.lastR rfl ?_
                      refine ASL.q (v := vp3) rfl rfl (Light.quiet (opMove rfl rfl)) ?_
                      refine ASL.q (v := (.agg [(.int .i64 2), (.int .i64 0), (.int .i64 0)])) rfl rfl (Light.quiet (opBuildZ (zs := [(.int .i64 0), (.int .i64 0), (.int .i64 0)]) rfl plan_59 zeroA_59 ⟨.inl rfl, .inl rfl, .inl rfl, trivial⟩ rfl)) ?_
                      refine ASL.q (v := (.list 3 (List.map TNode.av [(TNode.mk 2 0 0)]))) rfl rfl ((qLit (xs := [(.agg [(.int .i64 2), (.int .i64 0), (.int .i64 0)])]) rfl elemA_24 sizeA_59 zeroA_59 rfl rfl rfl rfl (by simp [cells, TNode.av]) (nlt rfl))) ?_
                      obtain ⟨z88, hz88, hF⟩ := bindE hF
                      refine ASL.x rfl rfl (hApp (f := TNode.av) (ws := [(TNode.mk 2 0 0)]) hS (j := 0) rfl hz88 rfl elemA_24 rfl sizeA_59 bytesA_59 zeroA_59 rfl rfl rfl (fun _ => rfl) ?_); rintro v88 G58 hS
                      refine ASL.q (v := v88) rfl rfl (Light.quiet (opAssign rfl rfl)) ?_
                      refine ASL.done ?_
                      refine QThen.nrm ?_
                      exact ⟨z88, v88, ⟨rfl, rfl, rfl, rfl, rfl, trivial⟩, (hS.pick [0, 1, 2] rfl rfl), hF⟩
                · skip
                  refine AWP.seqM (fun e H => ∃ x105_6 : Bool, E.Told e [(0, (.list 3 (List.map TNode.av p0))), (2, (.bool p2)), (3, vp3), (9, (.ptr b9 0)), (10, (.int .i64 a16.kind)), (21, (.int .i64 a16.kind)), (105, (.bool x105_6))] ∧ E.Sep H [.row 3 vp3 (List.map TNode.av p3), .cell b9 [(.int .i64 a16.kind), (.int .i64 a16.a), (.int .i64 a16.b)], .snap S] ∧ spec_l8Nnf.k5 p2 rec_spec_l8Nnf p0 a16 p3 x105_6 = some r) ?_ ?_
                  · rintro e0 G67 ⟨x105_6, hT, hS, hF⟩; refine AWP.only _ hT ?_; unfold spec_l8Nnf.k5 at hF
                    refine AWP.ifB hF rfl (fun hc60 hF => ?_) (fun hc60 hF => ?_)
                    · skip
                      refine AWP.seqR rfl ?_
                      refine ASL.q (v := (.bool p2)) rfl rfl (Light.quiet (opMove rfl rfl)) ?_
                      refine ASL.done ?_
                      refine AWP.ifB hF rfl (fun hc61 hF => ?_) (fun hc61 hF => ?_)
                      · skip
                        refine AWP.lastR rfl ?_
                        refine ASL.q (v := (.int .i64 a16.kind)) rfl rfl (Light.quiet (opMove rfl rfl)) ?_
                        refine ASL.q (v := (.int .i64 (W (11 - a16.kind)))) rfl rfl (Light.quiet (opInt rfl rfl rfl rfl)) ?_
                        refine ASL.q (v := (.int .i64 (W (11 - a16.kind)))) rfl rfl (Light.quiet (opAssign rfl rfl)) ?_
                        refine ASL.done ?_
                        refine QBlock.nrm ?_
                        refine QThen.nrm ?_
                        exact ⟨p3, (W (11 - a16.kind)), vp3, ⟨rfl, rfl, rfl, rfl, rfl, trivial⟩, (hS.pick [0, 1, 2] rfl rfl), hF⟩
                      · skip
                        refine AWP.skip ?_
                        refine QBlock.nrm ?_
                        refine QThen.nrm ?_
                        exact ⟨p3, a16.kind, vp3, ⟨rfl, rfl, rfl, rfl, rfl, trivial⟩, (hS.pick [0, 1, 2] rfl rfl), hF⟩
                    · skip
                      refine AWP.seq ?_
                      refine AWP.seqR rfl ?_
                      refine ASL.q (v := (.bool (decide (a16.kind = 8)))) rfl rfl (Light.quiet (opInt rfl rfl rfl rfl)) ?_
                      refine ASL.q (v := (.bool (decide (a16.kind = 8)))) rfl rfl (Light.quiet (opAssign rfl rfl)) ?_
                      refine ASL.done ?_
                      refine AWP.ifP hF rfl (fun hc62 hF => ?_) (fun hc62 hF => ?_)
                      · skip
                        refine AWP.skip ?_
                        refine QThen.nrm ?_
                        refine AWP.ifP hF rfl (fun hc63 hF => ?_) (fun hc63 hF => ?_)
                        · skip
                          refine AWP.seqR rfl ?_
                          refine ASL.q (v := (.bool p2)) rfl rfl (Light.quiet (opMove rfl rfl)) ?_
                          refine ASL.done ?_
                          refine AWP.ifB hF rfl (fun hc64 hF => ?_) (fun hc64 hF => ?_)
                          · skip
                            refine AWP.lastR rfl ?_
                            refine ASL.q (v := (.int .i64 a16.kind)) rfl rfl (Light.quiet (opMove rfl rfl)) ?_
                            refine ASL.q (v := (.int .i64 (W (17 - a16.kind)))) rfl rfl (Light.quiet (opInt rfl rfl rfl rfl)) ?_
                            refine ASL.q (v := (.int .i64 (W (17 - a16.kind)))) rfl rfl (Light.quiet (opAssign rfl rfl)) ?_
                            refine ASL.done ?_
                            refine QBlock.nrm ?_
                            refine QThen.nrm ?_
                            exact ⟨p3, (W (17 - a16.kind)), vp3, ⟨rfl, rfl, rfl, rfl, rfl, trivial⟩, (hS.pick [0, 1, 2] rfl rfl), hF⟩
                          · skip
                            refine AWP.skip ?_
                            refine QBlock.nrm ?_
                            refine QThen.nrm ?_
                            exact ⟨p3, a16.kind, vp3, ⟨rfl, rfl, rfl, rfl, rfl, trivial⟩, (hS.pick [0, 1, 2] rfl rfl), hF⟩
                        · skip
                          refine AWP.skip ?_
                          refine QBlock.nrm ?_
                          refine QThen.nrm ?_
                          exact ⟨p3, a16.kind, vp3, ⟨rfl, rfl, rfl, rfl, rfl, trivial⟩, (hS.pick [0, 1, 2] rfl rfl), hF⟩
                      · skip
                        refine AWP.lastR rfl ?_
                        refine ASL.q (v := (.bool (decide (a16.kind = 9)))) rfl rfl (Light.quiet (opInt rfl rfl rfl rfl)) ?_
                        refine ASL.q (v := (.bool (decide (a16.kind = 9)))) rfl rfl (Light.quiet (opAssign rfl rfl)) ?_
                        refine ASL.done ?_
                        refine QThen.nrm ?_
                        refine AWP.ifP hF rfl (fun hc65 hF => ?_) (fun hc65 hF => ?_)
                        · skip
                          refine AWP.seqR rfl ?_
                          refine ASL.q (v := (.bool p2)) rfl rfl (Light.quiet (opMove rfl rfl)) ?_
                          refine ASL.done ?_
                          refine AWP.ifB hF rfl (fun hc66 hF => ?_) (fun hc66 hF => ?_)
                          · skip
                            refine AWP.lastR rfl ?_
                            refine ASL.q (v := (.int .i64 a16.kind)) rfl rfl (Light.quiet (opMove rfl rfl)) ?_
                            refine ASL.q (v := (.int .i64 (W (17 - a16.kind)))) rfl rfl (Light.quiet (opInt rfl rfl rfl rfl)) ?_
                            refine ASL.q (v := (.int .i64 (W (17 - a16.kind)))) rfl rfl (Light.quiet (opAssign rfl rfl)) ?_
                            refine ASL.done ?_
                            refine QBlock.nrm ?_
                            refine QThen.nrm ?_
                            exact ⟨p3, (W (17 - a16.kind)), vp3, ⟨rfl, rfl, rfl, rfl, rfl, trivial⟩, (hS.pick [0, 1, 2] rfl rfl), hF⟩
                          · skip
                            refine AWP.skip ?_
                            refine QBlock.nrm ?_
                            refine QThen.nrm ?_
                            exact ⟨p3, a16.kind, vp3, ⟨rfl, rfl, rfl, rfl, rfl, trivial⟩, (hS.pick [0, 1, 2] rfl rfl), hF⟩
                        · skip
                          refine AWP.skip ?_
                          refine QBlock.nrm ?_
                          refine QThen.nrm ?_
                          exact ⟨p3, a16.kind, vp3, ⟨rfl, rfl, rfl, rfl, rfl, trivial⟩, (hS.pick [0, 1, 2] rfl rfl), hF⟩
                  · skip
                    refine AWP.seqR rfl ?_
                    refine ASL.q (v := (.bool (decide (a16.kind = 5)))) rfl rfl (Light.quiet (opInt rfl rfl rfl rfl)) ?_
                    refine ASL.q (v := (.bool (decide (a16.kind = 5)))) rfl rfl (Light.quiet (opAssign rfl rfl)) ?_
                    refine ASL.done ?_
                    refine AWP.ifP hF rfl (fun hc68 hF => ?_) (fun hc68 hF => ?_)
                    · skip
                      refine AWP.skip ?_
                      refine QThen.nrm ?_
                      exact ⟨(decide (a16.kind = 5)), ⟨rfl, rfl, rfl, rfl, rfl, rfl, rfl, trivial⟩, (hS.pick [0, 1, 2] rfl rfl), hF⟩
                    · skip
                      refine AWP.lastR rfl ?_
                      refine ASL.q (v := (.bool (decide (a16.kind = 6)))) rfl rfl (Light.quiet (opInt rfl rfl rfl rfl)) ?_
                      refine ASL.q (v := (.bool (decide (a16.kind = 6)))) rfl rfl (Light.quiet (opAssign rfl rfl)) ?_
                      refine ASL.done ?_
                      refine QThen.nrm ?_
                      exact ⟨(decide (a16.kind = 6)), ⟨rfl, rfl, rfl, rfl, rfl, rfl, rfl, trivial⟩, (hS.pick [0, 1, 2] rfl rfl), hF⟩
              · skip
                refine AWP.seqR rfl ?_
                refine ASL.q (v := (.bool (decide (a16.kind = 10)))) rfl rfl (Light.quiet (opInt rfl rfl rfl rfl)) ?_
                refine ASL.q (v := (.bool (decide (a16.kind = 10)))) rfl rfl (Light.quiet (opAssign rfl rfl)) ?_
                refine ASL.done ?_
                refine AWP.ifP hF rfl (fun hc70 hF => ?_) (fun hc70 hF => ?_)
                · skip
                  refine AWP.skip ?_
                  refine QThen.nrm ?_
                  exact ⟨(decide (a16.kind = 10)), ⟨rfl, rfl, rfl, rfl, rfl, rfl, rfl, trivial⟩, (hS.pick [0, 1, 2] rfl rfl), hF⟩
                · skip
                  refine AWP.lastR rfl ?_
                  refine ASL.q (v := (.bool (decide (a16.kind = 11)))) rfl rfl (Light.quiet (opInt rfl rfl rfl rfl)) ?_
                  refine ASL.q (v := (.bool (decide (a16.kind = 11)))) rfl rfl (Light.quiet (opAssign rfl rfl)) ?_
                  refine ASL.done ?_
                  refine QThen.nrm ?_
                  exact ⟨(decide (a16.kind = 11)), ⟨rfl, rfl, rfl, rfl, rfl, rfl, rfl, trivial⟩, (hS.pick [0, 1, 2] rfl rfl), hF⟩
    · skip
      refine AWP.seqR rfl ?_
      refine ASL.q (v := (.bool (decide (a16.kind = 1)))) rfl rfl (Light.quiet (opInt rfl rfl rfl rfl)) ?_
      refine ASL.q (v := (.bool (decide (a16.kind = 1)))) rfl rfl (Light.quiet (opAssign rfl rfl)) ?_
      refine ASL.done ?_
      refine AWP.ifP hF rfl (fun hc72 hF => ?_) (fun hc72 hF => ?_)
      · skip
        refine AWP.skip ?_
        refine QThen.nrm ?_
        exact ⟨(decide (a16.kind = 1)), ⟨rfl, rfl, rfl, rfl, rfl, rfl, rfl, trivial⟩, (hS.pick [2, 0, 3] rfl rfl), hF⟩
      · skip
        refine AWP.lastR rfl ?_
        refine ASL.q (v := (.bool (decide (a16.kind = 2)))) rfl rfl (Light.quiet (opInt rfl rfl rfl rfl)) ?_
        refine ASL.q (v := (.bool (decide (a16.kind = 2)))) rfl rfl (Light.quiet (opAssign rfl rfl)) ?_
        refine ASL.done ?_
        refine QThen.nrm ?_
        exact ⟨(decide (a16.kind = 2)), ⟨rfl, rfl, rfl, rfl, rfl, rfl, rfl, trivial⟩, (hS.pick [2, 0, 3] rfl rfl), hF⟩
theorem spec_l8Nnf_ok {K : Nat} : ∀ {p0 : (List TNode)} {p1 : Int} {p2 : Bool} {p3 : (List TNode)} {r : (List TNode)} {vp3 : AV} , spec_l8Nnf K p0 p1 p2 p3 = some r → HS Try.prog 96 [(.list 3 (List.map TNode.av p0)), (.int .i64 p1), (.bool p2), vp3] [.row 3 vp3 (List.map TNode.av p3)] fun v L' => ∃ o0 : AV, v = o0 ∧ L' = [.row 3 o0 (List.map TNode.av r)] := by
  induction K with
  | zero => intros; rename_i h; cases h
  | succ K ih => intros; rename_i h; exact spec_l8Nnf.body_ok ih h

set_option maxRecDepth 10000 in
theorem spec_LtlNnf_ok {K : Nat} {p0 : (List TNode)} {r : ((List TNode) × Bool)} (hF : spec_LtlNnf K p0 = some r) : PC Try.prog 49 [(.list 3 (List.map TNode.av p0))] fun v => v = .tup [(.list 3 (List.map TNode.av r.1)), (.bool r.2)] := by
  refine PC.enter Try.func49 rfl Try.ntmps49 (by simp) ?_
  have hS := Sep.void; unfold spec_LtlNnf at hF
  refine AWP.seqR rfl ?_
  refine ASL.q (v := (.list 3 (List.map TNode.av []))) rfl rfl (Light.quiet (opNilL rfl rfl)) ?_
  refine ASL.q (v := (.bool false)) rfl rfl (Light.quiet (opAssign rfl rfl)) ?_
  refine ASL.done ?_
  refine AWP.seq ?_
  refine AWP.seqR rfl ?_
  refine ASL.q (v := (.list 3 (List.map TNode.av p0))) rfl rfl (Light.quiet (opMove rfl rfl)) ?_
  obtain ⟨a6, ha6, hF⟩ := bindE hF
  refine ASL.q (v := (.bool a6)) rfl rfl ((qCall rfl rfl call_43 (spec_LtlOk_ok ha6) rfl)) ?_
  refine ASL.q (v := (.bool (!a6))) rfl rfl (Light.quiet (opNot rfl rfl)) ?_
  refine ASL.done ?_
  refine AWP.ifB hF rfl (fun hc1 hF => ?_) (fun hc1 hF => ?_)
  · skip
    refine AWP.seqR rfl ?_
    refine ASL.q (v := (.list 3 (List.map TNode.av []))) rfl rfl ((qLit (xs := []) rfl elemA_24 sizeA_59 zeroA_59 rfl rfl rfl rfl (by simp [cells, TNode.av]) (nlt rfl))) ?_
    refine ASL.q (v := (.list 3 (List.map TNode.av []))) rfl rfl (Light.quiet (opAssign rfl rfl)) ?_
    refine ASL.q (v := (.bool false)) rfl rfl (Light.quiet (opAssign rfl rfl)) ?_
    refine ASL.done ?_
    refine AWP.ret ?_
    refine QThen.rt ?_
    obtain rfl := someE hF
    exact QRet.many (vs := [(.list 3 (List.map TNode.av [])), (.bool false)]) ⟨rfl, rfl, trivial⟩ (by simp) rfl
  · skip
    refine AWP.skip ?_
    refine QThen.nrm ?_
    refine AWP.seqR rfl ?_
    refine ASL.q (v := (.list 3 (List.map TNode.av p0))) rfl rfl (Light.quiet (opMove rfl rfl)) ?_
    refine ASL.q (v := (.list 3 (List.map TNode.av p0))) rfl rfl (Light.quiet (opMove rfl rfl)) ?_
    refine ASL.q (v := (.int .i64 (p0.length : Int))) rfl rfl (Light.quiet (opLenMap (f := TNode.av) rfl rfl rfl lenT_24 rfl)) ?_
    refine ASL.q (v := (.int .i64 (W (((p0.length : Int)) - 1)))) rfl rfl (Light.quiet (opInt rfl rfl rfl rfl)) ?_
    refine ASL.x rfl rfl (hLit (f := TNode.av) (zs := []) hS rfl rfl elemA_24 sizeA_59 zeroA_59 rfl rfl rfl rfl (by simp [cells, TNode.av]) (nlt rfl) ?_); rintro v13 G2 hK hS
    obtain ⟨a14, ha14, hF⟩ := bindE hF
    refine ASL.x rfl rfl (hCallS hS [0] (F := []) rfl rfl rfl call_96 (spec_l8Nnf_ok ha14) rfl rfl ?_); rintro w4 _ G6 ⟨_, rfl, rfl⟩ hS
    refine ASL.q (v := w4) rfl rfl (Light.quiet (opAssign rfl rfl)) ?_
    refine ASL.done ?_
    refine AWP.seq ?_
    refine AWP.seqR rfl ?_
    refine ASL.q (v := w4) rfl rfl (Light.quiet (opMove rfl rfl)) ?_
    refine ASL.q (v := (.int .i64 (a14.length : Int))) rfl rfl (Light.quiet (kLen hS (j := 0) rfl rfl rfl rfl lenT_24 rfl)) ?_
    refine ASL.q (v := (.bool (decide (((a14.length : Int)) > 31)))) rfl rfl (Light.quiet (opInt rfl rfl rfl rfl)) ?_
    refine ASL.done ?_
    refine AWP.ifP hF rfl (fun hc7 hF => ?_) (fun hc7 hF => ?_)
    · skip
      refine AWP.seqR rfl ?_
      refine ASL.q (v := (.list 3 (List.map TNode.av []))) rfl rfl ((qLit (xs := []) rfl elemA_24 sizeA_59 zeroA_59 rfl rfl rfl rfl (by simp [cells, TNode.av]) (nlt rfl))) ?_
      refine ASL.q (v := (.list 3 (List.map TNode.av []))) rfl rfl (Light.quiet (opAssign rfl rfl)) ?_
      refine ASL.q (v := (.bool false)) rfl rfl (Light.quiet (opAssign rfl rfl)) ?_
      refine ASL.done ?_
      refine AWP.ret ?_
      refine QThen.rt ?_
      obtain rfl := someE hF
      exact QRet.many (vs := [(.list 3 (List.map TNode.av [])), (.bool false)]) ⟨rfl, rfl, trivial⟩ (by simp) rfl
    · skip
      refine AWP.skip ?_
      refine QThen.nrm ?_
      refine AWP.frz (L' := []) hS (k := 0) rfl [(4, (.list 3 (List.map TNode.av a14)))] ⟨.inr (.inl ⟨rfl, rfl⟩), trivial⟩ trivial (fun G8 hS => ?_)
      refine AWP.seqR rfl ?_
      refine ASL.q (v := (.list 3 (List.map TNode.av a14))) rfl rfl (Light.quiet (opMove rfl rfl)) ?_
      refine ASL.q (v := (.list 3 (List.map TNode.av a14))) rfl rfl (Light.quiet (opAssign rfl rfl)) ?_
      refine ASL.q (v := (.bool true)) rfl rfl (Light.quiet (opAssign rfl rfl)) ?_
      refine ASL.done ?_
      refine AWP.ret ?_
      obtain rfl := someE hF
      exact QRet.many (vs := [(.list 3 (List.map TNode.av a14)), (.bool true)]) ⟨rfl, rfl, trivial⟩ (by simp) rfl

set_option maxRecDepth 10000 in
theorem impl_isLetters_ok (p0 : Int) : PC Try.prog 120 [(.int .i64 p0)] fun v => v = (.bool (impl_isLetters p0)) := by
  generalize hF : impl_isLetters p0 = r
  refine PC.enter Try.func120 rfl Try.ntmps120 (by simp) ?_
  have hS := Sep.void; unfold impl_isLetters at hF
  refine AWP.seqR rfl ?_
  refine ASL.q (v := (.bool false)) rfl rfl (Light.quiet (opAssign rfl rfl)) ?_
  refine ASL.done ?_
  refine AWP.seqR rfl ?_
  refine ASL.q (v := (.int .i64 p0)) rfl rfl (Light.quiet (opMove rfl rfl)) ?_
  refine ASL.q (v := (.bool (impl_inRange p0 1 8))) rfl rfl ((qCall rfl rfl call_90 (impl_inRange_ok p0 1 8) rfl)) ?_
  refine ASL.q (v := (.bool (impl_inRange p0 1 8))) rfl rfl (Light.quiet (opAssign rfl rfl)) ?_
  refine ASL.done ?_
  refine AWP.ret ?_
  obtain rfl := hF
  exact QRet.sole (v := (.bool (impl_inRange p0 1 8))) ⟨rfl, trivial⟩ rfl

set_option maxRecDepth 10000 in
theorem impl_areLetters_ok {p0 : (List Int)} {p1 : Int} {r : Bool} (hF : impl_areLetters p0 p1 = some r) : PC Try.prog 121 [(.list 1 (List.map (AV.int .i64) p0)), (.int .i64 p1)] fun v => v = (.bool r) := by
  refine PC.enter Try.func121 rfl Try.ntmps121 (by simp) ?_
  have hS := Sep.void; unfold impl_areLetters at hF
  refine AWP.seqR rfl ?_
  refine ASL.q (v := (.bool false)) rfl rfl (Light.quiet (opAssign rfl rfl)) ?_
  refine ASL.done ?_
  refine AWP.seqM (fun e H => E.Told e [] ∧ E.Sep H [] ∧ impl_areLetters.k0 = some r) ?_ ?_
  · rintro e0 G1 ⟨hT, hS, hF⟩; refine AWP.only _ hT ?_; unfold impl_areLetters.k0 at hF
    refine AWP.seqR rfl ?_
    refine ASL.q (v := (.bool true)) rfl rfl (Light.quiet (opAssign rfl rfl)) ?_
    refine ASL.done ?_
    refine AWP.ret ?_
    obtain rfl := someE hF
    exact QRet.sole (v := (.bool true)) ⟨rfl, trivial⟩ rfl
  · skip
    refine AWP.seqR rfl ?_
    refine ASL.q (v := (.list 1 (List.map (AV.int .i64) p0))) rfl rfl (Light.quiet (opMove rfl rfl)) ?_
    refine ASL.q (v := (.int .i64 (p0.length : Int))) rfl rfl (Light.quiet (opLenMap (f := (AV.int .i64)) rfl rfl rfl lenT_32 rfl)) ?_
    refine ASL.q (v := (.int .i64 0)) rfl rfl (Light.quiet (opMove rfl rfl)) ?_
    refine ASL.done ?_
    refine AWP.block ?_
    obtain ⟨o5, hL4, hR6⟩ := bindE hF
    refine AWP.loopF (ω := Unit) hL4 (fun s w => [(1, (.int .i64 p1)), (7, (.list 1 (List.map (AV.int .i64) p0))), (8, (.int .i64 (p0.length : Int))), (9, (.int .i64 s))]) (fun s w => []) () ⟨rfl, rfl, rfl, rfl, trivial⟩ (hS.pick [] rfl rfl) ?_
    rintro x9_l0 _ G7 hS x2 hF hx3
    try dsimp only at hS ⊢
    have hF : impl_areLetters.b0 p0 p1 x9_l0 = some x2 := hF; unfold impl_areLetters.b0 at hF
    refine AWP.seqR rfl ?_
    refine ASL.q (v := (.bool (decide (x9_l0 < ((p0.length : Int)))))) rfl rfl (Light.quiet (opInt rfl rfl rfl rfl)) ?_
    refine ASL.done ?_
    refine AWP.seq ?_
    refine AWP.ifP hF rfl (fun hc8 hF => ?_) (fun hc8 hF => ?_)
    · skip
      refine AWP.skip ?_
      refine QThen.nrm ?_
      refine AWP.seq ?_
      refine AWP.block ?_
      refine AWP.seqR rfl ?_
      obtain ⟨a11, ha11, hF⟩ := bindE hF
      refine ASL.q (v := (.rptr [(.int .i64 a11)])) rfl rfl (Light.quiet (kIx (f := (AV.int .i64)) ha11 rfl rfl rfl elemA_32 sizeA_3 rfl)) ?_
      refine ASL.q (v := (.int .i64 a11)) rfl rfl (Light.quiet (opLoadR rfl aggA_3 rfl rfl)) ?_
      refine ASL.q (v := (.int .i64 a11)) rfl rfl (Light.quiet (opAssign rfl rfl)) ?_
      refine ASL.done ?_
      refine AWP.seqR rfl ?_
      refine ASL.q (v := (.int .i64 a11)) rfl rfl (Light.quiet (opMove rfl rfl)) ?_
      refine ASL.q (v := (.int .i64 p1)) rfl rfl (Light.quiet (opMove rfl rfl)) ?_
      refine ASL.q (v := (.int .i64 (W (p1 - 1)))) rfl rfl (Light.quiet (opInt rfl rfl rfl rfl)) ?_
      refine ASL.q (v := (.bool (impl_inRange a11 0 ((W (p1 - 1)))))) rfl rfl ((qCall rfl rfl call_90 (impl_inRange_ok a11 0 ((W (p1 - 1)))) rfl)) ?_
      refine ASL.q (v := (.bool (!(impl_inRange a11 0 ((W (p1 - 1))))))) rfl rfl (Light.quiet (opNot rfl rfl)) ?_
      refine ASL.done ?_
      refine AWP.ifB hF rfl (fun hc9 hF => ?_) (fun hc9 hF => ?_)
      · skip
        refine AWP.seqR rfl ?_
        refine ASL.q (v := (.bool false)) rfl rfl (Light.quiet (opAssign rfl rfl)) ?_
        refine ASL.done ?_
        refine AWP.ret ?_
        refine QBlock.ret ?_
        refine QThen.rt ?_
        refine QThen.rt ?_
        refine QBlock.ret ?_
        refine QThen.rt ?_
        obtain rfl := (hx3 _ (someE hF).symm)
        have hF := hR6
        have hF := sumR hF
        obtain rfl := someE hF
        exact QRet.sole (v := (.bool false)) ⟨rfl, trivial⟩ rfl
      · skip
        refine AWP.skip ?_
        refine QBlock.nrm ?_
        refine QThen.nrm ?_
        refine AWP.lastR rfl ?_
        refine ASL.q (v := (.int .i64 (W (x9_l0 + 1)))) rfl rfl (Light.quiet (opInt rfl rfl rfl rfl)) ?_
        refine ASL.q (v := (.int .i64 (W (x9_l0 + 1)))) rfl rfl (Light.quiet (opMove rfl rfl)) ?_
        refine ASL.done ?_
        refine QThen.nrm ?_
        exact ⟨(W (x9_l0 + 1)), (), (someE hF).symm, ⟨rfl, rfl, rfl, rfl, trivial⟩, (hS.pick [] rfl rfl)⟩
    · skip
      refine AWP.exit ?_
      refine QThen.ext ?_
      refine QThen.ext ?_
      refine QBlock.hit ?_
      obtain rfl := (hx3 _ (someE hF).symm)
      have hF := hR6
      have hF := sumL hF
      refine QThen.nrm ?_
      exact ⟨trivial, (hS.pick [] rfl rfl), hF⟩

set_option maxRecDepth 10000 in
theorem impl_WordOk_ok {p0 : TWord} {p1 : Int} {r : Bool} (hF : impl_WordOk p0 p1 = some r) : PC Try.prog 103 [(TWord.av p0), (.int .i64 p1)] fun v => v = (.bool r) := by
  refine PC.enter Try.func103 rfl Try.ntmps103 (by simp) ?_
  have hS := Sep.void; unfold impl_WordOk at hF
  refine AWP.seqR rfl ?_
  refine ASL.q (v := (.rptr [(.list 1 (List.map (AV.int .i64) p0.stem)), (.list 1 (List.map (AV.int .i64) p0.loop))])) rfl rfl ((qBoxI (v := (TWord.av p0)) rfl rfl rfl rfl)) ?_
  refine ASL.q (v := (.bool false)) rfl rfl (Light.quiet (opAssign rfl rfl)) ?_
  refine ASL.done ?_
  refine AWP.seq ?_
  refine AWP.seqR rfl ?_
  refine ASL.q (v := (.int .i64 p1)) rfl rfl (Light.quiet (opMove rfl rfl)) ?_
  refine ASL.q (v := (.bool (impl_isLetters p1))) rfl rfl ((qCall rfl rfl call_120 (impl_isLetters_ok p1) rfl)) ?_
  refine ASL.q (v := (.bool (!(impl_isLetters p1)))) rfl rfl (Light.quiet (opNot rfl rfl)) ?_
  obtain ⟨c8, hc8, hF⟩ := bndE hF
  refine ASL.q (v := (.bool c8)) rfl rfl ((Quiet.cast (Light.quiet (opMove rfl rfl)) (congrArg AV.bool hc8.symm))) ?_
  refine ASL.g (v := (.rptr [(.list 1 (List.map (AV.int .i64) p0.stem)), (.list 1 (List.map (AV.int .i64) p0.loop))])) (.bool c8) false rfl (wF _) rfl (fun hG => by have q0 := gN hG; subst q0; exact Light.quiet (opFieldAddrR rfl fieldA_41_0 rfl rfl)) ?_
  refine ASL.g (v := (.list 1 (List.map (AV.int .i64) p0.stem))) (.bool c8) false rfl (wF _) rfl (fun hG => by have q0 := gN hG; subst q0; exact Light.quiet (opLoadR rfl aggA_32 rfl rfl)) ?_
  refine ASL.g (v := (.int .i64 (p0.stem.length : Int))) (.bool c8) false rfl (wF _) rfl (fun hG => by have q0 := gN hG; subst q0; exact Light.quiet (opLenMap (f := (AV.int .i64)) rfl rfl rfl lenT_32 rfl)) ?_
  refine ASL.g (v := (.bool (decide (((p0.stem.length : Int)) > 40)))) (.bool c8) false rfl (wF _) rfl (fun hG => by have q0 := gN hG; subst q0; exact Light.quiet (opInt rfl rfl rfl rfl)) ?_
  refine ASL.q (v := (.bool (c8 || (decide (((p0.stem.length : Int)) > 40))))) rfl rfl (Light.quiet (opPick (b := c8) rfl rfl (by cases c8 <;> rfl))) ?_
  obtain ⟨c14, hc14, hF⟩ := bndE hF
  refine ASL.q (v := (.bool c14)) rfl rfl ((Quiet.cast (Light.quiet (opMove rfl rfl)) (congrArg AV.bool hc14.symm))) ?_
  refine ASL.g (v := (.rptr [(.list 1 (List.map (AV.int .i64) p0.loop))])) (.bool c14) false rfl (wF _) rfl (fun hG => by have q0 := gN hG; subst q0; exact Light.quiet (opFieldAddrR rfl fieldA_41_1 rfl rfl)) ?_
  refine ASL.g (v := (.list 1 (List.map (AV.int .i64) p0.loop))) (.bool c14) false rfl (wF _) rfl (fun hG => by have q0 := gN hG; subst q0; exact Light.quiet (opLoadR rfl aggA_32 rfl rfl)) ?_
  refine ASL.g (v := (.int .i64 (p0.loop.length : Int))) (.bool c14) false rfl (wF _) rfl (fun hG => by have q0 := gN hG; subst q0; exact Light.quiet (opLenMap (f := (AV.int .i64)) rfl rfl rfl lenT_32 rfl)) ?_
  refine ASL.g (v := (.bool (impl_inRange ((p0.loop.length : Int)) 1 40))) (.bool c14) false rfl (wF _) rfl (fun hG => by have q0 := gN hG; subst q0; exact (qCall rfl rfl call_90 (impl_inRange_ok ((p0.loop.length : Int)) 1 40) rfl)) ?_
  refine ASL.g (v := (.bool (!(impl_inRange ((p0.loop.length : Int)) 1 40)))) (.bool c14) false rfl (wF _) rfl (fun hG => by have q0 := gN hG; subst q0; exact Light.quiet (opNot rfl rfl)) ?_
  refine ASL.q (v := (.bool (c14 || (!(impl_inRange ((p0.loop.length : Int)) 1 40))))) rfl rfl (Light.quiet (opPick (b := c14) rfl rfl (by cases c14 <;> rfl))) ?_
  refine ASL.done ?_
  refine AWP.ifB hF rfl (fun hc1 hF => ?_) (fun hc1 hF => ?_)
  · skip
    refine AWP.seqR rfl ?_
    refine ASL.q (v := (.bool false)) rfl rfl (Light.quiet (opAssign rfl rfl)) ?_
    refine ASL.done ?_
    refine AWP.ret ?_
    refine QThen.rt ?_
    obtain rfl := someE hF
    exact QRet.sole (v := (.bool false)) ⟨rfl, trivial⟩ rfl
  · skip
    refine AWP.skip ?_
    refine QThen.nrm ?_
    refine AWP.seqR rfl ?_
    refine ASL.q (v := (.rptr [(.list 1 (List.map (AV.int .i64) p0.stem)), (.list 1 (List.map (AV.int .i64) p0.loop))])) rfl rfl (Light.quiet (opFieldAddrR rfl fieldA_41_0 rfl rfl)) ?_
    refine ASL.q (v := (.list 1 (List.map (AV.int .i64) p0.stem))) rfl rfl (Light.quiet (opLoadR rfl aggA_32 rfl rfl)) ?_
    refine ASL.q (v := (.int .i64 p1)) rfl rfl (Light.quiet (opMove rfl rfl)) ?_
    obtain ⟨a24, ha24, hF⟩ := bindE hF
    refine ASL.q (v := (.bool a24)) rfl rfl ((qCall rfl rfl call_121 (impl_areLetters_ok ha24) rfl)) ?_
    refine ASL.q (v := (.bool a24)) rfl rfl (Light.quiet (opMove rfl rfl)) ?_
    refine ASL.g (v := (.rptr [(.list 1 (List.map (AV.int .i64) p0.loop))])) (.bool a24) true rfl (wT _) rfl (fun hG => by have q0 := hG; subst q0; exact Light.quiet (opFieldAddrR rfl fieldA_41_1 rfl rfl)) ?_
    refine ASL.g (v := (.list 1 (List.map (AV.int .i64) p0.loop))) (.bool a24) true rfl (wT _) rfl (fun hG => by have q0 := hG; subst q0; exact Light.quiet (opLoadR rfl aggA_32 rfl rfl)) ?_
    refine ASL.g (v := (.int .i64 p1)) (.bool a24) true rfl (wT _) rfl (fun hG => by have q0 := hG; subst q0; exact Light.quiet (opMove rfl rfl)) ?_
    obtain ⟨a29, ha29, hF⟩ := bindE hF
    refine ASL.g (v := (.bool a29)) (.bool a24) true rfl (wT _) rfl (fun hG => by have q0 := hG; subst q0; exact (qCall rfl rfl call_121 (impl_areLetters_ok (whenE ha29)) rfl)) ?_
    refine ASL.q (v := (.bool (a24 && a29))) rfl rfl (Light.quiet (opPick (b := a24) rfl rfl (by cases a24 <;> rfl))) ?_
    refine ASL.q (v := (.bool (a24 && a29))) rfl rfl (Light.quiet (opAssign rfl rfl)) ?_
    refine ASL.done ?_
    refine AWP.ret ?_
    obtain rfl := someE hF
    exact QRet.sole (v := (.bool (a24 && a29))) ⟨rfl, trivial⟩ rfl

set_option maxRecDepth 10000 in
theorem impl_isRight_ok {p0 : TWord} {r : Bool} (hF : impl_isRight p0 = some r) : PC Try.prog 67 [(TWord.av p0)] fun v => v = (.bool r) := by
  refine PC.enter Try.func67 rfl Try.ntmps67 (by simp) ?_
  have hS := Sep.void; unfold impl_isRight at hF
  refine AWP.seqR rfl ?_
  refine ASL.q (v := (.rptr [(.list 1 (List.map (AV.int .i64) p0.stem)), (.list 1 (List.map (AV.int .i64) p0.loop))])) rfl rfl ((qBoxI (v := (TWord.av p0)) rfl rfl rfl rfl)) ?_
  refine ASL.q (v := (.bool false)) rfl rfl (Light.quiet (opAssign rfl rfl)) ?_
  refine ASL.done ?_
  refine AWP.seqR rfl ?_
  refine ASL.q (v := (TWord.av p0)) rfl rfl (Light.quiet (opLoadRA rfl aggA_41 sizeA_41 rfl (nlt rfl) rfl)) ?_
  obtain ⟨a4, ha4, hF⟩ := bindE hF
  refine ASL.q (v := (.bool a4)) rfl rfl ((qCall rfl rfl call_103 (impl_WordOk_ok ha4) rfl)) ?_
  refine ASL.q (v := (.bool a4)) rfl rfl (Light.quiet (opAssign rfl rfl)) ?_
  refine ASL.done ?_
  refine AWP.ret ?_
  obtain rfl := someE hF
  exact QRet.sole (v := (.bool a4)) ⟨rfl, trivial⟩ rfl

set_option maxRecDepth 10000 in
theorem impl_Word_places_ok (p0 : TWord) : PC Try.prog 122 [(.rptr [(.list 1 (List.map (AV.int .i64) p0.stem)), (.list 1 (List.map (AV.int .i64) p0.loop))])] fun v => v = (.int .i64 (impl_Word_places p0)) := by
  generalize hF : impl_Word_places p0 = r
  refine PC.enter Try.func122 rfl Try.ntmps122 (by simp) ?_
  have hS := Sep.void; unfold impl_Word_places at hF
  refine AWP.seqR rfl ?_
  refine ASL.q (v := (.int .i64 0)) rfl rfl (Light.quiet (opAssign rfl rfl)) ?_
  refine ASL.done ?_
  refine AWP.seqD [(0, false), (1, false), (2, false), (3, false), (4, false), (5, false), (6, false), (7, false), (8, false), (9, false), (10, false), (11, false)] mixed (by kernel_rfl) rfl ?_
  refine ARL.q0 (v := (.rptr [(.list 1 (List.map (AV.int .i64) p0.stem)), (.list 1 (List.map (AV.int .i64) p0.loop))])) rfl rfl (Light.quiet (opMove rfl rfl)) ?_
  refine ARL.q0 (v := (.rptr [(.list 1 (List.map (AV.int .i64) p0.stem)), (.list 1 (List.map (AV.int .i64) p0.loop))])) rfl rfl (Light.quiet (opNil rfl rfl rfl)) ?_
  refine ARL.q0 (v := (.rptr [(.list 1 (List.map (AV.int .i64) p0.stem)), (.list 1 (List.map (AV.int .i64) p0.loop))])) rfl rfl (Light.quiet (opFieldAddrR rfl fieldA_41_0 rfl rfl)) ?_
  refine ARL.q0 (v := (.list 1 (List.map (AV.int .i64) p0.stem))) rfl rfl (Light.quiet (opLoadR rfl aggA_32 rfl rfl)) ?_
  refine ARL.q0 (v := (.int .i64 (p0.stem.length : Int))) rfl rfl (Light.quiet (opLenMap (f := (AV.int .i64)) rfl rfl rfl lenT_32 rfl)) ?_
  refine ARL.q0 (v := (.rptr [(.list 1 (List.map (AV.int .i64) p0.stem)), (.list 1 (List.map (AV.int .i64) p0.loop))])) rfl rfl (Light.quiet (opMove rfl rfl)) ?_
  refine ARL.q0 (v := (.rptr [(.list 1 (List.map (AV.int .i64) p0.stem)), (.list 1 (List.map (AV.int .i64) p0.loop))])) rfl rfl (Light.quiet (opNil rfl rfl rfl)) ?_
  refine ARL.q0 (v := (.rptr [(.list 1 (List.map (AV.int .i64) p0.loop))])) rfl rfl (Light.quiet (opFieldAddrR rfl fieldA_41_1 rfl rfl)) ?_
  refine ARL.q0 (v := (.list 1 (List.map (AV.int .i64) p0.loop))) rfl rfl (Light.quiet (opLoadR rfl aggA_32 rfl rfl)) ?_
  refine ARL.q0 (v := (.int .i64 (p0.loop.length : Int))) rfl rfl (Light.quiet (opLenMap (f := (AV.int .i64)) rfl rfl rfl lenT_32 rfl)) ?_
  refine ARL.q0 (v := (.int .i64 (W (((p0.stem.length : Int)) + ((p0.loop.length : Int)))))) rfl rfl (Light.quiet (opInt rfl rfl rfl rfl)) ?_
  refine ARL.q0 (v := (.int .i64 (W (((p0.stem.length : Int)) + ((p0.loop.length : Int)))))) rfl rfl (Light.quiet (opAssign rfl rfl)) ?_
  refine ARL.done ?_
  refine AWP.ret ?_
  obtain rfl := hF
  exact QRet.sole (v := (.int .i64 (W (((p0.stem.length : Int)) + ((p0.loop.length : Int)))))) ⟨rfl, trivial⟩ rfl

set_option maxRecDepth 10000 in
theorem impl_Word_next_ok (p0 : TWord) (p1 : Int) : PC Try.prog 123 [(.rptr [(.list 1 (List.map (AV.int .i64) p0.stem)), (.list 1 (List.map (AV.int .i64) p0.loop))]), (.int .i64 p1)] fun v => v = (.int .i64 (impl_Word_next p0 p1)) := by
  generalize hF : impl_Word_next p0 p1 = r
  refine PC.enter Try.func123 rfl Try.ntmps123 (by simp) ?_
  have hS := Sep.void; unfold impl_Word_next at hF
  refine AWP.seqR rfl ?_
  refine ASL.q (v := (.int .i64 0)) rfl rfl (Light.quiet (opAssign rfl rfl)) ?_
  refine ASL.done ?_
  refine AWP.seq ?_
  refine AWP.seqR rfl ?_
  refine ASL.q (v := (.int .i64 p1)) rfl rfl (Light.quiet (opMove rfl rfl)) ?_
  refine ASL.q (v := (.int .i64 (W (p1 + 1)))) rfl rfl (Light.quiet (opInt rfl rfl rfl rfl)) ?_
  refine ASL.q (v := (.rptr [(.list 1 (List.map (AV.int .i64) p0.stem)), (.list 1 (List.map (AV.int .i64) p0.loop))])) rfl rfl (Light.quiet (opMove rfl rfl)) ?_
  refine ASL.q (v := (.int .i64 (impl_Word_places p0))) rfl rfl ((qCall rfl rfl call_122 (impl_Word_places_ok p0) rfl)) ?_
  refine ASL.q (v := (.bool (decide (((W (p1 + 1))) = ((impl_Word_places p0)))))) rfl rfl (Light.quiet (opInt rfl rfl rfl rfl)) ?_
  refine ASL.done ?_
  refine AWP.ifP hF rfl (fun hc1 hF => ?_) (fun hc1 hF => ?_)
  · skip
    refine AWP.seqR rfl ?_
    refine ASL.q (v := (.rptr [(.list 1 (List.map (AV.int .i64) p0.stem)), (.list 1 (List.map (AV.int .i64) p0.loop))])) rfl rfl (Light.quiet (opMove rfl rfl)) ?_
    refine ASL.q (v := (.rptr [(.list 1 (List.map (AV.int .i64) p0.stem)), (.list 1 (List.map (AV.int .i64) p0.loop))])) rfl rfl (Light.quiet (opNil rfl rfl rfl)) ?_
    refine ASL.q (v := (.rptr [(.list 1 (List.map (AV.int .i64) p0.stem)), (.list 1 (List.map (AV.int .i64) p0.loop))])) rfl rfl (Light.quiet (opFieldAddrR rfl fieldA_41_0 rfl rfl)) ?_
    refine ASL.q (v := (.list 1 (List.map (AV.int .i64) p0.stem))) rfl rfl (Light.quiet (opLoadR rfl aggA_32 rfl rfl)) ?_
    refine ASL.q (v := (.int .i64 (p0.stem.length : Int))) rfl rfl (Light.quiet (opLenMap (f := (AV.int .i64)) rfl rfl rfl lenT_32 rfl)) ?_
    refine ASL.q (v := (.int .i64 (p0.stem.length : Int))) rfl rfl (Light.quiet (opAssign rfl rfl)) ?_
    refine ASL.done ?_
    refine AWP.ret ?_
    refine QThen.rt ?_
    obtain rfl := hF
    exact QRet.sole (v := (.int .i64 (p0.stem.length : Int))) ⟨rfl, trivial⟩ rfl
  · skip
    refine AWP.skip ?_
    refine QThen.nrm ?_
    refine AWP.seqR rfl ?_
    refine ASL.q (v := (.int .i64 p1)) rfl rfl (Light.quiet (opMove rfl rfl)) ?_
    refine ASL.q (v := (.int .i64 (W (p1 + 1)))) rfl rfl (Light.quiet (opInt rfl rfl rfl rfl)) ?_
    refine ASL.q (v := (.int .i64 (W (p1 + 1)))) rfl rfl (Light.quiet (opAssign rfl rfl)) ?_
    refine ASL.done ?_
    refine AWP.ret ?_
    obtain rfl := hF
    exact QRet.sole (v := (.int .i64 (W (p1 + 1)))) ⟨rfl, trivial⟩ rfl

set_option maxRecDepth 10000 in
theorem impl_columnOf_ok {p0 : TNode} {p1 : (List (List Bool))} {p2 : Int} {r : (List Bool)} (hF : impl_columnOf p0 p1 p2 = some r) : PO Try.prog 124 [(TNode.av p0), (.list 1 (List.map (fun xs : (List Bool) => AV.list 1 (List.map AV.bool xs)) p1)), (.int .i64 p2)] 1 (List.map AV.bool r) := by
  refine HC.enter Try.func124 rfl Try.ntmps124 (by simp) ?_
  have hS := Sep.void; unfold impl_columnOf at hF
  refine AWP.seqR rfl ?_
  refine ASL.q (v := (.rptr [(.int .i64 p0.kind), (.int .i64 p0.a), (.int .i64 p0.b)])) rfl rfl ((qBoxI (v := (TNode.av p0)) rfl rfl rfl rfl)) ?_
  have hS := hNil (s := 1) (f := AV.bool) hS
  refine ASL.q (v := .nil) rfl rfl (Light.quiet (opAssign rfl rfl)) ?_
  refine ASL.done ?_
  refine AWP.seqR rfl ?_
  refine ASL.q (v := (.list 1 (List.map (fun xs : (List Bool) => AV.list 1 (List.map AV.bool xs)) p1))) rfl rfl (Light.quiet (opMove rfl rfl)) ?_
  refine ASL.q (v := (.int .i64 (p1.length : Int))) rfl rfl (Light.quiet (opLenMap (f := (fun xs : (List Bool) => AV.list 1 (List.map AV.bool xs))) rfl rfl rfl lenT_48 rfl)) ?_
  obtain ⟨z12, hz12, hF⟩ := bindE hF
  refine ASL.x rfl rfl (hMk (f := AV.bool) hS hz12 (by decide) rfl elemA_56 sizeA_4 bytesA_4 zeroA_4 rfl rfl (by decide) rfl rfl ?_); rintro v12 G2 hK hS
  refine ASL.q (v := v12) rfl rfl (Light.quiet (opAssign rfl rfl)) ?_
  refine ASL.done ?_
  refine AWP.seqM (fun e H => ∃ y4 : (List Bool), E.Told e [(7, v12)] ∧ E.Sep H [.row 1 v12 (List.map AV.bool y4)] ∧ impl_columnOf.k0 y4 = some r) ?_ ?_
  · rintro e0 G5 ⟨y4, hT, hS, hF⟩; refine AWP.only _ hT ?_; unfold impl_columnOf.k0 at hF
    refine AWP.seqR rfl ?_
    refine ASL.q (v := v12) rfl rfl (Light.quiet (opMove rfl rfl)) ?_
    refine ASL.q (v := v12) rfl rfl (Light.quiet (opAssign rfl rfl)) ?_
    refine ASL.done ?_
    refine AWP.ret ?_
    obtain rfl := someE hF
    exact QRet.sole (v := v12) ⟨rfl, trivial⟩ (hS.get (k := 0) rfl)
  · skip
    refine AWP.seqR rfl ?_
    refine ASL.q (v := (.rptr [(.int .i64 p0.a), (.int .i64 p0.b)])) rfl rfl (Light.quiet (opFieldAddrR rfl fieldA_59_1 rfl rfl)) ?_
    refine ASL.q (v := (.int .i64 p0.a)) rfl rfl (Light.quiet (opLoadR rfl aggA_3 rfl rfl)) ?_
    refine ASL.q (v := (.rptr [(.int .i64 p0.b)])) rfl rfl (Light.quiet (opFieldAddrR rfl fieldA_59_2 rfl rfl)) ?_
    refine ASL.q (v := (.int .i64 p0.b)) rfl rfl (Light.quiet (opLoadR rfl aggA_3 rfl rfl)) ?_
    refine ASL.q (v := (.agg (List.map (AV.int .i64) [p0.a, p0.b]))) rfl rfl (Light.quiet (opBuildArr (pl := [(0, 1), (1, 1)]) (z := (.agg #[(.int .i64 0), (.int .i64 0)])) rfl arrA_130 rfl zeroA_130 rfl rfl)) ?_
    refine ASL.q (v := (.int .i64 0)) rfl rfl (Light.quiet (opMove rfl rfl)) ?_
    refine ASL.done ?_
    refine AWP.block ?_
    obtain ⟨o10, hL9, hR11⟩ := bindE hF
    refine AWP.loopF (ω := Unit) hL9 (fun s w => [(1, (.list 1 (List.map (fun xs : (List Bool) => AV.list 1 (List.map AV.bool xs)) p1))), (2, (.int .i64 p2)), (7, v12), (17, (.agg (List.map (AV.int .i64) [p0.a, p0.b]))), (18, (.int .i64 s.2))]) (fun s w => [.row 1 v12 (List.map AV.bool s.1)]) () ⟨rfl, rfl, rfl, rfl, rfl, trivial⟩ (hS.pick [0] rfl rfl) ?_
    rintro ⟨y6, x18_l0⟩ _ G12 hS x7 hF hx8
    try dsimp only at hS ⊢
    have hF : impl_columnOf.b0 p0 p1 p2 y6 x18_l0 = some x7 := hF; unfold impl_columnOf.b0 at hF
    refine AWP.seqR rfl ?_
    refine ASL.q (v := (.bool (decide (x18_l0 < 2)))) rfl rfl (Light.quiet (opInt rfl rfl rfl rfl)) ?_
    refine ASL.done ?_
    refine AWP.seq ?_
    refine AWP.ifP hF rfl (fun hc13 hF => ?_) (fun hc13 hF => ?_)
    · skip
      refine AWP.skip ?_
      refine QThen.nrm ?_
      refine AWP.seq ?_
      refine AWP.block ?_
      refine AWP.seqR rfl ?_
      obtain ⟨a20, ha20, hF⟩ := bindE hF
      refine ASL.q (v := (.int .i64 a20)) rfl rfl (Light.quiet (kIxA (f := (AV.int .i64)) (xs := [p0.a, p0.b]) ha20 rfl rfl arrA_130 aggA_3 rfl rfl)) ?_
      refine ASL.q (v := (.int .i64 a20)) rfl rfl (Light.quiet (opAssign rfl rfl)) ?_
      refine ASL.done ?_
      refine AWP.seqR rfl ?_
      refine ASL.q (v := (.int .i64 a20)) rfl rfl (Light.quiet (opMove rfl rfl)) ?_
      refine ASL.q (v := (.list 1 (List.map (fun xs : (List Bool) => AV.list 1 (List.map AV.bool xs)) p1))) rfl rfl (Light.quiet (opMove rfl rfl)) ?_
      refine ASL.q (v := (.int .i64 (p1.length : Int))) rfl rfl (Light.quiet (opLenMap (f := (fun xs : (List Bool) => AV.list 1 (List.map AV.bool xs))) rfl rfl rfl lenT_48 rfl)) ?_
      refine ASL.q (v := (.bool (decide (a20 < ((p1.length : Int)))))) rfl rfl (Light.quiet (opInt rfl rfl rfl rfl)) ?_
      refine ASL.done ?_
      refine AWP.ifP hF rfl (fun hc14 hF => ?_) (fun hc14 hF => ?_)
      · skip
        refine AWP.lastR rfl ?_
        refine ASL.q (v := v12) rfl rfl (Light.quiet (opMove rfl rfl)) ?_
        refine ASL.q (v := (.int .i64 a20)) rfl rfl (Light.quiet (opMove rfl rfl)) ?_
        refine ASL.q (v := (.list 1 (List.map (fun xs : (List Bool) => AV.list 1 (List.map AV.bool xs)) p1))) rfl rfl (Light.quiet (opMove rfl rfl)) ?_
        refine ASL.q (v := (.int .i64 a20)) rfl rfl (Light.quiet (opMove rfl rfl)) ?_
        obtain ⟨a29, ha29, hF⟩ := bindE hF
        refine ASL.q (v := (.rptr [(.list 1 (List.map AV.bool a29))])) rfl rfl (Light.quiet (kIx (f := (fun xs : (List Bool) => AV.list 1 (List.map AV.bool xs))) ha29 rfl rfl rfl elemA_48 sizeA_56 rfl)) ?_
        refine ASL.q (v := (.list 1 (List.map AV.bool a29))) rfl rfl (Light.quiet (opLoadR rfl aggA_56 rfl rfl)) ?_
        refine ASL.q (v := (.int .i64 p2)) rfl rfl (Light.quiet (opMove rfl rfl)) ?_
        obtain ⟨a32, ha32, hF⟩ := bindE hF
        refine ASL.q (v := (.rptr [(.bool a32)])) rfl rfl (Light.quiet (kIx (f := AV.bool) ha32 rfl rfl rfl elemA_56 sizeA_4 rfl)) ?_
        refine ASL.q (v := (.bool a32)) rfl rfl (Light.quiet (opLoadR rfl aggA_4 rfl rfl)) ?_
        obtain ⟨m34, hm34, hF⟩ := bindE hF
        refine ASL.q (v := (ptrTo v12 m34 1)) rfl rfl (Light.quiet (kIxO hS (j := 0) rfl hm34 rfl rfl rfl elemA_56 sizeA_4)) ?_
        refine ASL.n rfl rfl (hSt (f := AV.bool) (a := a32) hS (j := 0) rfl hm34 rfl sizeA_4 rfl rfl ⟨rfl, rfl, rfl⟩ ?_); rintro G15 hS
        refine ASL.done ?_
        refine QBlock.nrm ?_
        refine QThen.nrm ?_
        refine AWP.lastR rfl ?_
        refine ASL.q (v := (.int .i64 (W (x18_l0 + 1)))) rfl rfl (Light.quiet (opInt rfl rfl rfl rfl)) ?_
        refine ASL.q (v := (.int .i64 (W (x18_l0 + 1)))) rfl rfl (Light.quiet (opMove rfl rfl)) ?_
        refine ASL.done ?_
        refine QThen.nrm ?_
        exact ⟨((y6.set m34 a32), (W (x18_l0 + 1))), (), (someE hF).symm, ⟨rfl, rfl, rfl, rfl, rfl, trivial⟩, (hS.pick [0] rfl rfl)⟩
      · skip
        refine AWP.skip ?_
        refine QBlock.nrm ?_
        refine QThen.nrm ?_
        refine AWP.lastR rfl ?_
        refine ASL.q (v := (.int .i64 (W (x18_l0 + 1)))) rfl rfl (Light.quiet (opInt rfl rfl rfl rfl)) ?_
        refine ASL.q (v := (.int .i64 (W (x18_l0 + 1)))) rfl rfl (Light.quiet (opMove rfl rfl)) ?_
        refine ASL.done ?_
        refine QThen.nrm ?_
        exact ⟨(y6, (W (x18_l0 + 1))), (), (someE hF).symm, ⟨rfl, rfl, rfl, rfl, rfl, trivial⟩, (hS.pick [0] rfl rfl)⟩
    · skip
      refine AWP.exit ?_
      refine QThen.ext ?_
      refine QThen.ext ?_
      refine QBlock.hit ?_
      obtain rfl := (hx8 _ (someE hF).symm)
      have hF := hR11
      refine QThen.nrm ?_
      exact ⟨y6, ⟨rfl, trivial⟩, (hS.pick [0] rfl rfl), hF⟩

set_option maxRecDepth 10000 in
theorem impl_Word_letter_ok {p0 : TWord} {p1 : Int} {r : Int} (hF : impl_Word_letter p0 p1 = some r) : PC Try.prog 125 [(.rptr [(.list 1 (List.map (AV.int .i64) p0.stem)), (.list 1 (List.map (AV.int .i64) p0.loop))]), (.int .i64 p1)] fun v => v = (.int .i64 r) := by
  refine PC.enter Try.func125 rfl Try.ntmps125 (by simp) ?_
  have hS := Sep.void; unfold impl_Word_letter at hF
  refine AWP.seqR rfl ?_
  refine ASL.q (v := (.int .i64 0)) rfl rfl (Light.quiet (opAssign rfl rfl)) ?_
  refine ASL.done ?_
  refine AWP.seq ?_
  refine AWP.seqR rfl ?_
  refine ASL.q (v := (.int .i64 p1)) rfl rfl (Light.quiet (opMove rfl rfl)) ?_
  refine ASL.q (v := (.rptr [(.list 1 (List.map (AV.int .i64) p0.stem)), (.list 1 (List.map (AV.int .i64) p0.loop))])) rfl rfl (Light.quiet (opMove rfl rfl)) ?_
  refine ASL.q (v := (.rptr [(.list 1 (List.map (AV.int .i64) p0.stem)), (.list 1 (List.map (AV.int .i64) p0.loop))])) rfl rfl (Light.quiet (opNil rfl rfl rfl)) ?_
  refine ASL.q (v := (.rptr [(.list 1 (List.map (AV.int .i64) p0.stem)), (.list 1 (List.map (AV.int .i64) p0.loop))])) rfl rfl (Light.quiet (opFieldAddrR rfl fieldA_41_0 rfl rfl)) ?_
  refine ASL.q (v := (.list 1 (List.map (AV.int .i64) p0.stem))) rfl rfl (Light.quiet (opLoadR rfl aggA_32 rfl rfl)) ?_
  refine ASL.q (v := (.int .i64 (p0.stem.length : Int))) rfl rfl (Light.quiet (opLenMap (f := (AV.int .i64)) rfl rfl rfl lenT_32 rfl)) ?_
  refine ASL.q (v := (.bool (decide (p1 < ((p0.stem.length : Int)))))) rfl rfl (Light.quiet (opInt rfl rfl rfl rfl)) ?_
  refine ASL.done ?_
  refine AWP.ifP hF rfl (fun hc1 hF => ?_) (fun hc1 hF => ?_)
  · skip
    refine AWP.seqR rfl ?_
    refine ASL.q (v := (.rptr [(.list 1 (List.map (AV.int .i64) p0.stem)), (.list 1 (List.map (AV.int .i64) p0.loop))])) rfl rfl (Light.quiet (opMove rfl rfl)) ?_
    refine ASL.q (v := (.rptr [(.list 1 (List.map (AV.int .i64) p0.stem)), (.list 1 (List.map (AV.int .i64) p0.loop))])) rfl rfl (Light.quiet (opNil rfl rfl rfl)) ?_
    refine ASL.q (v := (.rptr [(.list 1 (List.map (AV.int .i64) p0.stem)), (.list 1 (List.map (AV.int .i64) p0.loop))])) rfl rfl (Light.quiet (opFieldAddrR rfl fieldA_41_0 rfl rfl)) ?_
    refine ASL.q (v := (.list 1 (List.map (AV.int .i64) p0.stem))) rfl rfl (Light.quiet (opLoadR rfl aggA_32 rfl rfl)) ?_
    refine ASL.q (v := (.int .i64 p1)) rfl rfl (Light.quiet (opMove rfl rfl)) ?_
    obtain ⟨a17, ha17, hF⟩ := bindE hF
    refine ASL.q (v := (.rptr [(.int .i64 a17)])) rfl rfl (Light.quiet (kIx (f := (AV.int .i64)) ha17 rfl rfl rfl elemA_32 sizeA_3 rfl)) ?_
    refine ASL.q (v := (.int .i64 a17)) rfl rfl (Light.quiet (opLoadR rfl aggA_3 rfl rfl)) ?_
    refine ASL.q (v := (.int .i64 a17)) rfl rfl (Light.quiet (opAssign rfl rfl)) ?_
    refine ASL.done ?_
    refine AWP.ret ?_
    refine QThen.rt ?_
    obtain rfl := someE hF
    exact QRet.sole (v := (.int .i64 a17)) ⟨rfl, trivial⟩ rfl
  · skip
    refine AWP.skip ?_
    refine QThen.nrm ?_
    refine AWP.seqD [(0, false), (1, false), (2, false), (3, false), (4, false), (5, false), (6, false), (7, false), (8, false), (9, false), (10, false), (11, false), (12, false), (13, false)] mixed (by kernel_rfl) rfl ?_
    refine ARL.q0 (v := (.rptr [(.list 1 (List.map (AV.int .i64) p0.stem)), (.list 1 (List.map (AV.int .i64) p0.loop))])) rfl rfl (Light.quiet (opMove rfl rfl)) ?_
    refine ARL.q0 (v := (.rptr [(.list 1 (List.map (AV.int .i64) p0.stem)), (.list 1 (List.map (AV.int .i64) p0.loop))])) rfl rfl (Light.quiet (opNil rfl rfl rfl)) ?_
    refine ARL.q0 (v := (.rptr [(.list 1 (List.map (AV.int .i64) p0.loop))])) rfl rfl (Light.quiet (opFieldAddrR rfl fieldA_41_1 rfl rfl)) ?_
    refine ARL.q0 (v := (.list 1 (List.map (AV.int .i64) p0.loop))) rfl rfl (Light.quiet (opLoadR rfl aggA_32 rfl rfl)) ?_
    refine ARL.q0 (v := (.int .i64 p1)) rfl rfl (Light.quiet (opMove rfl rfl)) ?_
    refine ARL.q0 (v := (.rptr [(.list 1 (List.map (AV.int .i64) p0.stem)), (.list 1 (List.map (AV.int .i64) p0.loop))])) rfl rfl (Light.quiet (opMove rfl rfl)) ?_
    refine ARL.q0 (v := (.rptr [(.list 1 (List.map (AV.int .i64) p0.stem)), (.list 1 (List.map (AV.int .i64) p0.loop))])) rfl rfl (Light.quiet (opNil rfl rfl rfl)) ?_
    refine ARL.q0 (v := (.rptr [(.list 1 (List.map (AV.int .i64) p0.stem)), (.list 1 (List.map (AV.int .i64) p0.loop))])) rfl rfl (Light.quiet (opFieldAddrR rfl fieldA_41_0 rfl rfl)) ?_
    refine ARL.q0 (v := (.list 1 (List.map (AV.int .i64) p0.stem))) rfl rfl (Light.quiet (opLoadR rfl aggA_32 rfl rfl)) ?_
    refine ARL.q0 (v := (.int .i64 (p0.stem.length : Int))) rfl rfl (Light.quiet (opLenMap (f := (AV.int .i64)) rfl rfl rfl lenT_32 rfl)) ?_
    refine ARL.q0 (v := (.int .i64 (W (p1 - ((p0.stem.length : Int)))))) rfl rfl (Light.quiet (opInt rfl rfl rfl rfl)) ?_
    obtain ⟨a30, ha30, hF⟩ := bindE hF
    refine ARL.q0 (v := (.rptr [(.int .i64 a30)])) rfl rfl (Light.quiet (kIx (f := (AV.int .i64)) ha30 rfl rfl rfl elemA_32 sizeA_3 rfl)) ?_
    refine ARL.q0 (v := (.int .i64 a30)) rfl rfl (Light.quiet (opLoadR rfl aggA_3 rfl rfl)) ?_
    refine ARL.q0 (v := (.int .i64 a30)) rfl rfl (Light.quiet (opAssign rfl rfl)) ?_
    refine ARL.done ?_
    refine AWP.ret ?_
    obtain rfl := someE hF
    exact QRet.sole (v := (.int .i64 a30)) ⟨rfl, trivial⟩ rfl

set_option maxRecDepth 10000 in
theorem impl_has_ok (p0 : Int) (p1 : Int) : PC Try.prog 110 [(.int .i64 p0), (.int .i64 p1)] fun v => v = (.bool (impl_has p0 p1)) := by
  generalize hF : impl_has p0 p1 = r
  refine PC.enter Try.func110 rfl Try.ntmps110 (by simp) ?_
  have hS := Sep.void; unfold impl_has at hF
  refine AWP.seqR rfl ?_
  refine ASL.q (v := (.bool false)) rfl rfl (Light.quiet (opAssign rfl rfl)) ?_
  refine ASL.done ?_
  refine AWP.seqR rfl ?_
  refine ASL.q (v := (.int .i64 p0)) rfl rfl (Light.quiet (opMove rfl rfl)) ?_
  refine ASL.q (v := (.int .i64 p1)) rfl rfl (Light.quiet (opMove rfl rfl)) ?_
  refine ASL.q (v := (.int .u64 (IntKind.u64.wrap p1))) rfl rfl (Light.quiet (opConv rfl rfl und_3 und_118 rfl)) ?_
  refine ASL.q (v := (.int .i64 (shr .i64 p0 ((IntKind.u64.wrap p1))))) rfl rfl (Light.quiet (opShr rfl rfl rfl (wrapU_nn rfl _) rfl)) ?_
  refine ASL.q (v := (.int .i64 (bAnd .i64 ((shr .i64 p0 ((IntKind.u64.wrap p1)))) 1))) rfl rfl (Light.quiet (opInt rfl rfl rfl rfl)) ?_
  refine ASL.q (v := (.bool (decide (((bAnd .i64 ((shr .i64 p0 ((IntKind.u64.wrap p1)))) 1)) = 1)))) rfl rfl (Light.quiet (opInt rfl rfl rfl rfl)) ?_
  refine ASL.q (v := (.bool (decide (((bAnd .i64 ((shr .i64 p0 ((IntKind.u64.wrap p1)))) 1)) = 1)))) rfl rfl (Light.quiet (opAssign rfl rfl)) ?_
  refine ASL.done ?_
  refine AWP.ret ?_
  obtain rfl := hF
  exact QRet.sole (v := (.bool (decide (((bAnd .i64 ((shr .i64 p0 ((IntKind.u64.wrap p1)))) 1)) = 1)))) ⟨rfl, trivial⟩ rfl

set_option maxRecDepth 10000 in
theorem impl_plain_ok {p0 : TNode} {p1 : (List Bool)} {p2 : Int} {r : Bool} (hF : impl_plain p0 p1 p2 = some r) : PC Try.prog 128 [(TNode.av p0), (.list 1 (List.map AV.bool p1)), (.int .i64 p2)] fun v => v = (.bool r) := by
  refine PC.enter Try.func128 rfl Try.ntmps128 (by simp) ?_
  have hS := Sep.void; unfold impl_plain at hF
  refine AWP.seqR rfl ?_
  refine ASL.q (v := (.rptr [(.int .i64 p0.kind), (.int .i64 p0.a), (.int .i64 p0.b)])) rfl rfl ((qBoxI (v := (TNode.av p0)) rfl rfl rfl rfl)) ?_
  refine ASL.q (v := (.bool false)) rfl rfl (Light.quiet (opAssign rfl rfl)) ?_
  refine ASL.done ?_
  refine AWP.seq ?_
  refine AWP.seqR rfl ?_
  refine ASL.q (v := (.rptr [(.int .i64 p0.kind), (.int .i64 p0.a), (.int .i64 p0.b)])) rfl rfl (Light.quiet (opFieldAddrR rfl fieldA_59_0 rfl rfl)) ?_
  refine ASL.q (v := (.int .i64 p0.kind)) rfl rfl (Light.quiet (opLoadR rfl aggA_3 rfl rfl)) ?_
  refine ASL.done ?_
  refine AWP.block ?_
  refine AWP.seqR rfl ?_
  refine ASL.q (v := (.bool (decide (p0.kind = 1)))) rfl rfl (Light.quiet (opInt rfl rfl rfl rfl)) ?_
  refine ASL.q (v := (.bool (decide (p0.kind = 1)))) rfl rfl (Light.quiet (opAssign rfl rfl)) ?_
  refine ASL.done ?_
  refine AWP.ifP hF rfl (fun hc1 hF => ?_) (fun hc1 hF => ?_)
  · skip
    refine AWP.seqR rfl ?_
    refine ASL.q (v := (.bool true)) rfl rfl (Light.quiet (opAssign rfl rfl)) ?_
    refine ASL.done ?_
    refine AWP.ret ?_
    refine QBlock.ret ?_
    refine QThen.rt ?_
    obtain rfl := someE hF
    exact QRet.sole (v := (.bool true)) ⟨rfl, trivial⟩ rfl
  · skip
    refine AWP.seqR rfl ?_
    refine ASL.q (v := (.bool (decide (p0.kind = 3)))) rfl rfl (Light.quiet (opInt rfl rfl rfl rfl)) ?_
    refine ASL.q (v := (.bool (decide (p0.kind = 3)))) rfl rfl (Light.quiet (opAssign rfl rfl)) ?_
    refine ASL.done ?_
    refine AWP.ifP hF rfl (fun hc2 hF => ?_) (fun hc2 hF => ?_)
    · skip
      refine AWP.seqR rfl ?_
      refine ASL.q (v := (.int .i64 p2)) rfl rfl (Light.quiet (opMove rfl rfl)) ?_
      refine ASL.q (v := (.rptr [(.int .i64 p0.a), (.int .i64 p0.b)])) rfl rfl (Light.quiet (opFieldAddrR rfl fieldA_59_1 rfl rfl)) ?_
      refine ASL.q (v := (.int .i64 p0.a)) rfl rfl (Light.quiet (opLoadR rfl aggA_3 rfl rfl)) ?_
      refine ASL.q (v := (.bool (impl_has p2 p0.a))) rfl rfl ((qCall rfl rfl call_110 (impl_has_ok p2 p0.a) rfl)) ?_
      refine ASL.q (v := (.bool (impl_has p2 p0.a))) rfl rfl (Light.quiet (opAssign rfl rfl)) ?_
      refine ASL.done ?_
      refine AWP.ret ?_
      refine QBlock.ret ?_
      refine QThen.rt ?_
      obtain rfl := someE hF
      exact QRet.sole (v := (.bool (impl_has p2 p0.a))) ⟨rfl, trivial⟩ rfl
    · skip
      refine AWP.seqR rfl ?_
      refine ASL.q (v := (.bool (decide (p0.kind = 4)))) rfl rfl (Light.quiet (opInt rfl rfl rfl rfl)) ?_
      refine ASL.q (v := (.bool (decide (p0.kind = 4)))) rfl rfl (Light.quiet (opAssign rfl rfl)) ?_
      refine ASL.done ?_
      refine AWP.ifP hF rfl (fun hc3 hF => ?_) (fun hc3 hF => ?_)
      · skip
        refine AWP.seqR rfl ?_
        refine ASL.q (v := (.list 1 (List.map AV.bool p1))) rfl rfl (Light.quiet (opMove rfl rfl)) ?_
        refine ASL.q (v := (.rptr [(.int .i64 p0.a), (.int .i64 p0.b)])) rfl rfl (Light.quiet (opFieldAddrR rfl fieldA_59_1 rfl rfl)) ?_
        refine ASL.q (v := (.int .i64 p0.a)) rfl rfl (Light.quiet (opLoadR rfl aggA_3 rfl rfl)) ?_
        obtain ⟨a22, ha22, hF⟩ := bindE hF
        refine ASL.q (v := (.rptr [(.bool a22)])) rfl rfl (Light.quiet (kIx (f := AV.bool) ha22 rfl rfl rfl elemA_56 sizeA_4 rfl)) ?_
        refine ASL.q (v := (.bool a22)) rfl rfl (Light.quiet (opLoadR rfl aggA_4 rfl rfl)) ?_
        refine ASL.q (v := (.bool (!a22))) rfl rfl (Light.quiet (opNot rfl rfl)) ?_
        refine ASL.q (v := (.bool (!a22))) rfl rfl (Light.quiet (opAssign rfl rfl)) ?_
        refine ASL.done ?_
        refine AWP.ret ?_
        refine QBlock.ret ?_
        refine QThen.rt ?_
        obtain rfl := someE hF
        exact QRet.sole (v := (.bool (!a22))) ⟨rfl, trivial⟩ rfl
      · skip
        refine AWP.seqR rfl ?_
        refine ASL.q (v := (.bool (decide (p0.kind = 5)))) rfl rfl (Light.quiet (opInt rfl rfl rfl rfl)) ?_
        refine ASL.q (v := (.bool (decide (p0.kind = 5)))) rfl rfl (Light.quiet (opAssign rfl rfl)) ?_
        refine ASL.done ?_
        refine AWP.ifP hF rfl (fun hc4 hF => ?_) (fun hc4 hF => ?_)
        · skip
          refine AWP.seqR rfl ?_
          refine ASL.q (v := (.list 1 (List.map AV.bool p1))) rfl rfl (Light.quiet (opMove rfl rfl)) ?_
          refine ASL.q (v := (.rptr [(.int .i64 p0.a), (.int .i64 p0.b)])) rfl rfl (Light.quiet (opFieldAddrR rfl fieldA_59_1 rfl rfl)) ?_
          refine ASL.q (v := (.int .i64 p0.a)) rfl rfl (Light.quiet (opLoadR rfl aggA_3 rfl rfl)) ?_
          obtain ⟨a30, ha30, hF⟩ := bindE hF
          refine ASL.q (v := (.rptr [(.bool a30)])) rfl rfl (Light.quiet (kIx (f := AV.bool) ha30 rfl rfl rfl elemA_56 sizeA_4 rfl)) ?_
          refine ASL.q (v := (.bool a30)) rfl rfl (Light.quiet (opLoadR rfl aggA_4 rfl rfl)) ?_
          refine ASL.q (v := (.bool a30)) rfl rfl (Light.quiet (opMove rfl rfl)) ?_
          refine ASL.g (v := (.list 1 (List.map AV.bool p1))) (.bool a30) true rfl (wT _) rfl (fun hG => by have q0 := hG; subst q0; exact Light.quiet (opMove rfl rfl)) ?_
          refine ASL.g (v := (.rptr [(.int .i64 p0.b)])) (.bool a30) true rfl (wT _) rfl (fun hG => by have q0 := hG; subst q0; exact Light.quiet (opFieldAddrR rfl fieldA_59_2 rfl rfl)) ?_
          refine ASL.g (v := (.int .i64 p0.b)) (.bool a30) true rfl (wT _) rfl (fun hG => by have q0 := hG; subst q0; exact Light.quiet (opLoadR rfl aggA_3 rfl rfl)) ?_
          obtain ⟨a36, ha36, hF⟩ := bindE hF
          refine ASL.g (v := (.rptr [(.bool a36)])) (.bool a30) true rfl (wT _) rfl (fun hG => by have q0 := hG; subst q0; exact Light.quiet (kIx (f := AV.bool) (whenE ha36) rfl rfl rfl elemA_56 sizeA_4 rfl)) ?_
          refine ASL.g (v := (.bool a36)) (.bool a30) true rfl (wT _) rfl (fun hG => by have q0 := hG; subst q0; exact Light.quiet (opLoadR rfl aggA_4 rfl rfl)) ?_
          refine ASL.q (v := (.bool (a30 && a36))) rfl rfl (Light.quiet (opPick (b := a30) rfl rfl (by cases a30 <;> rfl))) ?_
          refine ASL.q (v := (.bool (a30 && a36))) rfl rfl (Light.quiet (opAssign rfl rfl)) ?_
          refine ASL.done ?_
          refine AWP.ret ?_
          refine QBlock.ret ?_
          refine QThen.rt ?_
          obtain rfl := someE hF
          exact QRet.sole (v := (.bool (a30 && a36))) ⟨rfl, trivial⟩ rfl
        · skip
          refine AWP.seqR rfl ?_
          refine ASL.q (v := (.bool (decide (p0.kind = 6)))) rfl rfl (Light.quiet (opInt rfl rfl rfl rfl)) ?_
          refine ASL.q (v := (.bool (decide (p0.kind = 6)))) rfl rfl (Light.quiet (opAssign rfl rfl)) ?_
          refine ASL.done ?_
          refine AWP.ifP hF rfl (fun hc5 hF => ?_) (fun hc5 hF => ?_)
          · skip
            refine AWP.seqR rfl ?_
            refine ASL.q (v := (.list 1 (List.map AV.bool p1))) rfl rfl (Light.quiet (opMove rfl rfl)) ?_
            refine ASL.q (v := (.rptr [(.int .i64 p0.a), (.int .i64 p0.b)])) rfl rfl (Light.quiet (opFieldAddrR rfl fieldA_59_1 rfl rfl)) ?_
            refine ASL.q (v := (.int .i64 p0.a)) rfl rfl (Light.quiet (opLoadR rfl aggA_3 rfl rfl)) ?_
            obtain ⟨a44, ha44, hF⟩ := bindE hF
            refine ASL.q (v := (.rptr [(.bool a44)])) rfl rfl (Light.quiet (kIx (f := AV.bool) ha44 rfl rfl rfl elemA_56 sizeA_4 rfl)) ?_
            refine ASL.q (v := (.bool a44)) rfl rfl (Light.quiet (opLoadR rfl aggA_4 rfl rfl)) ?_
            refine ASL.q (v := (.bool a44)) rfl rfl (Light.quiet (opMove rfl rfl)) ?_
            refine ASL.g (v := (.list 1 (List.map AV.bool p1))) (.bool a44) false rfl (wF _) rfl (fun hG => by have q0 := gN hG; subst q0; exact Light.quiet (opMove rfl rfl)) ?_
            refine ASL.g (v := (.rptr [(.int .i64 p0.b)])) (.bool a44) false rfl (wF _) rfl (fun hG => by have q0 := gN hG; subst q0; exact Light.quiet (opFieldAddrR rfl fieldA_59_2 rfl rfl)) ?_
            refine ASL.g (v := (.int .i64 p0.b)) (.bool a44) false rfl (wF _) rfl (fun hG => by have q0 := gN hG; subst q0; exact Light.quiet (opLoadR rfl aggA_3 rfl rfl)) ?_
            obtain ⟨a50, ha50, hF⟩ := bindE hF
            refine ASL.g (v := (.rptr [(.bool a50)])) (.bool a44) false rfl (wF _) rfl (fun hG => by have q0 := gN hG; subst q0; exact Light.quiet (kIx (f := AV.bool) (whenE ha50) rfl rfl rfl elemA_56 sizeA_4 rfl)) ?_
            refine ASL.g (v := (.bool a50)) (.bool a44) false rfl (wF _) rfl (fun hG => by have q0 := gN hG; subst q0; exact Light.quiet (opLoadR rfl aggA_4 rfl rfl)) ?_
            refine ASL.q (v := (.bool (a44 || a50))) rfl rfl (Light.quiet (opPick (b := a44) rfl rfl (by cases a44 <;> rfl))) ?_
            refine ASL.q (v := (.bool (a44 || a50))) rfl rfl (Light.quiet (opAssign rfl rfl)) ?_
            refine ASL.done ?_
            refine AWP.ret ?_
            refine QBlock.ret ?_
            refine QThen.rt ?_
            obtain rfl := someE hF
            exact QRet.sole (v := (.bool (a44 || a50))) ⟨rfl, trivial⟩ rfl
          · skip
            refine AWP.skip ?_
            refine QBlock.nrm ?_
            refine QThen.nrm ?_
            refine AWP.seqR rfl ?_
            refine ASL.q (v := (.bool false)) rfl rfl (Light.quiet (opAssign rfl rfl)) ?_
            refine ASL.done ?_
            refine AWP.ret ?_
            obtain rfl := someE hF
            exact QRet.sole (v := (.bool false)) ⟨rfl, trivial⟩ rfl

set_option maxRecDepth 10000 in
theorem impl_soBy_ok {p0 : TNode} {p1 : (List Bool)} {p2 : Int} {p3 : Bool} {r : Bool} (hF : impl_soBy p0 p1 p2 p3 = some r) : PC Try.prog 109 [(TNode.av p0), (.list 1 (List.map AV.bool p1)), (.int .i64 p2), (.bool p3)] fun v => v = (.bool r) := by
  refine PC.enter Try.func109 rfl Try.ntmps109 (by simp) ?_
  have hS := Sep.void; unfold impl_soBy at hF
  refine AWP.seqR rfl ?_
  refine ASL.q (v := (.rptr [(.int .i64 p0.kind), (.int .i64 p0.a), (.int .i64 p0.b)])) rfl rfl ((qBoxI (v := (TNode.av p0)) rfl rfl rfl rfl)) ?_
  refine ASL.q (v := (.bool false)) rfl rfl (Light.quiet (opAssign rfl rfl)) ?_
  refine ASL.done ?_
  refine AWP.seq ?_
  refine AWP.seqR rfl ?_
  refine ASL.q (v := (.rptr [(.int .i64 p0.kind), (.int .i64 p0.a), (.int .i64 p0.b)])) rfl rfl (Light.quiet (opFieldAddrR rfl fieldA_59_0 rfl rfl)) ?_
  refine ASL.q (v := (.int .i64 p0.kind)) rfl rfl (Light.quiet (opLoadR rfl aggA_3 rfl rfl)) ?_
  refine ASL.done ?_
  refine AWP.block ?_
  refine AWP.seqR rfl ?_
  refine ASL.q (v := (.bool (decide (p0.kind = 7)))) rfl rfl (Light.quiet (opInt rfl rfl rfl rfl)) ?_
  refine ASL.q (v := (.bool (decide (p0.kind = 7)))) rfl rfl (Light.quiet (opAssign rfl rfl)) ?_
  refine ASL.done ?_
  refine AWP.ifP hF rfl (fun hc1 hF => ?_) (fun hc1 hF => ?_)
  · skip
    refine AWP.seqR rfl ?_
    refine ASL.q (v := (.bool p3)) rfl rfl (Light.quiet (opMove rfl rfl)) ?_
    refine ASL.q (v := (.bool p3)) rfl rfl (Light.quiet (opAssign rfl rfl)) ?_
    refine ASL.done ?_
    refine AWP.ret ?_
    refine QBlock.ret ?_
    refine QThen.rt ?_
    obtain rfl := someE hF
    exact QRet.sole (v := (.bool p3)) ⟨rfl, trivial⟩ rfl
  · skip
    refine AWP.seqR rfl ?_
    refine ASL.q (v := (.bool (decide (p0.kind = 8)))) rfl rfl (Light.quiet (opInt rfl rfl rfl rfl)) ?_
    refine ASL.q (v := (.bool (decide (p0.kind = 8)))) rfl rfl (Light.quiet (opAssign rfl rfl)) ?_
    refine ASL.done ?_
    refine AWP.ifP hF rfl (fun hc2 hF => ?_) (fun hc2 hF => ?_)
    · skip
      refine AWP.seqR rfl ?_
      refine ASL.q (v := (.list 1 (List.map AV.bool p1))) rfl rfl (Light.quiet (opMove rfl rfl)) ?_
      refine ASL.q (v := (.rptr [(.int .i64 p0.b)])) rfl rfl (Light.quiet (opFieldAddrR rfl fieldA_59_2 rfl rfl)) ?_
      refine ASL.q (v := (.int .i64 p0.b)) rfl rfl (Light.quiet (opLoadR rfl aggA_3 rfl rfl)) ?_
      obtain ⟨a19, ha19, hF⟩ := bindE hF
      refine ASL.q (v := (.rptr [(.bool a19)])) rfl rfl (Light.quiet (kIx (f := AV.bool) ha19 rfl rfl rfl elemA_56 sizeA_4 rfl)) ?_
      refine ASL.q (v := (.bool a19)) rfl rfl (Light.quiet (opLoadR rfl aggA_4 rfl rfl)) ?_
      refine ASL.q (v := (.bool a19)) rfl rfl (Light.quiet (opMove rfl rfl)) ?_
      refine ASL.g (v := (.list 1 (List.map AV.bool p1))) (.bool a19) false rfl (wF _) rfl (fun hG => by have q0 := gN hG; subst q0; exact Light.quiet (opMove rfl rfl)) ?_
      refine ASL.g (v := (.rptr [(.int .i64 p0.a), (.int .i64 p0.b)])) (.bool a19) false rfl (wF _) rfl (fun hG => by have q0 := gN hG; subst q0; exact Light.quiet (opFieldAddrR rfl fieldA_59_1 rfl rfl)) ?_
      refine ASL.g (v := (.int .i64 p0.a)) (.bool a19) false rfl (wF _) rfl (fun hG => by have q0 := gN hG; subst q0; exact Light.quiet (opLoadR rfl aggA_3 rfl rfl)) ?_
      obtain ⟨a25, ha25, hF⟩ := bindE hF
      refine ASL.g (v := (.rptr [(.bool a25)])) (.bool a19) false rfl (wF _) rfl (fun hG => by have q0 := gN hG; subst q0; exact Light.quiet (kIx (f := AV.bool) (whenE ha25) rfl rfl rfl elemA_56 sizeA_4 rfl)) ?_
      refine ASL.g (v := (.bool a25)) (.bool a19) false rfl (wF _) rfl (fun hG => by have q0 := gN hG; subst q0; exact Light.quiet (opLoadR rfl aggA_4 rfl rfl)) ?_
      refine ASL.g (v := (.bool a25)) (.bool a19) false rfl (wF _) rfl (fun hG => by have q0 := gN hG; subst q0; exact Light.quiet (opMove rfl rfl)) ?_
      refine ASL.g (v := (.bool p3)) (bif (!a19) then (.bool a25) else .tup []) true rfl (wGT _ _) rfl (fun hG => by have q0 := gN (gA1 hG); have q1 := gA2 hG; subst q0; subst q1; exact Light.quiet (opMove rfl rfl)) ?_
      refine ASL.g (v := (.bool (a25 && p3))) (.bool a19) false rfl (wF _) rfl (fun hG => by have q0 := gN hG; subst q0; exact Light.quiet (opPick (b := a25) rfl rfl (by cases a25 <;> rfl))) ?_
      refine ASL.q (v := (.bool (a19 || (a25 && p3)))) rfl rfl (Light.quiet (opPick (b := a19) rfl rfl (by cases a19 <;> rfl))) ?_
      refine ASL.q (v := (.bool (a19 || (a25 && p3)))) rfl rfl (Light.quiet (opAssign rfl rfl)) ?_
      refine ASL.done ?_
      refine AWP.ret ?_
      refine QBlock.ret ?_
      refine QThen.rt ?_
      obtain rfl := someE hF
      exact QRet.sole (v := (.bool (a19 || (a25 && p3)))) ⟨rfl, trivial⟩ rfl
    · skip
      refine AWP.seqR rfl ?_
      refine ASL.q (v := (.bool (decide (p0.kind = 9)))) rfl rfl (Light.quiet (opInt rfl rfl rfl rfl)) ?_
      refine ASL.q (v := (.bool (decide (p0.kind = 9)))) rfl rfl (Light.quiet (opAssign rfl rfl)) ?_
      refine ASL.done ?_
      refine AWP.ifP hF rfl (fun hc3 hF => ?_) (fun hc3 hF => ?_)
      · skip
        refine AWP.seqR rfl ?_
        refine ASL.q (v := (.list 1 (List.map AV.bool p1))) rfl rfl (Light.quiet (opMove rfl rfl)) ?_
        refine ASL.q (v := (.rptr [(.int .i64 p0.b)])) rfl rfl (Light.quiet (opFieldAddrR rfl fieldA_59_2 rfl rfl)) ?_
        refine ASL.q (v := (.int .i64 p0.b)) rfl rfl (Light.quiet (opLoadR rfl aggA_3 rfl rfl)) ?_
        obtain ⟨a36, ha36, hF⟩ := bindE hF
        refine ASL.q (v := (.rptr [(.bool a36)])) rfl rfl (Light.quiet (kIx (f := AV.bool) ha36 rfl rfl rfl elemA_56 sizeA_4 rfl)) ?_
        refine ASL.q (v := (.bool a36)) rfl rfl (Light.quiet (opLoadR rfl aggA_4 rfl rfl)) ?_
        refine ASL.q (v := (.bool a36)) rfl rfl (Light.quiet (opMove rfl rfl)) ?_
        refine ASL.g (v := (.list 1 (List.map AV.bool p1))) (.bool a36) true rfl (wT _) rfl (fun hG => by have q0 := hG; subst q0; exact Light.quiet (opMove rfl rfl)) ?_
        refine ASL.g (v := (.rptr [(.int .i64 p0.a), (.int .i64 p0.b)])) (.bool a36) true rfl (wT _) rfl (fun hG => by have q0 := hG; subst q0; exact Light.quiet (opFieldAddrR rfl fieldA_59_1 rfl rfl)) ?_
        refine ASL.g (v := (.int .i64 p0.a)) (.bool a36) true rfl (wT _) rfl (fun hG => by have q0 := hG; subst q0; exact Light.quiet (opLoadR rfl aggA_3 rfl rfl)) ?_
        obtain ⟨a42, ha42, hF⟩ := bindE hF
        refine ASL.g (v := (.rptr [(.bool a42)])) (.bool a36) true rfl (wT _) rfl (fun hG => by have q0 := hG; subst q0; exact Light.quiet (kIx (f := AV.bool) (whenE ha42) rfl rfl rfl elemA_56 sizeA_4 rfl)) ?_
        refine ASL.g (v := (.bool a42)) (.bool a36) true rfl (wT _) rfl (fun hG => by have q0 := hG; subst q0; exact Light.quiet (opLoadR rfl aggA_4 rfl rfl)) ?_
        refine ASL.g (v := (.bool a42)) (.bool a36) true rfl (wT _) rfl (fun hG => by have q0 := hG; subst q0; exact Light.quiet (opMove rfl rfl)) ?_
        refine ASL.g (v := (.bool p3)) (bif a36 then (.bool a42) else .tup []) false rfl (wGF _ _) rfl (fun hG => by have q0 := gA1 hG; have q1 := gN (gA2 hG); subst q0; subst q1; exact Light.quiet (opMove rfl rfl)) ?_
        refine ASL.g (v := (.bool (a42 || p3))) (.bool a36) true rfl (wT _) rfl (fun hG => by have q0 := hG; subst q0; exact Light.quiet (opPick (b := a42) rfl rfl (by cases a42 <;> rfl))) ?_
        refine ASL.q (v := (.bool (a36 && (a42 || p3)))) rfl rfl (Light.quiet (opPick (b := a36) rfl rfl (by cases a36 <;> rfl))) ?_
        refine ASL.q (v := (.bool (a36 && (a42 || p3)))) rfl rfl (Light.quiet (opAssign rfl rfl)) ?_
        refine ASL.done ?_
        refine AWP.ret ?_
        refine QBlock.ret ?_
        refine QThen.rt ?_
        obtain rfl := someE hF
        exact QRet.sole (v := (.bool (a36 && (a42 || p3)))) ⟨rfl, trivial⟩ rfl
      · skip
        refine AWP.seqR rfl ?_
        refine ASL.q (v := (.bool (decide (p0.kind = 10)))) rfl rfl (Light.quiet (opInt rfl rfl rfl rfl)) ?_
        refine ASL.q (v := (.bool (decide (p0.kind = 10)))) rfl rfl (Light.quiet (opAssign rfl rfl)) ?_
        refine ASL.done ?_
        refine AWP.ifP hF rfl (fun hc4 hF => ?_) (fun hc4 hF => ?_)
        · skip
          refine AWP.seqR rfl ?_
          refine ASL.q (v := (.list 1 (List.map AV.bool p1))) rfl rfl (Light.quiet (opMove rfl rfl)) ?_
          refine ASL.q (v := (.rptr [(.int .i64 p0.a), (.int .i64 p0.b)])) rfl rfl (Light.quiet (opFieldAddrR rfl fieldA_59_1 rfl rfl)) ?_
          refine ASL.q (v := (.int .i64 p0.a)) rfl rfl (Light.quiet (opLoadR rfl aggA_3 rfl rfl)) ?_
          obtain ⟨a53, ha53, hF⟩ := bindE hF
          refine ASL.q (v := (.rptr [(.bool a53)])) rfl rfl (Light.quiet (kIx (f := AV.bool) ha53 rfl rfl rfl elemA_56 sizeA_4 rfl)) ?_
          refine ASL.q (v := (.bool a53)) rfl rfl (Light.quiet (opLoadR rfl aggA_4 rfl rfl)) ?_
          refine ASL.q (v := (.bool a53)) rfl rfl (Light.quiet (opMove rfl rfl)) ?_
          refine ASL.g (v := (.bool p3)) (.bool a53) false rfl (wF _) rfl (fun hG => by have q0 := gN hG; subst q0; exact Light.quiet (opMove rfl rfl)) ?_
          refine ASL.q (v := (.bool (a53 || p3))) rfl rfl (Light.quiet (opPick (b := a53) rfl rfl (by cases a53 <;> rfl))) ?_
          refine ASL.q (v := (.bool (a53 || p3))) rfl rfl (Light.quiet (opAssign rfl rfl)) ?_
          refine ASL.done ?_
          refine AWP.ret ?_
          refine QBlock.ret ?_
          refine QThen.rt ?_
          obtain rfl := someE hF
          exact QRet.sole (v := (.bool (a53 || p3))) ⟨rfl, trivial⟩ rfl
        · skip
          refine AWP.seqR rfl ?_
          refine ASL.q (v := (.bool (decide (p0.kind = 11)))) rfl rfl (Light.quiet (opInt rfl rfl rfl rfl)) ?_
          refine ASL.q (v := (.bool (decide (p0.kind = 11)))) rfl rfl (Light.quiet (opAssign rfl rfl)) ?_
          refine ASL.done ?_
          refine AWP.ifP hF rfl (fun hc5 hF => ?_) (fun hc5 hF => ?_)
          · skip
            refine AWP.seqR rfl ?_
            refine ASL.q (v := (.list 1 (List.map AV.bool p1))) rfl rfl (Light.quiet (opMove rfl rfl)) ?_
            refine ASL.q (v := (.rptr [(.int .i64 p0.a), (.int .i64 p0.b)])) rfl rfl (Light.quiet (opFieldAddrR rfl fieldA_59_1 rfl rfl)) ?_
            refine ASL.q (v := (.int .i64 p0.a)) rfl rfl (Light.quiet (opLoadR rfl aggA_3 rfl rfl)) ?_
            obtain ⟨a63, ha63, hF⟩ := bindE hF
            refine ASL.q (v := (.rptr [(.bool a63)])) rfl rfl (Light.quiet (kIx (f := AV.bool) ha63 rfl rfl rfl elemA_56 sizeA_4 rfl)) ?_
            refine ASL.q (v := (.bool a63)) rfl rfl (Light.quiet (opLoadR rfl aggA_4 rfl rfl)) ?_
            refine ASL.q (v := (.bool a63)) rfl rfl (Light.quiet (opMove rfl rfl)) ?_
            refine ASL.g (v := (.bool p3)) (.bool a63) true rfl (wT _) rfl (fun hG => by have q0 := hG; subst q0; exact Light.quiet (opMove rfl rfl)) ?_
            refine ASL.q (v := (.bool (a63 && p3))) rfl rfl (Light.quiet (opPick (b := a63) rfl rfl (by cases a63 <;> rfl))) ?_
            refine ASL.q (v := (.bool (a63 && p3))) rfl rfl (Light.quiet (opAssign rfl rfl)) ?_
            refine ASL.done ?_
            refine AWP.ret ?_
            refine QBlock.ret ?_
            refine QThen.rt ?_
            obtain rfl := someE hF
            exact QRet.sole (v := (.bool (a63 && p3))) ⟨rfl, trivial⟩ rfl
          · skip
            refine AWP.skip ?_
            refine QBlock.nrm ?_
            refine QThen.nrm ?_
            refine AWP.seqR rfl ?_
            refine ASL.q (v := (TNode.av p0)) rfl rfl (Light.quiet (opLoadRA rfl aggA_59 sizeA_59 rfl (nlt rfl) rfl)) ?_
            refine ASL.q (v := (.list 1 (List.map AV.bool p1))) rfl rfl (Light.quiet (opMove rfl rfl)) ?_
            refine ASL.q (v := (.int .i64 p2)) rfl rfl (Light.quiet (opMove rfl rfl)) ?_
            obtain ⟨a71, ha71, hF⟩ := bindE hF
            refine ASL.q (v := (.bool a71)) rfl rfl ((qCall rfl rfl call_128 (impl_plain_ok ha71) rfl)) ?_
            refine ASL.q (v := (.bool a71)) rfl rfl (Light.quiet (opAssign rfl rfl)) ?_
            refine ASL.done ?_
            refine AWP.ret ?_
            obtain rfl := someE hF
            exact QRet.sole (v := (.bool a71)) ⟨rfl, trivial⟩ rfl

set_option maxRecDepth 10000 in
theorem impl_rowOf_ok {p0 : TNode} {p1 : (List (List Bool))} {p2 : TWord} {r : (List Bool)} (hF : impl_rowOf p0 p1 p2 = some r) : PO Try.prog 104 [(TNode.av p0), (.list 1 (List.map (fun xs : (List Bool) => AV.list 1 (List.map AV.bool xs)) p1)), (TWord.av p2)] 1 (List.map AV.bool r) := by
  refine HC.enter Try.func104 rfl Try.ntmps104 (by simp) ?_
  have hS := Sep.void; unfold impl_rowOf at hF
  refine AWP.seqR rfl ?_
  refine ASL.q (v := (.rptr [(.int .i64 p0.kind), (.int .i64 p0.a), (.int .i64 p0.b)])) rfl rfl ((qBoxI (v := (TNode.av p0)) rfl rfl rfl rfl)) ?_
  refine ASL.q (v := (.rptr [(.list 1 (List.map (AV.int .i64) p2.stem)), (.list 1 (List.map (AV.int .i64) p2.loop))])) rfl rfl ((qBoxI (v := (TWord.av p2)) rfl rfl rfl rfl)) ?_
  have hS := hNil (s := 1) (f := AV.bool) hS
  refine ASL.q (v := .nil) rfl rfl (Light.quiet (opAssign rfl rfl)) ?_
  refine ASL.done ?_
  refine AWP.seqR rfl ?_
  refine ASL.q (v := (.int .i64 (impl_Word_places p2))) rfl rfl ((qCall rfl rfl call_122 (impl_Word_places_ok p2) rfl)) ?_
  obtain ⟨z12, hz12, hF⟩ := bindE hF
  refine ASL.x rfl rfl (hMk (f := AV.bool) hS hz12 (by decide) rfl elemA_56 sizeA_4 bytesA_4 zeroA_4 rfl rfl (by decide) rfl rfl ?_); rintro v12 G2 hK hS
  refine ASL.q (v := v12) rfl rfl (Light.quiet (opAssign rfl rfl)) ?_
  refine ASL.done ?_
  refine AWP.seqM (fun e H => ∃ y4 : (List Bool), E.Told e [(1, (.list 1 (List.map (fun xs : (List Bool) => AV.list 1 (List.map AV.bool xs)) p1))), (3, (.rptr [(.int .i64 p0.kind), (.int .i64 p0.a), (.int .i64 p0.b)])), (5, (.rptr [(.list 1 (List.map (AV.int .i64) p2.stem)), (.list 1 (List.map (AV.int .i64) p2.loop))])), (7, v12)] ∧ E.Sep H [.row 1 v12 (List.map AV.bool y4)] ∧ impl_rowOf.k0 p2 p0 p1 y4 = some r) ?_ ?_
  · rintro e0 G28 ⟨y4, hT, hS, hF⟩; refine AWP.only _ hT ?_; unfold impl_rowOf.k0 at hF
    refine AWP.seqM (fun e H => ∃ y5 : (List Bool), E.Told e [(7, v12)] ∧ E.Sep H [.row 1 v12 (List.map AV.bool y5)] ∧ impl_rowOf.k1 y5 = some r) ?_ ?_
    · rintro e0 G6 ⟨y5, hT, hS, hF⟩; refine AWP.only _ hT ?_; unfold impl_rowOf.k1 at hF
      refine AWP.seqR rfl ?_
      refine ASL.q (v := v12) rfl rfl (Light.quiet (opMove rfl rfl)) ?_
      refine ASL.q (v := v12) rfl rfl (Light.quiet (opAssign rfl rfl)) ?_
      refine ASL.done ?_
      refine AWP.ret ?_
      obtain rfl := someE hF
      exact QRet.sole (v := v12) ⟨rfl, trivial⟩ (hS.get (k := 0) rfl)
    · skip
      refine AWP.seqR rfl ?_
      refine ASL.q (v := (.int .i64 0)) rfl rfl (Light.quiet (opMove rfl rfl)) ?_
      refine ASL.done ?_
      refine AWP.block ?_
      obtain ⟨o11, hL10, hR12⟩ := bindE hF
      refine AWP.loopF (ω := Unit) hL10 (fun s w => [(1, (.list 1 (List.map (fun xs : (List Bool) => AV.list 1 (List.map AV.bool xs)) p1))), (3, (.rptr [(.int .i64 p0.kind), (.int .i64 p0.a), (.int .i64 p0.b)])), (5, (.rptr [(.list 1 (List.map (AV.int .i64) p2.stem)), (.list 1 (List.map (AV.int .i64) p2.loop))])), (7, v12), (30, (.int .i64 s.2))]) (fun s w => [.row 1 v12 (List.map AV.bool s.1)]) () ⟨rfl, rfl, rfl, rfl, rfl, trivial⟩ (hS.pick [0] rfl rfl) ?_
      rintro ⟨y7, x30_l0⟩ _ G13 hS x8 hF hx9
      try dsimp only at hS ⊢
      have hF : impl_rowOf.b0 p2 p0 p1 y7 x30_l0 = some x8 := hF; unfold impl_rowOf.b0 at hF
      refine AWP.seqR rfl ?_
      refine ASL.q (v := (.bool (decide (x30_l0 < 2)))) rfl rfl (Light.quiet (opInt rfl rfl rfl rfl)) ?_
      refine ASL.done ?_
      refine AWP.seq ?_
      refine AWP.ifP hF rfl (fun hc14 hF => ?_) (fun hc14 hF => ?_)
      · skip
        refine AWP.skip ?_
        refine QThen.nrm ?_
        refine AWP.seqM (fun e H => ∃ y15 : (List Bool), E.Told e [(1, (.list 1 (List.map (fun xs : (List Bool) => AV.list 1 (List.map AV.bool xs)) p1))), (3, (.rptr [(.int .i64 p0.kind), (.int .i64 p0.a), (.int .i64 p0.b)])), (5, (.rptr [(.list 1 (List.map (AV.int .i64) p2.stem)), (.list 1 (List.map (AV.int .i64) p2.loop))])), (7, v12), (30, (.int .i64 x30_l0))] ∧ E.Sep H [.row 1 v12 (List.map AV.bool y15)] ∧ impl_rowOf.k2 x30_l0 y15 = some x8) ?_ ?_
        · rintro e0 G16 ⟨y15, hT, hS, hF⟩; refine AWP.only _ hT ?_; unfold impl_rowOf.k2 at hF
          refine AWP.lastR rfl ?_
          refine ASL.q (v := (.int .i64 (W (x30_l0 + 1)))) rfl rfl (Light.quiet (opInt rfl rfl rfl rfl)) ?_
          refine ASL.q (v := (.int .i64 (W (x30_l0 + 1)))) rfl rfl (Light.quiet (opMove rfl rfl)) ?_
          refine ASL.done ?_
          refine QThen.nrm ?_
          exact ⟨(y15, (W (x30_l0 + 1))), (), (someE hF).symm, ⟨rfl, rfl, rfl, rfl, rfl, trivial⟩, (hS.pick [0] rfl rfl)⟩
        · skip
          refine AWP.block ?_
          refine AWP.seqR rfl ?_
          refine ASL.q (v := v12) rfl rfl (Light.quiet (opMove rfl rfl)) ?_
          refine ASL.q (v := (.int .i64 (y7.length : Int))) rfl rfl (Light.quiet (kLen hS (j := 0) rfl rfl rfl rfl lenT_56 rfl)) ?_
          refine ASL.q (v := (.int .i64 (W (((y7.length : Int)) - 1)))) rfl rfl (Light.quiet (opInt rfl rfl rfl rfl)) ?_
          refine ASL.q (v := (.int .i64 (W (((y7.length : Int)) - 1)))) rfl rfl (Light.quiet (opAssign rfl rfl)) ?_
          refine ASL.done ?_
          refine AWP.block ?_
          obtain ⟨o21, hL20, hR22⟩ := bindE hF
          refine AWP.loopF (ω := Unit) hL20 (fun s w => [(1, (.list 1 (List.map (fun xs : (List Bool) => AV.list 1 (List.map AV.bool xs)) p1))), (3, (.rptr [(.int .i64 p0.kind), (.int .i64 p0.a), (.int .i64 p0.b)])), (5, (.rptr [(.list 1 (List.map (AV.int .i64) p2.stem)), (.list 1 (List.map (AV.int .i64) p2.loop))])), (7, v12), (9, (.int .i64 s.2)), (30, (.int .i64 x30_l0))]) (fun s w => [.row 1 v12 (List.map AV.bool s.1)]) () ⟨rfl, rfl, rfl, rfl, rfl, rfl, trivial⟩ (hS.pick [0] rfl rfl) ?_
          rintro ⟨y17, x9_l1⟩ _ G23 hS x18 hF hx19
          try dsimp only at hS ⊢
          have hF : impl_rowOf.b1 p2 p0 p1 y17 x9_l1 = some x18 := hF; unfold impl_rowOf.b1 at hF
          refine AWP.seq ?_
          refine AWP.seqR rfl ?_
          refine ASL.q (v := (.int .i64 x9_l1)) rfl rfl (Light.quiet (opMove rfl rfl)) ?_
          refine ASL.q (v := (.bool (decide (x9_l1 ≥ 0)))) rfl rfl (Light.quiet (opInt rfl rfl rfl rfl)) ?_
          refine ASL.done ?_
          refine AWP.ifP hF rfl (fun hc24 hF => ?_) (fun hc24 hF => ?_)
          · skip
            refine AWP.skip ?_
            refine QThen.nrm ?_
            refine AWP.seq ?_
            refine AWP.block ?_
            refine AWP.seqR rfl ?_
            refine ASL.q (v := v12) rfl rfl (Light.quiet (opMove rfl rfl)) ?_
            refine ASL.q (v := (.int .i64 x9_l1)) rfl rfl (Light.quiet (opMove rfl rfl)) ?_
            refine ASL.q (v := (.int .i64 (impl_Word_next p2 x9_l1))) rfl rfl ((qCall rfl rfl call_123 (impl_Word_next_ok p2 x9_l1) rfl)) ?_
            obtain ⟨a42, ha42, hF⟩ := bindE hF
            refine ASL.q (v := (ptrTo v12 ((impl_Word_next p2 x9_l1)).toNat 1)) rfl rfl (Light.quiet (kIxOx hS (j := 0) rfl ha42 rfl rfl rfl elemA_56 sizeA_4)) ?_
            refine ASL.q (v := (.bool a42)) rfl rfl (Light.quiet (kLd (f := AV.bool) hS (j := 0) rfl ha42 rfl aggA_4 rfl (fun _ => rfl))) ?_
            refine ASL.q (v := (.bool a42)) rfl rfl (Light.quiet (opAssign rfl rfl)) ?_
            refine ASL.done ?_
            refine AWP.seqM (fun e H => ∃ x10_4 : Bool, E.Told e [(1, (.list 1 (List.map (fun xs : (List Bool) => AV.list 1 (List.map AV.bool xs)) p1))), (3, (.rptr [(.int .i64 p0.kind), (.int .i64 p0.a), (.int .i64 p0.b)])), (5, (.rptr [(.list 1 (List.map (AV.int .i64) p2.stem)), (.list 1 (List.map (AV.int .i64) p2.loop))])), (7, v12), (9, (.int .i64 x9_l1)), (10, (.bool x10_4)), (30, (.int .i64 x30_l0))] ∧ E.Sep H [.row 1 v12 (List.map AV.bool y17)] ∧ impl_rowOf.k3 p0 p1 x9_l1 p2 y17 x10_4 = some x18) ?_ ?_
            · rintro e0 G26 ⟨x10_4, hT, hS, hF⟩; refine AWP.only _ hT ?_; unfold impl_rowOf.k3 at hF
              refine AWP.lastD [(0, false), (1, false), (2, false), (3, false), (4, false), (5, false), (6, false), (7, false), (8, false), (9, false), (10, false), (11, false), (12, true)] mixed (by kernel_rfl) rfl ?_
              refine ARL.q0 (v := v12) rfl rfl (Light.quiet (opMove rfl rfl)) ?_
              refine ARL.q0 (v := (.int .i64 x9_l1)) rfl rfl (Light.quiet (opMove rfl rfl)) ?_
              refine ARL.q0 (v := (TNode.av p0)) rfl rfl (Light.quiet (opLoadRA rfl aggA_59 sizeA_59 rfl (nlt rfl) rfl)) ?_
              refine ARL.q0 (v := (TNode.av p0)) rfl rfl (Light.quiet (opLoadRA rfl aggA_59 sizeA_59 rfl (nlt rfl) rfl)) ?_
              refine ARL.q0 (v := (.list 1 (List.map (fun xs : (List Bool) => AV.list 1 (List.map AV.bool xs)) p1))) rfl rfl (Light.quiet (opMove rfl rfl)) ?_
              refine ARL.q0 (v := (.int .i64 x9_l1)) rfl rfl (Light.quiet (opMove rfl rfl)) ?_
              obtain ⟨a62, ha62, hF⟩ := bindE hF
              refine ARL.q0 (v := (.list 1 (List.map AV.bool a62))) rfl rfl ((qCall rfl rfl call_124 (PO.list (impl_columnOf_ok ha62)) rfl)) ?_
              refine ARL.q0 (v := (.int .i64 x9_l1)) rfl rfl (Light.quiet (opMove rfl rfl)) ?_
              obtain ⟨a64, ha64, hF⟩ := bindE hF
              refine ARL.q0 (v := (.int .i64 a64)) rfl rfl ((qCall rfl rfl call_125 (impl_Word_letter_ok ha64) rfl)) ?_
              refine ARL.q0 (v := (.bool x10_4)) rfl rfl (Light.quiet (opMove rfl rfl)) ?_
              obtain ⟨a66, ha66, hF⟩ := bindE hF
              refine ARL.q0 (v := (.bool a66)) rfl rfl ((qCall rfl rfl call_109 (impl_soBy_ok ha66) rfl)) ?_
              obtain ⟨m67, hm67, hF⟩ := bindE hF
              refine ARL.q0 (v := (ptrTo v12 m67 1)) rfl rfl (Light.quiet (kIxO hS (j := 0) rfl hm67 rfl rfl rfl elemA_56 sizeA_4)) ?_
              refine ARL.n rfl rfl rfl rfl (hSt (f := AV.bool) (a := a66) hS (j := 0) rfl hm67 rfl sizeA_4 rfl rfl ⟨rfl, rfl, rfl⟩ ?_); rintro G25 hS
              refine ARL.done ?_
              refine QBlock.nrm ?_
              refine QThen.nrm ?_
              refine AWP.lastR rfl ?_
              refine ASL.q (v := (.int .i64 x9_l1)) rfl rfl (Light.quiet (opMove rfl rfl)) ?_
              refine ASL.q (v := (.int .i64 (W (x9_l1 - 1)))) rfl rfl (Light.quiet (opInt rfl rfl rfl rfl)) ?_
              refine ASL.q (v := (.int .i64 (W (x9_l1 - 1)))) rfl rfl (Light.quiet (opAssign rfl rfl)) ?_
              refine ASL.done ?_
              refine QThen.nrm ?_
              exact ⟨((y17.set m67 a66), (W (x9_l1 - 1))), (), (someE hF).symm, ⟨rfl, rfl, rfl, rfl, rfl, rfl, trivial⟩, (hS.pick [0] rfl rfl)⟩
            · skip
              refine AWP.seqR rfl ?_
              refine ASL.q (v := (.rptr [(.int .i64 p0.kind), (.int .i64 p0.a), (.int .i64 p0.b)])) rfl rfl (Light.quiet (opFieldAddrR rfl fieldA_59_0 rfl rfl)) ?_
              refine ASL.q (v := (.int .i64 p0.kind)) rfl rfl (Light.quiet (opLoadR rfl aggA_3 rfl rfl)) ?_
              refine ASL.q (v := (.bool (decide (p0.kind = 7)))) rfl rfl (Light.quiet (opInt rfl rfl rfl rfl)) ?_
              refine ASL.done ?_
              refine AWP.ifP hF rfl (fun hc27 hF => ?_) (fun hc27 hF => ?_)
              · skip
                refine AWP.lastD [(0, false), (1, false), (2, false), (3, false), (4, false), (5, false), (6, false), (7, false), (8, false), (9, false)] mixed (by kernel_rfl) rfl ?_
                refine ARL.q0 (v := (.list 1 (List.map (fun xs : (List Bool) => AV.list 1 (List.map AV.bool xs)) p1))) rfl rfl (Light.quiet (opMove rfl rfl)) ?_
                refine ARL.q0 (v := (.rptr [(.int .i64 p0.a), (.int .i64 p0.b)])) rfl rfl (Light.quiet (opFieldAddrR rfl fieldA_59_1 rfl rfl)) ?_
                refine ARL.q0 (v := (.int .i64 p0.a)) rfl rfl (Light.quiet (opLoadR rfl aggA_3 rfl rfl)) ?_
                obtain ⟨a50, ha50, hF⟩ := bindE hF
                refine ARL.q0 (v := (.rptr [(.list 1 (List.map AV.bool a50))])) rfl rfl (Light.quiet (kIx (f := (fun xs : (List Bool) => AV.list 1 (List.map AV.bool xs))) ha50 rfl rfl rfl elemA_48 sizeA_56 rfl)) ?_
                refine ARL.q0 (v := (.list 1 (List.map AV.bool a50))) rfl rfl (Light.quiet (opLoadR rfl aggA_56 rfl rfl)) ?_
                refine ARL.q0 (v := (.int .i64 x9_l1)) rfl rfl (Light.quiet (opMove rfl rfl)) ?_
                refine ARL.q0 (v := (.int .i64 (impl_Word_next p2 x9_l1))) rfl rfl ((qCall rfl rfl call_123 (impl_Word_next_ok p2 x9_l1) rfl)) ?_
                obtain ⟨a54, ha54, hF⟩ := bindE hF
                refine ARL.q0 (v := (.rptr [(.bool a54)])) rfl rfl (Light.quiet (kIx (f := AV.bool) ha54 rfl rfl rfl elemA_56 sizeA_4 rfl)) ?_
                refine ARL.q0 (v := (.bool a54)) rfl rfl (Light.quiet (opLoadR rfl aggA_4 rfl rfl)) ?_
                refine ARL.q0 (v := (.bool a54)) rfl rfl (Light.quiet (opAssign rfl rfl)) ?_
                refine ARL.done ?_
                refine QThen.nrm ?_
                exact ⟨a54, ⟨rfl, rfl, rfl, rfl, rfl, rfl, rfl, trivial⟩, (hS.pick [0] rfl rfl), hF⟩
              · skip
                refine AWP.skip ?_
                refine QThen.nrm ?_
                exact ⟨a42, ⟨rfl, rfl, rfl, rfl, rfl, rfl, rfl, trivial⟩, (hS.pick [0] rfl rfl), hF⟩
          · skip
            refine AWP.exit ?_
            refine QThen.ext ?_
            refine QThen.ext ?_
            refine QBlock.hit ?_
            obtain rfl := (hx19 _ (someE hF).symm)
            have hF := hR22
            refine QBlock.nrm ?_
            refine QThen.nrm ?_
            exact ⟨y17, ⟨rfl, rfl, rfl, rfl, rfl, trivial⟩, (hS.pick [0] rfl rfl), hF⟩
      · skip
        refine AWP.exit ?_
        refine QThen.ext ?_
        refine QThen.ext ?_
        refine QBlock.hit ?_
        obtain rfl := (hx9 _ (someE hF).symm)
        have hF := hR12
        refine QThen.nrm ?_
        exact ⟨y7, ⟨rfl, trivial⟩, (hS.pick [0] rfl rfl), hF⟩
  · skip
    refine AWP.seqR rfl ?_
    refine ASL.q (v := v12) rfl rfl (Light.quiet (opMove rfl rfl)) ?_
    refine ASL.q (v := (.int .i64 (z12.length : Int))) rfl rfl (Light.quiet (kLen hS (j := 0) rfl rfl rfl rfl lenT_56 rfl)) ?_
    refine ASL.q (v := (.int .i64 0)) rfl rfl (Light.quiet (opMove rfl rfl)) ?_
    refine ASL.done ?_
    refine AWP.block ?_
    obtain ⟨o33, hL32, hR34⟩ := bindE hF
    refine AWP.loopF (ω := Unit) hL32 (fun s w => [(1, (.list 1 (List.map (fun xs : (List Bool) => AV.list 1 (List.map AV.bool xs)) p1))), (3, (.rptr [(.int .i64 p0.kind), (.int .i64 p0.a), (.int .i64 p0.b)])), (5, (.rptr [(.list 1 (List.map (AV.int .i64) p2.stem)), (.list 1 (List.map (AV.int .i64) p2.loop))])), (7, v12), (14, (.int .i64 (z12.length : Int))), (15, (.int .i64 s.2))]) (fun s w => [.row 1 v12 (List.map AV.bool s.1)]) () ⟨rfl, rfl, rfl, rfl, rfl, rfl, trivial⟩ (hS.pick [0] rfl rfl) ?_
    rintro ⟨y29, x15_l2⟩ _ G35 hS x30 hF hx31
    try dsimp only at hS ⊢
    have hF : impl_rowOf.b2 z12 p0 y29 x15_l2 = some x30 := hF; unfold impl_rowOf.b2 at hF
    refine AWP.seqR rfl ?_
    refine ASL.q (v := (.bool (decide (x15_l2 < ((z12.length : Int)))))) rfl rfl (Light.quiet (opInt rfl rfl rfl rfl)) ?_
    refine ASL.done ?_
    refine AWP.seq ?_
    refine AWP.ifP hF rfl (fun hc36 hF => ?_) (fun hc36 hF => ?_)
    · skip
      refine AWP.skip ?_
      refine QThen.nrm ?_
      refine AWP.seq ?_
      refine AWP.block ?_
      refine AWP.seqR rfl ?_
      refine ASL.q (v := (.int .i64 x15_l2)) rfl rfl (Light.quiet (opMove rfl rfl)) ?_
      refine ASL.q (v := (.int .i64 x15_l2)) rfl rfl (Light.quiet (opAssign rfl rfl)) ?_
      refine ASL.done ?_
      refine AWP.lastR rfl ?_
      refine ASL.q (v := v12) rfl rfl (Light.quiet (opMove rfl rfl)) ?_
      refine ASL.q (v := (.int .i64 x15_l2)) rfl rfl (Light.quiet (opMove rfl rfl)) ?_
      refine ASL.q (v := (.rptr [(.int .i64 p0.kind), (.int .i64 p0.a), (.int .i64 p0.b)])) rfl rfl (Light.quiet (opFieldAddrR rfl fieldA_59_0 rfl rfl)) ?_
      refine ASL.q (v := (.int .i64 p0.kind)) rfl rfl (Light.quiet (opLoadR rfl aggA_3 rfl rfl)) ?_
      refine ASL.q (v := (.bool (decide (p0.kind = 9)))) rfl rfl (Light.quiet (opInt rfl rfl rfl rfl)) ?_
      obtain ⟨c23, hc23, hF⟩ := bndE hF
      refine ASL.q (v := (.bool c23)) rfl rfl ((Quiet.cast (Light.quiet (opMove rfl rfl)) (congrArg AV.bool hc23.symm))) ?_
      refine ASL.g (v := (.rptr [(.int .i64 p0.kind), (.int .i64 p0.a), (.int .i64 p0.b)])) (.bool c23) false rfl (wF _) rfl (fun hG => by have q0 := gN hG; subst q0; exact Light.quiet (opFieldAddrR rfl fieldA_59_0 rfl rfl)) ?_
      refine ASL.g (v := (.int .i64 p0.kind)) (.bool c23) false rfl (wF _) rfl (fun hG => by have q0 := gN hG; subst q0; exact Light.quiet (opLoadR rfl aggA_3 rfl rfl)) ?_
      refine ASL.g (v := (.bool (decide (p0.kind = 11)))) (.bool c23) false rfl (wF _) rfl (fun hG => by have q0 := gN hG; subst q0; exact Light.quiet (opInt rfl rfl rfl rfl)) ?_
      refine ASL.q (v := (.bool (c23 || (decide (p0.kind = 11))))) rfl rfl (Light.quiet (opPick (b := c23) rfl rfl (by cases c23 <;> rfl))) ?_
      obtain ⟨m28, hm28, hF⟩ := bindE hF
      refine ASL.q (v := (ptrTo v12 m28 1)) rfl rfl (Light.quiet (kIxO hS (j := 0) rfl hm28 rfl rfl rfl elemA_56 sizeA_4)) ?_
      refine ASL.n rfl rfl (hSt (f := AV.bool) (a := (c23 || (decide (p0.kind = 11)))) hS (j := 0) rfl hm28 rfl sizeA_4 rfl rfl ⟨rfl, rfl, rfl⟩ ?_); rintro G37 hS
      refine ASL.done ?_
      refine QBlock.nrm ?_
      refine QThen.nrm ?_
      refine AWP.lastR rfl ?_
      refine ASL.q (v := (.int .i64 (W (x15_l2 + 1)))) rfl rfl (Light.quiet (opInt rfl rfl rfl rfl)) ?_
      refine ASL.q (v := (.int .i64 (W (x15_l2 + 1)))) rfl rfl (Light.quiet (opMove rfl rfl)) ?_
      refine ASL.done ?_
      refine QThen.nrm ?_
      exact ⟨((y29.set m28 ((c23 || (decide (p0.kind = 11))))), (W (x15_l2 + 1))), (), (someE hF).symm, ⟨rfl, rfl, rfl, rfl, rfl, rfl, trivial⟩, (hS.pick [0] rfl rfl)⟩
    · skip
      refine AWP.exit ?_
      refine QThen.ext ?_
      refine QThen.ext ?_
      refine QBlock.hit ?_
      obtain rfl := (hx31 _ (someE hF).symm)
      have hF := hR34
      refine QThen.nrm ?_
      exact ⟨y29, ⟨rfl, rfl, rfl, rfl, trivial⟩, (hS.pick [0] rfl rfl), hF⟩

set_option maxRecDepth 10000 in
theorem impl_tableOf_ok {p0 : (List TNode)} {p1 : TWord} {r : (List (List Bool))} (hF : impl_tableOf p0 p1 = some r) : PO Try.prog 68 [(.list 3 (List.map TNode.av p0)), (TWord.av p1)] 1 (List.map (fun xs : (List Bool) => AV.list 1 (List.map AV.bool xs)) r) := by
  refine HC.enter Try.func68 rfl Try.ntmps68 (by simp) ?_
  have hS := Sep.void; unfold impl_tableOf at hF
  refine AWP.seqR rfl ?_
  refine ASL.q (v := (.rptr [(.list 1 (List.map (AV.int .i64) p1.stem)), (.list 1 (List.map (AV.int .i64) p1.loop))])) rfl rfl ((qBoxI (v := (TWord.av p1)) rfl rfl rfl rfl)) ?_
  have hS := hNil (s := 1) (f := (fun xs : (List Bool) => AV.list 1 (List.map AV.bool xs))) hS
  refine ASL.q (v := .nil) rfl rfl (Light.quiet (opAssign rfl rfl)) ?_
  refine ASL.done ?_
  refine AWP.seqR rfl ?_
  have hS := hNil (s := 1) (f := (fun xs : (List Bool) => AV.list 1 (List.map AV.bool xs))) hS
  refine ASL.q (v := .nil) rfl rfl (Light.quiet (opAssign rfl rfl)) ?_
  refine ASL.done ?_
  refine AWP.seqM (fun e H => ∃ y3 : (List (List Bool)), ∃ w4 : AV, E.Told e [(5, w4)] ∧ E.Sep H [.row 1 w4 (List.map (fun xs : (List Bool) => AV.list 1 (List.map AV.bool xs)) y3)] ∧ impl_tableOf.k0 y3 = some r) ?_ ?_
  · rintro e0 G6 ⟨y3, w4, hT, hS, hF⟩; refine AWP.only _ hT ?_; unfold impl_tableOf.k0 at hF
    refine AWP.seqR rfl ?_
    refine ASL.q (v := w4) rfl rfl (Light.quiet (opMove rfl rfl)) ?_
    refine ASL.q (v := w4) rfl rfl (Light.quiet (opAssign rfl rfl)) ?_
    refine ASL.done ?_
    refine AWP.ret ?_
    obtain rfl := someE hF
    exact QRet.sole (v := w4) ⟨rfl, trivial⟩ (hS.get (k := 0) rfl)
  · skip
    refine AWP.seqR rfl ?_
    refine ASL.q (v := (.list 3 (List.map TNode.av p0))) rfl rfl (Light.quiet (opMove rfl rfl)) ?_
    refine ASL.q (v := (.int .i64 (p0.length : Int))) rfl rfl (Light.quiet (opLenMap (f := TNode.av) rfl rfl rfl lenT_24 rfl)) ?_
    refine ASL.q (v := (.int .i64 0)) rfl rfl (Light.quiet (opMove rfl rfl)) ?_
    refine ASL.done ?_
    refine AWP.block ?_
    obtain ⟨o13, hL12, hR14⟩ := bindE hF
    refine AWP.loopF (ω := AV) hL12 (fun s w => [(3, (.rptr [(.list 1 (List.map (AV.int .i64) p1.stem)), (.list 1 (List.map (AV.int .i64) p1.loop))])), (5, w), (8, (.list 3 (List.map TNode.av p0))), (9, (.int .i64 (p0.length : Int))), (10, (.int .i64 s.2))]) (fun s w => [.row 1 w (List.map (fun xs : (List Bool) => AV.list 1 (List.map AV.bool xs)) s.1)]) .nil ⟨rfl, rfl, rfl, rfl, rfl, trivial⟩ (hS.pick [0] rfl rfl) ?_
    rintro ⟨y7, x10_l0⟩ w8 G15 hS x10 hF hx11
    try dsimp only at hS ⊢
    have hF : impl_tableOf.b0 p0 p1 y7 x10_l0 = some x10 := hF; unfold impl_tableOf.b0 at hF
    refine AWP.seqR rfl ?_
    refine ASL.q (v := (.bool (decide (x10_l0 < ((p0.length : Int)))))) rfl rfl (Light.quiet (opInt rfl rfl rfl rfl)) ?_
    refine ASL.done ?_
    refine AWP.seq ?_
    refine AWP.ifP hF rfl (fun hc16 hF => ?_) (fun hc16 hF => ?_)
    · skip
      refine AWP.skip ?_
      refine QThen.nrm ?_
      refine AWP.seq ?_
      refine AWP.block ?_
      refine AWP.seqR rfl ?_
      obtain ⟨a12, ha12, hF⟩ := bindE hF
      refine ASL.q (v := (.rptr [(.int .i64 a12.kind), (.int .i64 a12.a), (.int .i64 a12.b)])) rfl rfl (Light.quiet (kIx (f := TNode.av) ha12 rfl rfl rfl elemA_24 sizeA_59 rfl)) ?_
      refine ASL.q (v := (TNode.av a12)) rfl rfl (Light.quiet (opLoadRA rfl aggA_59 sizeA_59 rfl (nlt rfl) rfl)) ?_
      refine ASL.x rfl rfl (hNewZ hS [(.int .i64 0), (.int .i64 0), (.int .i64 0)] rfl zeroA_59 ⟨.inl rfl, .inl rfl, .inl rfl, trivial⟩ ?_); rintro b7 G17 hK hS
      refine ASL.n rfl rfl (hPutA hS (j := 0) rfl rfl sizeA_59 rfl rfl rfl rfl rfl (nlt rfl) ?_); rintro G19 hS
      refine ASL.done ?_
      refine AWP.lastR rfl ?_
      refine ASL.q (v := w8) rfl rfl (Light.quiet (opMove rfl rfl)) ?_
      refine ASL.q (v := (TNode.av a12)) rfl rfl (Light.quiet (kAtA hS (j := 0) rfl rfl aggA_59 sizeA_59 rfl (nlt rfl) rfl)) ?_
      refine ASL.q (v := w8) rfl rfl (Light.quiet (opMove rfl rfl)) ?_
      refine ASL.q (v := (TWord.av p1)) rfl rfl (Light.quiet (opLoadRA rfl aggA_41 sizeA_41 rfl (nlt rfl) rfl)) ?_
      obtain ⟨a18, ha18, hF⟩ := bindE hF
      refine ASL.q (v := (.list 1 (List.map AV.bool a18))) rfl rfl ((qCallRL hS rfl rfl call_104 (impl_rowOf_ok ha18) ⟨.same _, .row (k := 1) rfl, .same _, trivial⟩ (Scal.row (fun _ => by intro c hc; simp only [cells, List.mem_singleton] at hc; subst hc; constructor)))) ?_
      refine ASL.q (v := (.list 1 (List.map (fun xs : (List Bool) => AV.list 1 (List.map AV.bool xs)) [a18]))) rfl rfl ((qLit (xs := [(.list 1 (List.map AV.bool a18))]) rfl elemA_48 sizeA_56 zeroA_56 rfl rfl rfl rfl (by simp [cells]) (nlt rfl))) ?_
      obtain ⟨z20, hz20, hF⟩ := bindE hF
      refine ASL.x rfl rfl (hApp (f := (fun xs : (List Bool) => AV.list 1 (List.map AV.bool xs))) (ws := [a18]) hS (j := 1) rfl hz20 rfl elemA_48 rfl sizeA_56 bytesA_56 zeroA_56 rfl rfl rfl (fun _ => rfl) ?_); rintro v20 G20 hS
      refine ASL.q (v := v20) rfl rfl (Light.quiet (opAssign rfl rfl)) ?_
      refine ASL.done ?_
      refine QBlock.nrm ?_
      refine QThen.nrm ?_
      refine AWP.lastR rfl ?_
      refine ASL.q (v := (.int .i64 (W (x10_l0 + 1)))) rfl rfl (Light.quiet (opInt rfl rfl rfl rfl)) ?_
      refine ASL.q (v := (.int .i64 (W (x10_l0 + 1)))) rfl rfl (Light.quiet (opMove rfl rfl)) ?_
      refine ASL.done ?_
      refine QThen.nrm ?_
      exact ⟨(z20, (W (x10_l0 + 1))), v20, (someE hF).symm, ⟨rfl, rfl, rfl, rfl, rfl, trivial⟩, (hS.pick [1] rfl rfl)⟩
    · skip
      refine AWP.exit ?_
      refine QThen.ext ?_
      refine QThen.ext ?_
      refine QBlock.hit ?_
      obtain rfl := (hx11 _ (someE hF).symm)
      have hF := hR14
      refine QThen.nrm ?_
      exact ⟨y7, w8, ⟨rfl, trivial⟩, (hS.pick [0] rfl rfl), hF⟩

set_option maxRecDepth 10000 in
theorem impl_Word_placeOf_ok {p0 : TWord} {p1 : Int} {r : Int} (hF : impl_Word_placeOf p0 p1 = some r) : PC Try.prog 69 [(.rptr [(.list 1 (List.map (AV.int .i64) p0.stem)), (.list 1 (List.map (AV.int .i64) p0.loop))]), (.int .i64 p1)] fun v => v = (.int .i64 r) := by
  refine PC.enter Try.func69 rfl Try.ntmps69 (by simp) ?_
  have hS := Sep.void; unfold impl_Word_placeOf at hF
  refine AWP.seqR rfl ?_
  refine ASL.q (v := (.int .i64 0)) rfl rfl (Light.quiet (opAssign rfl rfl)) ?_
  refine ASL.done ?_
  refine AWP.seq ?_
  refine AWP.seqR rfl ?_
  refine ASL.q (v := (.int .i64 p1)) rfl rfl (Light.quiet (opMove rfl rfl)) ?_
  refine ASL.q (v := (.rptr [(.list 1 (List.map (AV.int .i64) p0.stem)), (.list 1 (List.map (AV.int .i64) p0.loop))])) rfl rfl (Light.quiet (opMove rfl rfl)) ?_
  refine ASL.q (v := (.rptr [(.list 1 (List.map (AV.int .i64) p0.stem)), (.list 1 (List.map (AV.int .i64) p0.loop))])) rfl rfl (Light.quiet (opNil rfl rfl rfl)) ?_
  refine ASL.q (v := (.rptr [(.list 1 (List.map (AV.int .i64) p0.stem)), (.list 1 (List.map (AV.int .i64) p0.loop))])) rfl rfl (Light.quiet (opFieldAddrR rfl fieldA_41_0 rfl rfl)) ?_
  refine ASL.q (v := (.list 1 (List.map (AV.int .i64) p0.stem))) rfl rfl (Light.quiet (opLoadR rfl aggA_32 rfl rfl)) ?_
  refine ASL.q (v := (.int .i64 (p0.stem.length : Int))) rfl rfl (Light.quiet (opLenMap (f := (AV.int .i64)) rfl rfl rfl lenT_32 rfl)) ?_
  refine ASL.q (v := (.bool (decide (p1 < ((p0.stem.length : Int)))))) rfl rfl (Light.quiet (opInt rfl rfl rfl rfl)) ?_
  refine ASL.done ?_
  refine AWP.ifP hF rfl (fun hc1 hF => ?_) (fun hc1 hF => ?_)
  · skip
    refine AWP.seqR rfl ?_
    refine ASL.q (v := (.int .i64 p1)) rfl rfl (Light.quiet (opMove rfl rfl)) ?_
    refine ASL.q (v := (.int .i64 p1)) rfl rfl (Light.quiet (opAssign rfl rfl)) ?_
    refine ASL.done ?_
    refine AWP.ret ?_
    refine QThen.rt ?_
    obtain rfl := someE hF
    exact QRet.sole (v := (.int .i64 p1)) ⟨rfl, trivial⟩ rfl
  · skip
    refine AWP.skip ?_
    refine QThen.nrm ?_
    refine AWP.seqD [(0, false), (1, false), (2, false), (3, false), (4, false), (5, false), (6, false), (7, false), (8, false), (9, false), (10, false), (11, false), (12, false), (13, false), (14, false), (15, false), (16, false), (17, false), (18, false), (19, false)] mixed (by kernel_rfl) rfl ?_
    refine ARL.q0 (v := (.rptr [(.list 1 (List.map (AV.int .i64) p0.stem)), (.list 1 (List.map (AV.int .i64) p0.loop))])) rfl rfl (Light.quiet (opMove rfl rfl)) ?_
    refine ARL.q0 (v := (.rptr [(.list 1 (List.map (AV.int .i64) p0.stem)), (.list 1 (List.map (AV.int .i64) p0.loop))])) rfl rfl (Light.quiet (opNil rfl rfl rfl)) ?_
    refine ARL.q0 (v := (.rptr [(.list 1 (List.map (AV.int .i64) p0.stem)), (.list 1 (List.map (AV.int .i64) p0.loop))])) rfl rfl (Light.quiet (opFieldAddrR rfl fieldA_41_0 rfl rfl)) ?_
    refine ARL.q0 (v := (.list 1 (List.map (AV.int .i64) p0.stem))) rfl rfl (Light.quiet (opLoadR rfl aggA_32 rfl rfl)) ?_
    refine ARL.q0 (v := (.int .i64 (p0.stem.length : Int))) rfl rfl (Light.quiet (opLenMap (f := (AV.int .i64)) rfl rfl rfl lenT_32 rfl)) ?_
    refine ARL.q0 (v := (.int .i64 p1)) rfl rfl (Light.quiet (opMove rfl rfl)) ?_
    refine ARL.q0 (v := (.rptr [(.list 1 (List.map (AV.int .i64) p0.stem)), (.list 1 (List.map (AV.int .i64) p0.loop))])) rfl rfl (Light.quiet (opMove rfl rfl)) ?_
    refine ARL.q0 (v := (.rptr [(.list 1 (List.map (AV.int .i64) p0.stem)), (.list 1 (List.map (AV.int .i64) p0.loop))])) rfl rfl (Light.quiet (opNil rfl rfl rfl)) ?_
    refine ARL.q0 (v := (.rptr [(.list 1 (List.map (AV.int .i64) p0.stem)), (.list 1 (List.map (AV.int .i64) p0.loop))])) rfl rfl (Light.quiet (opFieldAddrR rfl fieldA_41_0 rfl rfl)) ?_
    refine ARL.q0 (v := (.list 1 (List.map (AV.int .i64) p0.stem))) rfl rfl (Light.quiet (opLoadR rfl aggA_32 rfl rfl)) ?_
    refine ARL.q0 (v := (.int .i64 (p0.stem.length : Int))) rfl rfl (Light.quiet (opLenMap (f := (AV.int .i64)) rfl rfl rfl lenT_32 rfl)) ?_
    refine ARL.q0 (v := (.int .i64 (W (p1 - ((p0.stem.length : Int)))))) rfl rfl (Light.quiet (opInt rfl rfl rfl rfl)) ?_
    refine ARL.q0 (v := (.rptr [(.list 1 (List.map (AV.int .i64) p0.stem)), (.list 1 (List.map (AV.int .i64) p0.loop))])) rfl rfl (Light.quiet (opMove rfl rfl)) ?_
    refine ARL.q0 (v := (.rptr [(.list 1 (List.map (AV.int .i64) p0.stem)), (.list 1 (List.map (AV.int .i64) p0.loop))])) rfl rfl (Light.quiet (opNil rfl rfl rfl)) ?_
    refine ARL.q0 (v := (.rptr [(.list 1 (List.map (AV.int .i64) p0.loop))])) rfl rfl (Light.quiet (opFieldAddrR rfl fieldA_41_1 rfl rfl)) ?_
    refine ARL.q0 (v := (.list 1 (List.map (AV.int .i64) p0.loop))) rfl rfl (Light.quiet (opLoadR rfl aggA_32 rfl rfl)) ?_
    refine ARL.q0 (v := (.int .i64 (p0.loop.length : Int))) rfl rfl (Light.quiet (opLenMap (f := (AV.int .i64)) rfl rfl rfl lenT_32 rfl)) ?_
    obtain ⟨u2, hu2, hF⟩ := bindE hF
    refine ARL.q0 (v := (.int .i64 (Int.tmod ((W (p1 - ((p0.stem.length : Int))))) ((p0.loop.length : Int))))) rfl rfl (Light.quiet (opRem rfl rfl rfl (of_decide_eq_true (chkE hu2)) rfl)) ?_
    refine ARL.q0 (v := (.int .i64 (W (((p0.stem.length : Int)) + ((Int.tmod ((W (p1 - ((p0.stem.length : Int))))) ((p0.loop.length : Int)))))))) rfl rfl (Light.quiet (opInt rfl rfl rfl rfl)) ?_
    refine ARL.q0 (v := (.int .i64 (W (((p0.stem.length : Int)) + ((Int.tmod ((W (p1 - ((p0.stem.length : Int))))) ((p0.loop.length : Int)))))))) rfl rfl (Light.quiet (opAssign rfl rfl)) ?_
    refine ARL.done ?_
    refine AWP.ret ?_
    obtain rfl := someE hF
    exact QRet.sole (v := (.int .i64 (W (((p0.stem.length : Int)) + ((Int.tmod ((W (p1 - ((p0.stem.length : Int))))) ((p0.loop.length : Int)))))))) ⟨rfl, trivial⟩ rfl

set_option maxRecDepth 10000 in
theorem impl_LtlAt_ok {p0 : (List TNode)} {p1 : TWord} {p2 : Int} {r : Bool} (hF : impl_LtlAt p0 p1 p2 = some r) : PC Try.prog 25 [(.list 3 (List.map TNode.av p0)), (TWord.av p1), (.int .i64 p2)] fun v => v = (.bool r) := by
  refine PC.enter Try.func25 rfl Try.ntmps25 (by simp) ?_
  have hS := Sep.void; unfold impl_LtlAt at hF
  refine AWP.seqR rfl ?_
  refine ASL.q (v := (.rptr [(.list 1 (List.map (AV.int .i64) p1.stem)), (.list 1 (List.map (AV.int .i64) p1.loop))])) rfl rfl ((qBoxI (v := (TWord.av p1)) rfl rfl rfl rfl)) ?_
  refine ASL.q (v := (.bool false)) rfl rfl (Light.quiet (opAssign rfl rfl)) ?_
  refine ASL.done ?_
  refine AWP.seq ?_
  refine AWP.seqR rfl ?_
  refine ASL.q (v := (.int .i64 p2)) rfl rfl (Light.quiet (opMove rfl rfl)) ?_
  refine ASL.q (v := (.bool (decide (p2 < 0)))) rfl rfl (Light.quiet (opInt rfl rfl rfl rfl)) ?_
  obtain ⟨c9, hc9, hF⟩ := bndE hF
  refine ASL.q (v := (.bool c9)) rfl rfl ((Quiet.cast (Light.quiet (opMove rfl rfl)) (congrArg AV.bool hc9.symm))) ?_
  refine ASL.g (v := (.list 3 (List.map TNode.av p0))) (.bool c9) false rfl (wF _) rfl (fun hG => by have q0 := gN hG; subst q0; exact Light.quiet (opMove rfl rfl)) ?_
  obtain ⟨a11, ha11, hF⟩ := bindE hF
  refine ASL.g (v := (.bool a11)) (.bool c9) false rfl (wF _) rfl (fun hG => by have q0 := gN hG; subst q0; exact (qCall rfl rfl call_16 (impl_LtlOk_ok (whenE ha11)) rfl)) ?_
  refine ASL.g (v := (.bool (!a11))) (.bool c9) false rfl (wF _) rfl (fun hG => by have q0 := gN hG; subst q0; exact Light.quiet (opNot rfl rfl)) ?_
  refine ASL.q (v := (.bool (c9 || (!a11)))) rfl rfl (Light.quiet (opPick (b := c9) rfl rfl (by cases c9 <;> rfl))) ?_
  obtain ⟨c14, hc14, hF⟩ := bndE hF
  refine ASL.q (v := (.bool c14)) rfl rfl ((Quiet.cast (Light.quiet (opMove rfl rfl)) (congrArg AV.bool hc14.symm))) ?_
  refine ASL.g (v := (TWord.av p1)) (.bool c14) false rfl (wF _) rfl (fun hG => by have q0 := gN hG; subst q0; exact Light.quiet (opLoadRA rfl aggA_41 sizeA_41 rfl (nlt rfl) rfl)) ?_
  obtain ⟨a16, ha16, hF⟩ := bindE hF
  refine ASL.g (v := (.bool a16)) (.bool c14) false rfl (wF _) rfl (fun hG => by have q0 := gN hG; subst q0; exact (qCall rfl rfl call_67 (impl_isRight_ok (whenE ha16)) rfl)) ?_
  refine ASL.g (v := (.bool (!a16))) (.bool c14) false rfl (wF _) rfl (fun hG => by have q0 := gN hG; subst q0; exact Light.quiet (opNot rfl rfl)) ?_
  refine ASL.q (v := (.bool (c14 || (!a16)))) rfl rfl (Light.quiet (opPick (b := c14) rfl rfl (by cases c14 <;> rfl))) ?_
  refine ASL.done ?_
  refine AWP.ifB hF rfl (fun hc1 hF => ?_) (fun hc1 hF => ?_)
  · skip
    refine AWP.seqR rfl ?_
    refine ASL.q (v := (.bool false)) rfl rfl (Light.quiet (opAssign rfl rfl)) ?_
    refine ASL.done ?_
    refine AWP.ret ?_
    refine QThen.rt ?_
    obtain rfl := someE hF
    exact QRet.sole (v := (.bool false)) ⟨rfl, trivial⟩ rfl
  · skip
    refine AWP.skip ?_
    refine QThen.nrm ?_
    refine AWP.seqD [(0, false), (1, false), (2, false), (3, false), (4, false), (5, false), (6, false), (7, false), (8, false), (9, false), (10, false), (11, false), (12, false)] mixed (by kernel_rfl) rfl ?_
    refine ARL.q0 (v := (.list 3 (List.map TNode.av p0))) rfl rfl (Light.quiet (opMove rfl rfl)) ?_
    refine ARL.q0 (v := (TWord.av p1)) rfl rfl (Light.quiet (opLoadRA rfl aggA_41 sizeA_41 rfl (nlt rfl) rfl)) ?_
    obtain ⟨a21, ha21, hF⟩ := bindE hF
    refine ARL.q0 (v := (.list 1 (List.map (fun xs : (List Bool) => AV.list 1 (List.map AV.bool xs)) a21))) rfl rfl ((qCall rfl rfl call_68 (PO.list (impl_tableOf_ok ha21)) rfl)) ?_
    refine ARL.q0 (v := (.list 3 (List.map TNode.av p0))) rfl rfl (Light.quiet (opMove rfl rfl)) ?_
    refine ARL.q0 (v := (.int .i64 (p0.length : Int))) rfl rfl (Light.quiet (opLenMap (f := TNode.av) rfl rfl rfl lenT_24 rfl)) ?_
    refine ARL.q0 (v := (.int .i64 (W (((p0.length : Int)) - 1)))) rfl rfl (Light.quiet (opInt rfl rfl rfl rfl)) ?_
    obtain ⟨a25, ha25, hF⟩ := bindE hF
    refine ARL.q0 (v := (.rptr [(.list 1 (List.map AV.bool a25))])) rfl rfl (Light.quiet (kIx (f := (fun xs : (List Bool) => AV.list 1 (List.map AV.bool xs))) ha25 rfl rfl rfl elemA_48 sizeA_56 rfl)) ?_
    refine ARL.q0 (v := (.list 1 (List.map AV.bool a25))) rfl rfl (Light.quiet (opLoadR rfl aggA_56 rfl rfl)) ?_
    refine ARL.q0 (v := (.int .i64 p2)) rfl rfl (Light.quiet (opMove rfl rfl)) ?_
    obtain ⟨a28, ha28, hF⟩ := bindE hF
    refine ARL.q0 (v := (.int .i64 a28)) rfl rfl ((qCall rfl rfl call_69 (impl_Word_placeOf_ok ha28) rfl)) ?_
    obtain ⟨a29, ha29, hF⟩ := bindE hF
    refine ARL.q0 (v := (.rptr [(.bool a29)])) rfl rfl (Light.quiet (kIx (f := AV.bool) ha29 rfl rfl rfl elemA_56 sizeA_4 rfl)) ?_
    refine ARL.q0 (v := (.bool a29)) rfl rfl (Light.quiet (opLoadR rfl aggA_4 rfl rfl)) ?_
    refine ARL.q0 (v := (.bool a29)) rfl rfl (Light.quiet (opAssign rfl rfl)) ?_
    refine ARL.done ?_
    refine AWP.ret ?_
    obtain rfl := someE hF
    exact QRet.sole (v := (.bool a29)) ⟨rfl, trivial⟩ rfl

set_option maxRecDepth 10000 in
theorem impl_LtlTakes_ok {p0 : (List TNode)} {p1 : TWord} {r : Bool} (hF : impl_LtlTakes p0 p1 = some r) : PC Try.prog 29 [(.list 3 (List.map TNode.av p0)), (TWord.av p1)] fun v => v = (.bool r) := by
  refine PC.enter Try.func29 rfl Try.ntmps29 (by simp) ?_
  have hS := Sep.void; unfold impl_LtlTakes at hF
  refine AWP.seqR rfl ?_
  refine ASL.q (v := (.rptr [(.list 1 (List.map (AV.int .i64) p1.stem)), (.list 1 (List.map (AV.int .i64) p1.loop))])) rfl rfl ((qBoxI (v := (TWord.av p1)) rfl rfl rfl rfl)) ?_
  refine ASL.q (v := (.bool false)) rfl rfl (Light.quiet (opAssign rfl rfl)) ?_
  refine ASL.done ?_
  refine AWP.seqR rfl ?_
  refine ASL.q (v := (.list 3 (List.map TNode.av p0))) rfl rfl (Light.quiet (opMove rfl rfl)) ?_
  refine ASL.q (v := (TWord.av p1)) rfl rfl (Light.quiet (opLoadRA rfl aggA_41 sizeA_41 rfl (nlt rfl) rfl)) ?_
  obtain ⟨a7, ha7, hF⟩ := bindE hF
  refine ASL.q (v := (.bool a7)) rfl rfl ((qCall rfl rfl call_25 (impl_LtlAt_ok ha7) rfl)) ?_
  refine ASL.q (v := (.bool a7)) rfl rfl (Light.quiet (opAssign rfl rfl)) ?_
  refine ASL.done ?_
  refine AWP.ret ?_
  obtain rfl := someE hF
  exact QRet.sole (v := (.bool a7)) ⟨rfl, trivial⟩ rfl

set_option maxRecDepth 10000 in
theorem spec_l6Places_ok (p0 : TWord) : PC Try.prog 105 [(TWord.av p0)] fun v => v = (.int .i64 (spec_l6Places p0)) := by
  generalize hF : spec_l6Places p0 = r
  refine PC.enter Try.func105 rfl Try.ntmps105 (by simp) ?_
  have hS := Sep.void; unfold spec_l6Places at hF
  refine AWP.seqR rfl ?_
  refine ASL.q (v := (.rptr [(.list 1 (List.map (AV.int .i64) p0.stem)), (.list 1 (List.map (AV.int .i64) p0.loop))])) rfl rfl ((qBoxI (v := (TWord.av p0)) rfl rfl rfl rfl)) ?_
  refine ASL.q (v := (.int .i64 0)) rfl rfl (Light.quiet (opAssign rfl rfl)) ?_
  refine ASL.done ?_
  refine AWP.seqR rfl ?_
  refine ASL.q (v := (.rptr [(.list 1 (List.map (AV.int .i64) p0.stem)), (.list 1 (List.map (AV.int .i64) p0.loop))])) rfl rfl (Light.quiet (opFieldAddrR rfl fieldA_41_0 rfl rfl)) ?_
  refine ASL.q (v := (.list 1 (List.map (AV.int .i64) p0.stem))) rfl rfl (Light.quiet (opLoadR rfl aggA_32 rfl rfl)) ?_
  refine ASL.q (v := (.int .i64 (p0.stem.length : Int))) rfl rfl (Light.quiet (opLenMap (f := (AV.int .i64)) rfl rfl rfl lenT_32 rfl)) ?_
  refine ASL.q (v := (.rptr [(.list 1 (List.map (AV.int .i64) p0.loop))])) rfl rfl (Light.quiet (opFieldAddrR rfl fieldA_41_1 rfl rfl)) ?_
  refine ASL.q (v := (.list 1 (List.map (AV.int .i64) p0.loop))) rfl rfl (Light.quiet (opLoadR rfl aggA_32 rfl rfl)) ?_
  refine ASL.q (v := (.int .i64 (p0.loop.length : Int))) rfl rfl (Light.quiet (opLenMap (f := (AV.int .i64)) rfl rfl rfl lenT_32 rfl)) ?_
  refine ASL.q (v := (.int .i64 (W (((p0.stem.length : Int)) + ((p0.loop.length : Int)))))) rfl rfl (Light.quiet (opInt rfl rfl rfl rfl)) ?_
  refine ASL.q (v := (.int .i64 (W (((p0.stem.length : Int)) + ((p0.loop.length : Int)))))) rfl rfl (Light.quiet (opAssign rfl rfl)) ?_
  refine ASL.done ?_
  refine AWP.ret ?_
  obtain rfl := hF
  exact QRet.sole (v := (.int .i64 (W (((p0.stem.length : Int)) + ((p0.loop.length : Int)))))) ⟨rfl, trivial⟩ rfl

set_option maxRecDepth 10000 in
theorem spec_l6After_ok (p0 : TWord) (p1 : Int) : PC Try.prog 126 [(TWord.av p0), (.int .i64 p1)] fun v => v = (.int .i64 (spec_l6After p0 p1)) := by
  generalize hF : spec_l6After p0 p1 = r
  refine PC.enter Try.func126 rfl Try.ntmps126 (by simp) ?_
  have hS := Sep.void; unfold spec_l6After at hF
  refine AWP.seqR rfl ?_
  refine ASL.q (v := (.rptr [(.list 1 (List.map (AV.int .i64) p0.stem)), (.list 1 (List.map (AV.int .i64) p0.loop))])) rfl rfl ((qBoxI (v := (TWord.av p0)) rfl rfl rfl rfl)) ?_
  refine ASL.q (v := (.int .i64 0)) rfl rfl (Light.quiet (opAssign rfl rfl)) ?_
  refine ASL.done ?_
  refine AWP.seq ?_
  refine AWP.seqR rfl ?_
  refine ASL.q (v := (.int .i64 p1)) rfl rfl (Light.quiet (opMove rfl rfl)) ?_
  refine ASL.q (v := (.int .i64 (W (p1 + 1)))) rfl rfl (Light.quiet (opInt rfl rfl rfl rfl)) ?_
  refine ASL.q (v := (TWord.av p0)) rfl rfl (Light.quiet (opLoadRA rfl aggA_41 sizeA_41 rfl (nlt rfl) rfl)) ?_
  refine ASL.q (v := (.int .i64 (spec_l6Places p0))) rfl rfl ((qCall rfl rfl call_105 (spec_l6Places_ok p0) rfl)) ?_
  refine ASL.q (v := (.bool (decide (((W (p1 + 1))) = ((spec_l6Places p0)))))) rfl rfl (Light.quiet (opInt rfl rfl rfl rfl)) ?_
  refine ASL.done ?_
  refine AWP.ifP hF rfl (fun hc1 hF => ?_) (fun hc1 hF => ?_)
  · skip
    refine AWP.seqR rfl ?_
    refine ASL.q (v := (.rptr [(.list 1 (List.map (AV.int .i64) p0.stem)), (.list 1 (List.map (AV.int .i64) p0.loop))])) rfl rfl (Light.quiet (opFieldAddrR rfl fieldA_41_0 rfl rfl)) ?_
    refine ASL.q (v := (.list 1 (List.map (AV.int .i64) p0.stem))) rfl rfl (Light.quiet (opLoadR rfl aggA_32 rfl rfl)) ?_
    refine ASL.q (v := (.int .i64 (p0.stem.length : Int))) rfl rfl (Light.quiet (opLenMap (f := (AV.int .i64)) rfl rfl rfl lenT_32 rfl)) ?_
    refine ASL.q (v := (.int .i64 (p0.stem.length : Int))) rfl rfl (Light.quiet (opAssign rfl rfl)) ?_
    refine ASL.done ?_
    refine AWP.ret ?_
    refine QThen.rt ?_
    obtain rfl := hF
    exact QRet.sole (v := (.int .i64 (p0.stem.length : Int))) ⟨rfl, trivial⟩ rfl
  · skip
    refine AWP.skip ?_
    refine QThen.nrm ?_
    refine AWP.seqR rfl ?_
    refine ASL.q (v := (.int .i64 p1)) rfl rfl (Light.quiet (opMove rfl rfl)) ?_
    refine ASL.q (v := (.int .i64 (W (p1 + 1)))) rfl rfl (Light.quiet (opInt rfl rfl rfl rfl)) ?_
    refine ASL.q (v := (.int .i64 (W (p1 + 1)))) rfl rfl (Light.quiet (opAssign rfl rfl)) ?_
    refine ASL.done ?_
    refine AWP.ret ?_
    obtain rfl := hF
    exact QRet.sole (v := (.int .i64 (W (p1 + 1)))) ⟨rfl, trivial⟩ rfl

set_option maxRecDepth 10000 in
theorem spec_l3At_ok {p0 : TWord} {p1 : Int} {r : Int} (hF : spec_l3At p0 p1 = some r) : PC Try.prog 84 [(TWord.av p0), (.int .i64 p1)] fun v => v = (.int .i64 r) := by
  refine PC.enter Try.func84 rfl Try.ntmps84 (by simp) ?_
  have hS := Sep.void; unfold spec_l3At at hF
  refine AWP.seqR rfl ?_
  refine ASL.q (v := (.rptr [(.list 1 (List.map (AV.int .i64) p0.stem)), (.list 1 (List.map (AV.int .i64) p0.loop))])) rfl rfl ((qBoxI (v := (TWord.av p0)) rfl rfl rfl rfl)) ?_
  refine ASL.q (v := (.int .i64 0)) rfl rfl (Light.quiet (opAssign rfl rfl)) ?_
  refine ASL.done ?_
  refine AWP.seq ?_
  refine AWP.seqR rfl ?_
  refine ASL.q (v := (.int .i64 p1)) rfl rfl (Light.quiet (opMove rfl rfl)) ?_
  refine ASL.q (v := (.rptr [(.list 1 (List.map (AV.int .i64) p0.stem)), (.list 1 (List.map (AV.int .i64) p0.loop))])) rfl rfl (Light.quiet (opFieldAddrR rfl fieldA_41_0 rfl rfl)) ?_
  refine ASL.q (v := (.list 1 (List.map (AV.int .i64) p0.stem))) rfl rfl (Light.quiet (opLoadR rfl aggA_32 rfl rfl)) ?_
  refine ASL.q (v := (.int .i64 (p0.stem.length : Int))) rfl rfl (Light.quiet (opLenMap (f := (AV.int .i64)) rfl rfl rfl lenT_32 rfl)) ?_
  refine ASL.q (v := (.bool (decide (p1 < ((p0.stem.length : Int)))))) rfl rfl (Light.quiet (opInt rfl rfl rfl rfl)) ?_
  refine ASL.done ?_
  refine AWP.ifP hF rfl (fun hc1 hF => ?_) (fun hc1 hF => ?_)
  · skip
    refine AWP.seqR rfl ?_
    refine ASL.q (v := (.rptr [(.list 1 (List.map (AV.int .i64) p0.stem)), (.list 1 (List.map (AV.int .i64) p0.loop))])) rfl rfl (Light.quiet (opFieldAddrR rfl fieldA_41_0 rfl rfl)) ?_
    refine ASL.q (v := (.list 1 (List.map (AV.int .i64) p0.stem))) rfl rfl (Light.quiet (opLoadR rfl aggA_32 rfl rfl)) ?_
    refine ASL.q (v := (.int .i64 p1)) rfl rfl (Light.quiet (opMove rfl rfl)) ?_
    obtain ⟨a13, ha13, hF⟩ := bindE hF
    refine ASL.q (v := (.rptr [(.int .i64 a13)])) rfl rfl (Light.quiet (kIx (f := (AV.int .i64)) ha13 rfl rfl rfl elemA_32 sizeA_3 rfl)) ?_
    refine ASL.q (v := (.int .i64 a13)) rfl rfl (Light.quiet (opLoadR rfl aggA_3 rfl rfl)) ?_
    refine ASL.q (v := (.int .i64 a13)) rfl rfl (Light.quiet (opAssign rfl rfl)) ?_
    refine ASL.done ?_
    refine AWP.ret ?_
    refine QThen.rt ?_
    obtain rfl := someE hF
    exact QRet.sole (v := (.int .i64 a13)) ⟨rfl, trivial⟩ rfl
  · skip
    refine AWP.skip ?_
    refine QThen.nrm ?_
    refine AWP.seqD [(0, false), (1, false), (2, false), (3, false), (4, false), (5, false), (6, false), (7, false), (8, false), (9, false), (10, false), (11, false), (12, false), (13, false)] mixed (by kernel_rfl) rfl ?_
    refine ARL.q0 (v := (.rptr [(.list 1 (List.map (AV.int .i64) p0.loop))])) rfl rfl (Light.quiet (opFieldAddrR rfl fieldA_41_1 rfl rfl)) ?_
    refine ARL.q0 (v := (.list 1 (List.map (AV.int .i64) p0.loop))) rfl rfl (Light.quiet (opLoadR rfl aggA_32 rfl rfl)) ?_
    refine ARL.q0 (v := (.int .i64 p1)) rfl rfl (Light.quiet (opMove rfl rfl)) ?_
    refine ARL.q0 (v := (.rptr [(.list 1 (List.map (AV.int .i64) p0.stem)), (.list 1 (List.map (AV.int .i64) p0.loop))])) rfl rfl (Light.quiet (opFieldAddrR rfl fieldA_41_0 rfl rfl)) ?_
    refine ARL.q0 (v := (.list 1 (List.map (AV.int .i64) p0.stem))) rfl rfl (Light.quiet (opLoadR rfl aggA_32 rfl rfl)) ?_
    refine ARL.q0 (v := (.int .i64 (p0.stem.length : Int))) rfl rfl (Light.quiet (opLenMap (f := (AV.int .i64)) rfl rfl rfl lenT_32 rfl)) ?_
    refine ARL.q0 (v := (.int .i64 (W (p1 - ((p0.stem.length : Int)))))) rfl rfl (Light.quiet (opInt rfl rfl rfl rfl)) ?_
    refine ARL.q0 (v := (.rptr [(.list 1 (List.map (AV.int .i64) p0.loop))])) rfl rfl (Light.quiet (opFieldAddrR rfl fieldA_41_1 rfl rfl)) ?_
    refine ARL.q0 (v := (.list 1 (List.map (AV.int .i64) p0.loop))) rfl rfl (Light.quiet (opLoadR rfl aggA_32 rfl rfl)) ?_
    refine ARL.q0 (v := (.int .i64 (p0.loop.length : Int))) rfl rfl (Light.quiet (opLenMap (f := (AV.int .i64)) rfl rfl rfl lenT_32 rfl)) ?_
    obtain ⟨u2, hu2, hF⟩ := bindE hF
    refine ARL.q0 (v := (.int .i64 (Int.tmod ((W (p1 - ((p0.stem.length : Int))))) ((p0.loop.length : Int))))) rfl rfl (Light.quiet (opRem rfl rfl rfl (of_decide_eq_true (chkE hu2)) rfl)) ?_
    obtain ⟨a26, ha26, hF⟩ := bindE hF
    refine ARL.q0 (v := (.rptr [(.int .i64 a26)])) rfl rfl (Light.quiet (kIx (f := (AV.int .i64)) ha26 rfl rfl rfl elemA_32 sizeA_3 rfl)) ?_
    refine ARL.q0 (v := (.int .i64 a26)) rfl rfl (Light.quiet (opLoadR rfl aggA_3 rfl rfl)) ?_
    refine ARL.q0 (v := (.int .i64 a26)) rfl rfl (Light.quiet (opAssign rfl rfl)) ?_
    refine ARL.done ?_
    refine AWP.ret ?_
    obtain rfl := someE hF
    exact QRet.sole (v := (.int .i64 a26)) ⟨rfl, trivial⟩ rfl

end Go.Proofs.Ytjjlkncefgfljaa
