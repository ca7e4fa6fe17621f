/- Each of these functions of the program comes to just what its plain function says: FnExactAutoLive. -/
import Derived.Test.YthdclobnmicdaaaDAutoLive
import Derived.Test.YthdclobnmicdaaaFa
import Derived.Test.YthdclobnmicdaaaKAutoEmpty
namespace Go.Proofs.Ythdclobnmicdaaa
open Go Go.RowKit E
set_option linter.unusedVariables false
set_option maxRecDepth 10000 in
theorem impl_AutoLive_ok {p0 : TAuto} {r : Int} (hF : impl_AutoLive p0 = some r) : PC Try.prog 16 [(TAuto.av p0)] fun v => v = (.int .i64 r) := by
  refine PC.enter Try.func16 rfl Try.ntmps16 (by simp) ?_
  have hS := Sep.void; unfold impl_AutoLive at hF
  refine AWP.seqR rfl ?_
  refine ASL.q (v := (.rptr [(.int .i64 p0.letters), (.int .i64 p0.states), (.int .i64 p0.start), (.list 4 (List.map TEdge.av p0.edges))])) rfl rfl ((qBoxI (v := (TAuto.av p0)) rfl rfl rfl rfl)) ?_
  refine ASL.q (v := (.int .i64 0)) rfl rfl (Light.quiet (opAssign rfl rfl)) ?_
  refine ASL.done ?_
  refine AWP.seq ?_
  refine AWP.seqR rfl ?_
  refine ASL.q (v := (TAuto.av p0)) rfl rfl (Light.quiet (opLoadRA rfl aggA_29 sizeA_29 rfl (nlt rfl) rfl)) ?_
  obtain ⟨a4, ha4, hF⟩ := bindE hF
  refine ASL.q (v := (.bool a4)) rfl rfl ((qCall rfl rfl call_43 (impl_AutoOk_ok ha4) rfl)) ?_
  refine ASL.q (v := (.bool (!a4))) rfl rfl (Light.quiet (opNot rfl rfl)) ?_
  refine ASL.done ?_
  refine AWP.ifB hF rfl (fun hc1 hF => ?_) (fun hc1 hF => ?_)
  · skip
    refine AWP.seqR rfl ?_
    refine ASL.q (v := (.int .i64 0)) rfl rfl (Light.quiet (opAssign rfl rfl)) ?_
    refine ASL.done ?_
    refine AWP.ret ?_
    refine QThen.rt ?_
    obtain rfl := someE hF
    exact QRet.sole (v := (.int .i64 0)) ⟨rfl, trivial⟩ rfl
  · skip
    refine AWP.skip ?_
    refine QThen.nrm ?_
    refine AWP.seqR rfl ?_
    obtain ⟨a6, ha6, hF⟩ := bindE hF
    refine ASL.q (v := (.int .i64 a6)) rfl rfl ((qCall rfl rfl call_44 (impl_Auto_live_ok ha6) rfl)) ?_
    refine ASL.q (v := (.int .i64 a6)) rfl rfl (Light.quiet (opAssign rfl rfl)) ?_
    refine ASL.done ?_
    refine AWP.ret ?_
    obtain rfl := someE hF
    exact QRet.sole (v := (.int .i64 a6)) ⟨rfl, trivial⟩ rfl

set_option maxRecDepth 10000 in
theorem laws_FnExactAutoLive_ok {p0 : TAuto} {r : Bool} (hF : laws_FnExactAutoLive p0 = some r) : PC Try.prog 4 [(TAuto.av p0)] fun v => v = (.bool r) := by
  refine PC.enter Try.func4 rfl Try.ntmps4 (by simp) ?_
  have hS := Sep.void; unfold laws_FnExactAutoLive at hF
  refine AWP.seqR rfl ?_
  refine ASL.q (v := (.rptr [(.int .i64 p0.letters), (.int .i64 p0.states), (.int .i64 p0.start), (.list 4 (List.map TEdge.av p0.edges))])) rfl rfl ((qBoxI (v := (TAuto.av p0)) rfl rfl rfl rfl)) ?_
  refine ASL.q (v := (.bool false)) rfl rfl (Light.quiet (opAssign rfl rfl)) ?_
  refine ASL.done ?_
  refine AWP.seqR rfl ?_
  refine ASL.q (v := (.int .i64 1048576)) rfl rfl (Light.quiet (opAssign rfl rfl)) ?_
  refine ASL.done ?_
  refine AWP.seqR rfl ?_
  refine ASL.q (v := (TAuto.av p0)) rfl rfl (Light.quiet (opLoadRA rfl aggA_24 sizeA_24 rfl (nlt rfl) rfl)) ?_
  refine ASL.q (v := (.int .i64 1048576)) rfl rfl (Light.quiet (opMove rfl rfl)) ?_
  refine ASL.q (v := (.int .i64 (laws_szAuto p0 1048576))) rfl rfl ((qCall rfl rfl call_10 (laws_szAuto_ok p0 1048576) rfl)) ?_
  refine ASL.q (v := (.int .i64 (laws_szAuto p0 1048576))) rfl rfl (Light.quiet (opAssign rfl rfl)) ?_
  refine ASL.done ?_
  refine AWP.seq ?_
  refine AWP.seqR rfl ?_
  refine ASL.q (v := (.int .i64 (laws_szAuto p0 1048576))) rfl rfl (Light.quiet (opMove rfl rfl)) ?_
  refine ASL.q (v := (.bool (decide (((laws_szAuto p0 1048576)) < 0)))) rfl rfl (Light.quiet (opInt rfl rfl rfl rfl)) ?_
  refine ASL.done ?_
  refine AWP.ifP hF rfl (fun hc1 hF => ?_) (fun hc1 hF => ?_)
  · skip
    refine AWP.seqR rfl ?_
    refine ASL.q (v := (.bool true)) rfl rfl (Light.quiet (opAssign rfl rfl)) ?_
    refine ASL.done ?_
    refine AWP.ret ?_
    refine QThen.rt ?_
    obtain rfl := someE hF
    exact QRet.sole (v := (.bool true)) ⟨rfl, trivial⟩ rfl
  · skip
    refine AWP.skip ?_
    refine QThen.nrm ?_
    refine AWP.seqR rfl ?_
    refine ASL.q (v := (TAuto.av p0)) rfl rfl (Light.quiet (opLoadRA rfl aggA_24 sizeA_24 rfl (nlt rfl) rfl)) ?_
    obtain ⟨a13, ha13, hF⟩ := bindE hF
    refine ASL.q (v := (TAuto.av a13)) rfl rfl ((qCall rfl rfl call_12 (laws_toAuto_ok ha13) rfl)) ?_
    obtain ⟨a14, ha14, hF⟩ := bindE hF
    refine ASL.q (v := (.int .i64 a14)) rfl rfl ((qCall rfl rfl call_15 (spec_AutoLive_ok ha14) rfl)) ?_
    refine ASL.q (v := (.int .i64 a14)) rfl rfl (Light.quiet (opAssign rfl rfl)) ?_
    refine ASL.done ?_
    refine AWP.seqR rfl ?_
    refine ASL.q (v := (TAuto.av p0)) rfl rfl (Light.quiet (opLoadRA rfl aggA_24 sizeA_24 rfl (nlt rfl) rfl)) ?_
    obtain ⟨a16, ha16, hF⟩ := bindE hF
    refine ASL.q (v := (TAuto.av a16)) rfl rfl ((qCall rfl rfl call_12 (laws_toAuto_ok ha16) rfl)) ?_
    refine ASL.x rfl rfl (hNewZ hS [(.int .i64 0), (.int .i64 0), (.int .i64 0), (.list 4 (List.map TEdge.av []))] rfl zeroA_29 ⟨.inl rfl, .inl rfl, .inl rfl, .inr ⟨_, rfl, rfl⟩, trivial⟩ ?_); rintro b5 G2 hK hS
    refine ASL.n rfl rfl (hPutA hS (j := 0) rfl rfl sizeA_29 rfl rfl rfl rfl rfl (nlt rfl) ?_); rintro G4 hS
    refine ASL.done ?_
    refine AWP.seqR rfl ?_
    refine ASL.q (v := (TAuto.av a16)) rfl rfl (Light.quiet (kAtA hS (j := 0) rfl rfl aggA_29 sizeA_29 rfl (nlt rfl) rfl)) ?_
    obtain ⟨a18, ha18, hF⟩ := bindE hF
    refine ASL.q (v := (.int .i64 a18)) rfl rfl ((qCall rfl rfl call_16 (impl_AutoLive_ok ha18) rfl)) ?_
    refine ASL.q (v := (.int .i64 a18)) rfl rfl (Light.quiet (opAssign rfl rfl)) ?_
    refine ASL.done ?_
    refine AWP.seq ?_
    refine AWP.seqR rfl ?_
    refine ASL.q (v := (.int .i64 a18)) rfl rfl (Light.quiet (opMove rfl rfl)) ?_
    refine ASL.q (v := (.int .i64 a14)) rfl rfl (Light.quiet (opMove rfl rfl)) ?_
    refine ASL.q (v := (.bool (decide (a18 ≠ a14)))) rfl rfl (Light.quiet (opInt rfl rfl rfl rfl)) ?_
    refine ASL.done ?_
    refine AWP.ifP hF rfl (fun hc5 hF => ?_) (fun hc5 hF => ?_)
    · skip
      refine AWP.seqR rfl ?_
      refine ASL.q (v := (.bool false)) rfl rfl (Light.quiet (opAssign rfl rfl)) ?_
      refine ASL.done ?_
      refine AWP.ret ?_
      refine QThen.rt ?_
      obtain rfl := someE hF
      exact QRet.sole (v := (.bool false)) ⟨rfl, trivial⟩ rfl
    · skip
      refine AWP.skip ?_
      refine QThen.nrm ?_
      refine AWP.seq ?_
      refine AWP.seqD [(0, false), (1, false), (2, false), (3, false), (4, false)] mixed (by kernel_rfl) rfl ?_
      refine ARL.q (v := (TAuto.av a16)) rfl rfl (hS.aliveC (k := 0) rfl) (Light.quiet (kAtA hS (j := 0) rfl rfl aggA_29 sizeA_29 rfl (nlt rfl) rfl)) ?_
      refine ARL.q0 (v := (TAuto.av p0)) rfl rfl (Light.quiet (opLoadRA rfl aggA_24 sizeA_24 rfl (nlt rfl) rfl)) ?_
      obtain ⟨a24, ha24, hF⟩ := bindE hF
      refine ARL.q0 (v := (TAuto.av a24)) rfl rfl ((qCall rfl rfl call_12 (laws_toAuto_ok ha24) rfl)) ?_
      obtain ⟨a25, ha25, hF⟩ := bindE hF
      refine ARL.q0 (v := (.bool a25)) rfl rfl ((qCall rfl rfl call_14 (laws_eqAuto_ok ha25) rfl)) ?_
      refine ARL.q0 (v := (.bool (!a25))) rfl rfl (Light.quiet (opNot rfl rfl)) ?_
      refine ARL.done ?_
      refine AWP.ifB hF rfl (fun hc6 hF => ?_) (fun hc6 hF => ?_)
      · skip
        refine AWP.seqR rfl ?_
        refine ASL.q (v := (.bool false)) rfl rfl (Light.quiet (opAssign rfl rfl)) ?_
        refine ASL.done ?_
        refine AWP.ret ?_
        refine QThen.rt ?_
        obtain rfl := someE hF
        exact QRet.sole (v := (.bool false)) ⟨rfl, trivial⟩ rfl
      · skip
        refine AWP.skip ?_
        refine QThen.nrm ?_
        refine AWP.seqR rfl ?_
        refine ASL.q (v := (.bool true)) rfl rfl (Light.quiet (opAssign rfl rfl)) ?_
        refine ASL.done ?_
        refine AWP.ret ?_
        obtain rfl := someE hF
        exact QRet.sole (v := (.bool true)) ⟨rfl, trivial⟩ rfl

end Go.Proofs.Ythdclobnmicdaaa
