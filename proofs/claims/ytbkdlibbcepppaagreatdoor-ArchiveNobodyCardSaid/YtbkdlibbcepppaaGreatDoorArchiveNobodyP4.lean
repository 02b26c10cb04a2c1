/- A part of a proof: what functions of the program compute, and plain facts on that. -/
import Derived.Test.YtbkdlibbcepppaaGreatDoorArchiveNobodyP3
import Derived.KernelRfl
import Derived.Test.YtbkdlibbcepppaaGreatDoorProg
set_option linter.unusedVariables false
set_option linter.unusedSectionVars false
set_option linter.unusedSimpArgs false
namespace Go.Proofs
open Go Go.Vx Go.RowKit Go.Ce
namespace Ct
set_option maxRecDepth 1000000
section
variable [Tok]
theorem Eqa_36 : Eqa Tryz.prog 2 36 [5, 5, 5, 5, 5, 5, 5, 5, 5, 5, 5, 5, 5, 5, 5, 5] := Eqa_arr (n := 16) Tryz.underlying36 (info_of Tryz.type34) (by kernel_rfl) ⟨Tryz.sizeOf34, Tryz.isAgg34⟩ Tryz.runUnderlying34
theorem Eqa_52 : Eqa Tryz.prog 2 52 [1, 5] := by
  refine Eqa_struct (D := 1) Tryz.underlying52 (by kernel_rfl) ?_
  refine FsS.more (sh := [1]) (sh' := [5]) ((Eqp_int ⟨Tryz.sizeOf5, Tryz.isAgg5⟩ Tryz.runUnderlying5).up (D' := 1) (by decide)) rfl rfl (by decide) ?_
  refine FsS.more (sh := [5]) (sh' := []) ((Eqp_int ⟨Tryz.sizeOf34, Tryz.isAgg34⟩ Tryz.runUnderlying34).up (D' := 1) (by decide)) rfl rfl (by decide) ?_
  exact .nil
theorem Eqa_54 : Eqa Tryz.prog 3 54 [1, 5, 1, 3, 3, 3, 5, 5, 5, 5, 5, 5, 5, 5, 5, 5, 5, 5, 5, 5, 5, 5, 5] := by
  refine Eqa_struct (D := 2) Tryz.underlying54 (by kernel_rfl) ?_
  refine FsS.more (sh := [1, 5]) (sh' := [1, 3, 3, 3, 5, 5, 5, 5, 5, 5, 5, 5, 5, 5, 5, 5, 5, 5, 5, 5, 5]) ((Eqp_agg (show TA Tryz.prog 52 (List.length [1, 5]) from ⟨Tryz.sizeOf52, Tryz.isAgg52⟩) Eqa_52).up (D' := 2) (by decide)) rfl rfl (by decide) ?_
  refine FsS.more (sh := [1]) (sh' := [3, 3, 3, 5, 5, 5, 5, 5, 5, 5, 5, 5, 5, 5, 5, 5, 5, 5, 5, 5]) ((Eqp_int ⟨Tryz.sizeOf5, Tryz.isAgg5⟩ Tryz.runUnderlying5).up (D' := 2) (by decide)) rfl rfl (by decide) ?_
  refine FsS.more (sh := [3]) (sh' := [3, 3, 5, 5, 5, 5, 5, 5, 5, 5, 5, 5, 5, 5, 5, 5, 5, 5, 5]) ((Eqp_int ⟨Tryz.sizeOf23, Tryz.isAgg23⟩ Tryz.runUnderlying23).up (D' := 2) (by decide)) rfl rfl (by decide) ?_
  refine FsS.more (sh := [3]) (sh' := [3, 5, 5, 5, 5, 5, 5, 5, 5, 5, 5, 5, 5, 5, 5, 5, 5, 5]) ((Eqp_int ⟨Tryz.sizeOf23, Tryz.isAgg23⟩ Tryz.runUnderlying23).up (D' := 2) (by decide)) rfl rfl (by decide) ?_
  refine FsS.more (sh := [3]) (sh' := [5, 5, 5, 5, 5, 5, 5, 5, 5, 5, 5, 5, 5, 5, 5, 5, 5]) ((Eqp_int ⟨Tryz.sizeOf23, Tryz.isAgg23⟩ Tryz.runUnderlying23).up (D' := 2) (by decide)) rfl rfl (by decide) ?_
  refine FsS.more (sh := [5]) (sh' := [5, 5, 5, 5, 5, 5, 5, 5, 5, 5, 5, 5, 5, 5, 5, 5]) ((Eqp_int ⟨Tryz.sizeOf34, Tryz.isAgg34⟩ Tryz.runUnderlying34).up (D' := 2) (by decide)) rfl rfl (by decide) ?_
  refine FsS.more (sh := [5, 5, 5, 5, 5, 5, 5, 5, 5, 5, 5, 5, 5, 5, 5, 5]) (sh' := []) ((Eqp_agg (show TA Tryz.prog 36 (List.length [5, 5, 5, 5, 5, 5, 5, 5, 5, 5, 5, 5, 5, 5, 5, 5]) from ⟨Tryz.sizeOf36, Tryz.isAgg36⟩) Eqa_36).up (D' := 2) (by decide)) rfl rfl (by decide) ?_
  exact .nil
theorem Eqa_152 : Eqa Tryz.prog 3 152 [3, 1, 5] := by
  refine Eqa_struct (D := 2) Tryz.underlying152 (by kernel_rfl) ?_
  refine FsS.more (sh := [3]) (sh' := [1, 5]) ((Eqp_int ⟨Tryz.sizeOf23, Tryz.isAgg23⟩ Tryz.runUnderlying23).up (D' := 2) (by decide)) rfl rfl (by decide) ?_
  refine FsS.more (sh := [1, 5]) (sh' := []) ((Eqp_agg (show TA Tryz.prog 52 (List.length [1, 5]) from ⟨Tryz.sizeOf52, Tryz.isAgg52⟩) Eqa_52).up (D' := 2) (by decide)) rfl rfl (by decide) ?_
  exact .nil
theorem Eqa_217 : Eqa Tryz.prog 2 217 [1, 1, 1, 1] := Eqa_arr (n := 4) Tryz.underlying217 (info_of Tryz.type5) (by kernel_rfl) ⟨Tryz.sizeOf5, Tryz.isAgg5⟩ Tryz.runUnderlying5
theorem Eqa_229 : Eqa Tryz.prog 3 229 [3, 3, 3, 1, 1, 5, 7] := by
  refine Eqa_struct (D := 2) Tryz.underlying229 (by kernel_rfl) ?_
  refine FsS.more (sh := [3]) (sh' := [3, 3, 1, 1, 5, 7]) ((Eqp_int ⟨Tryz.sizeOf23, Tryz.isAgg23⟩ Tryz.runUnderlying23).up (D' := 2) (by decide)) rfl rfl (by decide) ?_
  refine FsS.more (sh := [3]) (sh' := [3, 1, 1, 5, 7]) ((Eqp_int ⟨Tryz.sizeOf23, Tryz.isAgg23⟩ Tryz.runUnderlying23).up (D' := 2) (by decide)) rfl rfl (by decide) ?_
  refine FsS.more (sh := [3]) (sh' := [1, 1, 5, 7]) ((Eqp_int ⟨Tryz.sizeOf23, Tryz.isAgg23⟩ Tryz.runUnderlying23).up (D' := 2) (by decide)) rfl rfl (by decide) ?_
  refine FsS.more (sh := [1]) (sh' := [1, 5, 7]) ((Eqp_int ⟨Tryz.sizeOf5, Tryz.isAgg5⟩ Tryz.runUnderlying5).up (D' := 2) (by decide)) rfl rfl (by decide) ?_
  refine FsS.more (sh := [1, 5]) (sh' := [7]) ((Eqp_agg (show TA Tryz.prog 52 (List.length [1, 5]) from ⟨Tryz.sizeOf52, Tryz.isAgg52⟩) Eqa_52).up (D' := 2) (by decide)) rfl rfl (by decide) ?_
  refine FsS.more (sh := [7]) (sh' := []) ((Eqp_int ⟨Tryz.sizeOf65, Tryz.isAgg65⟩ Tryz.runUnderlying65).up (D' := 2) (by decide)) rfl rfl (by decide) ?_
  exact .nil
theorem Eqa_240 : Eqa Tryz.prog 3 240 [3, 3, 3, 1, 1, 5, 7] := by
  refine Eqa_struct (D := 2) Tryz.underlying240 (by kernel_rfl) ?_
  refine FsS.more (sh := [3]) (sh' := [3, 3, 1, 1, 5, 7]) ((Eqp_int ⟨Tryz.sizeOf23, Tryz.isAgg23⟩ Tryz.runUnderlying23).up (D' := 2) (by decide)) rfl rfl (by decide) ?_
  refine FsS.more (sh := [3]) (sh' := [3, 1, 1, 5, 7]) ((Eqp_int ⟨Tryz.sizeOf23, Tryz.isAgg23⟩ Tryz.runUnderlying23).up (D' := 2) (by decide)) rfl rfl (by decide) ?_
  refine FsS.more (sh := [3]) (sh' := [1, 1, 5, 7]) ((Eqp_int ⟨Tryz.sizeOf23, Tryz.isAgg23⟩ Tryz.runUnderlying23).up (D' := 2) (by decide)) rfl rfl (by decide) ?_
  refine FsS.more (sh := [1]) (sh' := [1, 5, 7]) ((Eqp_int ⟨Tryz.sizeOf5, Tryz.isAgg5⟩ Tryz.runUnderlying5).up (D' := 2) (by decide)) rfl rfl (by decide) ?_
  refine FsS.more (sh := [1, 5]) (sh' := [7]) ((Eqp_agg (show TA Tryz.prog 52 (List.length [1, 5]) from ⟨Tryz.sizeOf52, Tryz.isAgg52⟩) Eqa_52).up (D' := 2) (by decide)) rfl rfl (by decide) ?_
  refine FsS.more (sh := [7]) (sh' := []) ((Eqp_int ⟨Tryz.sizeOf65, Tryz.isAgg65⟩ Tryz.runUnderlying65).up (D' := 2) (by decide)) rfl rfl (by decide) ?_
  exact .nil
theorem Eqa_241 : Eqa Tryz.prog 2 241 [3, 5] := by
  refine Eqa_struct (D := 1) Tryz.underlying241 (by kernel_rfl) ?_
  refine FsS.more (sh := [3]) (sh' := [5]) ((Eqp_int ⟨Tryz.sizeOf23, Tryz.isAgg23⟩ Tryz.runUnderlying23).up (D' := 1) (by decide)) rfl rfl (by decide) ?_
  refine FsS.more (sh := [5]) (sh' := []) ((Eqp_int ⟨Tryz.sizeOf34, Tryz.isAgg34⟩ Tryz.runUnderlying34).up (D' := 1) (by decide)) rfl rfl (by decide) ?_
  exact .nil
end
def eqsL : List (Nat × List Nat) := [(36, [5, 5, 5, 5, 5, 5, 5, 5, 5, 5, 5, 5, 5, 5, 5, 5]), (52, [1, 5]), (54, [1, 5, 1, 3, 3, 3, 5, 5, 5, 5, 5, 5, 5, 5, 5, 5, 5, 5, 5, 5, 5, 5, 5]), (152, [3, 1, 5]), (217, [1, 1, 1, 1]), (229, [3, 3, 3, 1, 1, 5, 7]), (240, [3, 3, 3, 1, 1, 5, 7]), (241, [3, 5])]
theorem tabOk : TabOk Tryz.prog eqsL := by
  refine tab_ok (fc := 196) (fnc := Tryz.f196) (fun e he => ?_) (by kernel_rfl) (by kernel_rfl) Tryz.func196 (by kernel_rfl) (by kernel_rfl) (by kernel_rfl) (by kernel_rfl) (by kernel_rfl)
  simp only [eqsL, List.mem_cons, List.not_mem_nil, or_false] at he
  intro _
  rcases he with rfl | rfl | rfl | rfl | rfl | rfl | rfl | rfl
  · exact eqsOk_of (by kernel_rfl) Eqa_36 (by rfl)
  · exact eqsOk_of (by kernel_rfl) Eqa_52 (by rfl)
  · exact eqsOk_of (by kernel_rfl) Eqa_54 (by rfl)
  · exact eqsOk_of (by kernel_rfl) Eqa_152 (by rfl)
  · exact eqsOk_of (by kernel_rfl) Eqa_217 (by rfl)
  · exact eqsOk_of (by kernel_rfl) Eqa_229 (by rfl)
  · exact eqsOk_of (by kernel_rfl) Eqa_240 (by rfl)
  · exact eqsOk_of (by kernel_rfl) Eqa_241 (by rfl)
noncomputable def cfg : Cfg := cfgOf Tryz.prog.types.toList Tryz.prog.funcs.toList eqsL
theorem cfgOk [Tok] : CfgOk cfg Tryz.prog := cfg_ok tabOk (fun _ _ _ _ _ h => by cases h) (fun _ _ h => by cases h)
def half : List Nat := [0, 498536548, 997073096, 651767980, 1994146192, 1802195444, 1303535960, 1342533948, 3988292384, 4027552580, 3604390888, 3412177804, 2607071920, 2262029012, 2685067896, 3183342108]
end Ct
end Go.Proofs
