/- A part of a proof: what functions of the program compute, and plain facts on that. -/
import Derived.Test.YthejeobcehpdcaaGreatDoorScriptDecodesP3
import Derived.KernelRfl
import Derived.Test.YthejeobcehpdcaaGreatDoorProg
set_option linter.unusedVariables false
set_option linter.unusedSectionVars false
set_option linter.unusedSimpArgs false
namespace Go.Proofs
open Go Go.Vx Go.RowKit Go.Ce
namespace Ct
set_option maxRecDepth 1000000
section
variable [Tok]
theorem Eqa_35 : Eqa Tryz.prog 2 35 [5, 5, 5, 5, 5, 5, 5, 5, 5, 5, 5, 5, 5, 5, 5, 5] := Eqa_arr (n := 16) Tryz.underlying35 (info_of Tryz.type31) (by kernel_rfl) ⟨Tryz.sizeOf31, Tryz.isAgg31⟩ Tryz.runUnderlying31
theorem Eqa_33 : Eqa Tryz.prog 2 33 [1, 5] := by
  refine Eqa_struct (D := 1) Tryz.underlying33 (by kernel_rfl) ?_
  refine FsS.more (sh := [1]) (sh' := [5]) ((Eqp_int ⟨Tryz.sizeOf5, Tryz.isAgg5⟩ Tryz.runUnderlying5).up (D' := 1) (by decide)) rfl rfl (by decide) ?_
  refine FsS.more (sh := [5]) (sh' := []) ((Eqp_int ⟨Tryz.sizeOf31, Tryz.isAgg31⟩ Tryz.runUnderlying31).up (D' := 1) (by decide)) rfl rfl (by decide) ?_
  exact .nil
theorem Eqa_37 : Eqa Tryz.prog 3 37 [1, 5, 1, 3, 3, 3, 5, 5, 5, 5, 5, 5, 5, 5, 5, 5, 5, 5, 5, 5, 5, 5, 5] := by
  refine Eqa_struct (D := 2) Tryz.underlying37 (by kernel_rfl) ?_
  refine FsS.more (sh := [1, 5]) (sh' := [1, 3, 3, 3, 5, 5, 5, 5, 5, 5, 5, 5, 5, 5, 5, 5, 5, 5, 5, 5, 5]) ((Eqp_agg (show TA Tryz.prog 33 (List.length [1, 5]) from ⟨Tryz.sizeOf33, Tryz.isAgg33⟩) Eqa_33).up (D' := 2) (by decide)) rfl rfl (by decide) ?_
  refine FsS.more (sh := [1]) (sh' := [3, 3, 3, 5, 5, 5, 5, 5, 5, 5, 5, 5, 5, 5, 5, 5, 5, 5, 5, 5]) ((Eqp_int ⟨Tryz.sizeOf5, Tryz.isAgg5⟩ Tryz.runUnderlying5).up (D' := 2) (by decide)) rfl rfl (by decide) ?_
  refine FsS.more (sh := [3]) (sh' := [3, 3, 5, 5, 5, 5, 5, 5, 5, 5, 5, 5, 5, 5, 5, 5, 5, 5, 5]) ((Eqp_int ⟨Tryz.sizeOf30, Tryz.isAgg30⟩ Tryz.runUnderlying30).up (D' := 2) (by decide)) rfl rfl (by decide) ?_
  refine FsS.more (sh := [3]) (sh' := [3, 5, 5, 5, 5, 5, 5, 5, 5, 5, 5, 5, 5, 5, 5, 5, 5, 5]) ((Eqp_int ⟨Tryz.sizeOf30, Tryz.isAgg30⟩ Tryz.runUnderlying30).up (D' := 2) (by decide)) rfl rfl (by decide) ?_
  refine FsS.more (sh := [3]) (sh' := [5, 5, 5, 5, 5, 5, 5, 5, 5, 5, 5, 5, 5, 5, 5, 5, 5]) ((Eqp_int ⟨Tryz.sizeOf30, Tryz.isAgg30⟩ Tryz.runUnderlying30).up (D' := 2) (by decide)) rfl rfl (by decide) ?_
  refine FsS.more (sh := [5]) (sh' := [5, 5, 5, 5, 5, 5, 5, 5, 5, 5, 5, 5, 5, 5, 5, 5]) ((Eqp_int ⟨Tryz.sizeOf31, Tryz.isAgg31⟩ Tryz.runUnderlying31).up (D' := 2) (by decide)) rfl rfl (by decide) ?_
  refine FsS.more (sh := [5, 5, 5, 5, 5, 5, 5, 5, 5, 5, 5, 5, 5, 5, 5, 5]) (sh' := []) ((Eqp_agg (show TA Tryz.prog 35 (List.length [5, 5, 5, 5, 5, 5, 5, 5, 5, 5, 5, 5, 5, 5, 5, 5]) from ⟨Tryz.sizeOf35, Tryz.isAgg35⟩) Eqa_35).up (D' := 2) (by decide)) rfl rfl (by decide) ?_
  exact .nil
theorem Eqa_140 : Eqa Tryz.prog 3 140 [3, 3, 3, 1, 1, 5, 7] := by
  refine Eqa_struct (D := 2) Tryz.underlying140 (by kernel_rfl) ?_
  refine FsS.more (sh := [3]) (sh' := [3, 3, 1, 1, 5, 7]) ((Eqp_int ⟨Tryz.sizeOf30, Tryz.isAgg30⟩ Tryz.runUnderlying30).up (D' := 2) (by decide)) rfl rfl (by decide) ?_
  refine FsS.more (sh := [3]) (sh' := [3, 1, 1, 5, 7]) ((Eqp_int ⟨Tryz.sizeOf30, Tryz.isAgg30⟩ Tryz.runUnderlying30).up (D' := 2) (by decide)) rfl rfl (by decide) ?_
  refine FsS.more (sh := [3]) (sh' := [1, 1, 5, 7]) ((Eqp_int ⟨Tryz.sizeOf30, Tryz.isAgg30⟩ Tryz.runUnderlying30).up (D' := 2) (by decide)) rfl rfl (by decide) ?_
  refine FsS.more (sh := [1]) (sh' := [1, 5, 7]) ((Eqp_int ⟨Tryz.sizeOf5, Tryz.isAgg5⟩ Tryz.runUnderlying5).up (D' := 2) (by decide)) rfl rfl (by decide) ?_
  refine FsS.more (sh := [1, 5]) (sh' := [7]) ((Eqp_agg (show TA Tryz.prog 33 (List.length [1, 5]) from ⟨Tryz.sizeOf33, Tryz.isAgg33⟩) Eqa_33).up (D' := 2) (by decide)) rfl rfl (by decide) ?_
  refine FsS.more (sh := [7]) (sh' := []) ((Eqp_int ⟨Tryz.sizeOf118, Tryz.isAgg118⟩ Tryz.runUnderlying118).up (D' := 2) (by decide)) rfl rfl (by decide) ?_
  exact .nil
theorem Eqa_262 : Eqa Tryz.prog 3 262 [3, 1, 5] := by
  refine Eqa_struct (D := 2) Tryz.underlying262 (by kernel_rfl) ?_
  refine FsS.more (sh := [3]) (sh' := [1, 5]) ((Eqp_int ⟨Tryz.sizeOf30, Tryz.isAgg30⟩ Tryz.runUnderlying30).up (D' := 2) (by decide)) rfl rfl (by decide) ?_
  refine FsS.more (sh := [1, 5]) (sh' := []) ((Eqp_agg (show TA Tryz.prog 33 (List.length [1, 5]) from ⟨Tryz.sizeOf33, Tryz.isAgg33⟩) Eqa_33).up (D' := 2) (by decide)) rfl rfl (by decide) ?_
  exact .nil
theorem Eqa_302 : Eqa Tryz.prog 2 302 [1, 1] := by
  refine Eqa_struct (D := 1) Tryz.underlying302 (by kernel_rfl) ?_
  refine FsS.more (sh := [1]) (sh' := [1]) ((Eqp_int ⟨Tryz.sizeOf5, Tryz.isAgg5⟩ Tryz.runUnderlying5).up (D' := 1) (by decide)) rfl rfl (by decide) ?_
  refine FsS.more (sh := [1]) (sh' := []) ((Eqp_int ⟨Tryz.sizeOf5, Tryz.isAgg5⟩ Tryz.runUnderlying5).up (D' := 1) (by decide)) rfl rfl (by decide) ?_
  exact .nil
theorem Eqa_318 : Eqa Tryz.prog 2 318 [1, 1, 1, 1] := Eqa_arr (n := 4) Tryz.underlying318 (info_of Tryz.type5) (by kernel_rfl) ⟨Tryz.sizeOf5, Tryz.isAgg5⟩ Tryz.runUnderlying5
end
def eqsL : List (Nat × List Nat) := [(35, [5, 5, 5, 5, 5, 5, 5, 5, 5, 5, 5, 5, 5, 5, 5, 5]), (37, [1, 5, 1, 3, 3, 3, 5, 5, 5, 5, 5, 5, 5, 5, 5, 5, 5, 5, 5, 5, 5, 5, 5]), (140, [3, 3, 3, 1, 1, 5, 7]), (262, [3, 1, 5]), (302, [1, 1]), (318, [1, 1, 1, 1])]
theorem tabOk : TabOk Tryz.prog eqsL := by
  refine tab_ok (fc := 286) (fnc := Tryz.f286) (fun e he => ?_) (by kernel_rfl) (by kernel_rfl) Tryz.func286 (by kernel_rfl) (by kernel_rfl) (by kernel_rfl) (by kernel_rfl) (by kernel_rfl)
  simp only [eqsL, List.mem_cons, List.not_mem_nil, or_false] at he
  intro _
  rcases he with rfl | rfl | rfl | rfl | rfl | rfl
  · exact eqsOk_of (by kernel_rfl) Eqa_35 (by rfl)
  · exact eqsOk_of (by kernel_rfl) Eqa_37 (by rfl)
  · exact eqsOk_of (by kernel_rfl) Eqa_140 (by rfl)
  · exact eqsOk_of (by kernel_rfl) Eqa_262 (by rfl)
  · exact eqsOk_of (by kernel_rfl) Eqa_302 (by rfl)
  · exact eqsOk_of (by kernel_rfl) Eqa_318 (by rfl)
set_option maxRecDepth 20000 in
theorem EqDot (a b : Dot) : EqF Tryz.prog 2 33 (.agg (dc a).toArray) (.agg (dc b).toArray) (decide (a = b)) := by
  rw [← dec_dot]
  exact EqF_struct Tryz.underlying33 Tryz.stoodInHeld33 (.cons (by decide) (PartF_one ⟨Tryz.sizeOf5, Tryz.isAgg5⟩ rfl) (PartF_one ⟨Tryz.sizeOf5, Tryz.isAgg5⟩ rfl) (EqF_int Tryz.runUnderlying5) (.cons (by decide) (PartF_one ⟨Tryz.sizeOf31, Tryz.isAgg31⟩ rfl) (PartF_one ⟨Tryz.sizeOf31, Tryz.isAgg31⟩ rfl) (EqF_int Tryz.runUnderlying31) .nil))
set_option maxRecDepth 20000 in
theorem KoDot : KeyOk Tryz.prog 33 dv := KeyOk_dot Tryz.underlying33 (by decide) (by decide) rfl rfl ⟨Tryz.sizeOf5, Tryz.isAgg5⟩ ⟨Tryz.sizeOf31, Tryz.isAgg31⟩ Tryz.runUnderlying5 Tryz.runUnderlying31 EqDot
noncomputable def kysL (t : Nat) : Bool := Nat.beq t 33
theorem kysOk (t : Nat) (h : kysL t = true) : KeyOk Tryz.prog t dv := by
  rw [Nat.eq_of_beq_eq_true h]; exact KoDot
noncomputable def cfg : Cfg := cfgOf Tryz.prog.types.toList Tryz.prog.funcs.toList eqsL (fun _ _ _ => none) (fun _ _ _ _ => none) (fun _ => none) noTok kysL
theorem cfgOk [Tok] : CfgOk cfg Tryz.prog := cfg_ok tabOk (fun _ _ _ _ _ h => by cases h) (fun _ _ h => by cases h) noTok_ok kysOk
def half : List Nat := [0, 498536548, 997073096, 651767980, 1994146192, 1802195444, 1303535960, 1342533948, 3988292384, 4027552580, 3604390888, 3412177804, 2607071920, 2262029012, 2685067896, 3183342108]
end Ct
end Go.Proofs
