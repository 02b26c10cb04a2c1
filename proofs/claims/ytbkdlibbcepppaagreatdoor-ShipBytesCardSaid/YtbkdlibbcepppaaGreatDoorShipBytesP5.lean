/- A part of a proof: what functions of the program compute, and plain facts on that. -/
import Derived.Test.YtbkdlibbcepppaaGreatDoorShipBytesP4
import Derived.KernelRfl
import Derived.Test.YtbkdlibbcepppaaGreatDoorProg
set_option linter.unusedVariables false
set_option linter.unusedSectionVars false
set_option linter.unusedSimpArgs false
set_option maxHeartbeats 4000000
set_option maxRecDepth 100000
namespace Go.Proofs
open Go Go.Vx Go.RowKit Go.Ce
namespace Ct
set_option maxRecDepth 1000000
section
variable [Tok]
theorem Qq9:Eqa Tryz.prog 2 36 [5,5,5,5,5,5,5,5,5,5,5,5,5,5,5,5]:=Qoh (n:=16) Tryz.underlying36 (Qkm Tryz.type34) (by kernel_rfl) ⟨Tryz.sizeOf34,Tryz.isAgg34⟩ Tryz.runUnderlying34
theorem Qjx:Eqa Tryz.prog 2 52 [1,5]:=by
 refine QcF (D:=1) Tryz.underlying52 (by kernel_rfl) ?_
 refine FsS.more (sh:=[1]) (sh':=[5]) ((Qby ⟨Tryz.sizeOf5,Tryz.isAgg5⟩ Tryz.runUnderlying5).up (D':=1) (by decide)) rfl rfl (by decide) ?_
 refine FsS.more (sh:=[5]) (sh':=[]) ((Qby ⟨Tryz.sizeOf34,Tryz.isAgg34⟩ Tryz.runUnderlying34).up (D':=1) (by decide)) rfl rfl (by decide) ?_
 exact .nil
theorem Qtg:Eqa Tryz.prog 3 54 [1,5,1,3,3,3,5,5,5,5,5,5,5,5,5,5,5,5,5,5,5,5,5]:=by
 refine QcF (D:=2) Tryz.underlying54 (by kernel_rfl) ?_
 refine FsS.more (sh:=[1,5]) (sh':=[1,3,3,3,5,5,5,5,5,5,5,5,5,5,5,5,5,5,5,5,5]) ((QgM (show TA Tryz.prog 52 (List.length [1,5]) from ⟨Tryz.sizeOf52,Tryz.isAgg52⟩) Qjx).up (D':=2) (by decide)) rfl rfl (by decide) ?_
 refine FsS.more (sh:=[1]) (sh':=[3,3,3,5,5,5,5,5,5,5,5,5,5,5,5,5,5,5,5,5]) ((Qby ⟨Tryz.sizeOf5,Tryz.isAgg5⟩ Tryz.runUnderlying5).up (D':=2) (by decide)) rfl rfl (by decide) ?_
 refine FsS.more (sh:=[3]) (sh':=[3,3,5,5,5,5,5,5,5,5,5,5,5,5,5,5,5,5,5]) ((Qby ⟨Tryz.sizeOf23,Tryz.isAgg23⟩ Tryz.runUnderlying23).up (D':=2) (by decide)) rfl rfl (by decide) ?_
 refine FsS.more (sh:=[3]) (sh':=[3,5,5,5,5,5,5,5,5,5,5,5,5,5,5,5,5,5]) ((Qby ⟨Tryz.sizeOf23,Tryz.isAgg23⟩ Tryz.runUnderlying23).up (D':=2) (by decide)) rfl rfl (by decide) ?_
 refine FsS.more (sh:=[3]) (sh':=[5,5,5,5,5,5,5,5,5,5,5,5,5,5,5,5,5]) ((Qby ⟨Tryz.sizeOf23,Tryz.isAgg23⟩ Tryz.runUnderlying23).up (D':=2) (by decide)) rfl rfl (by decide) ?_
 refine FsS.more (sh:=[5]) (sh':=[5,5,5,5,5,5,5,5,5,5,5,5,5,5,5,5]) ((Qby ⟨Tryz.sizeOf34,Tryz.isAgg34⟩ Tryz.runUnderlying34).up (D':=2) (by decide)) rfl rfl (by decide) ?_
 refine FsS.more (sh:=[5,5,5,5,5,5,5,5,5,5,5,5,5,5,5,5]) (sh':=[]) ((QgM (show TA Tryz.prog 36 (List.length [5,5,5,5,5,5,5,5,5,5,5,5,5,5,5,5]) from ⟨Tryz.sizeOf36,Tryz.isAgg36⟩) Qq9).up (D':=2) (by decide)) rfl rfl (by decide) ?_
 exact .nil
theorem QsQ:Eqa Tryz.prog 3 152 [3,1,5]:=by
 refine QcF (D:=2) Tryz.underlying152 (by kernel_rfl) ?_
 refine FsS.more (sh:=[3]) (sh':=[1,5]) ((Qby ⟨Tryz.sizeOf23,Tryz.isAgg23⟩ Tryz.runUnderlying23).up (D':=2) (by decide)) rfl rfl (by decide) ?_
 refine FsS.more (sh:=[1,5]) (sh':=[]) ((QgM (show TA Tryz.prog 52 (List.length [1,5]) from ⟨Tryz.sizeOf52,Tryz.isAgg52⟩) Qjx).up (D':=2) (by decide)) rfl rfl (by decide) ?_
 exact .nil
theorem QsC:Eqa Tryz.prog 2 217 [1,1,1,1]:=Qoh (n:=4) Tryz.underlying217 (Qkm Tryz.type5) (by kernel_rfl) ⟨Tryz.sizeOf5,Tryz.isAgg5⟩ Tryz.runUnderlying5
theorem Qr8:Eqa Tryz.prog 3 229 [3,3,3,1,1,5,7]:=by
 refine QcF (D:=2) Tryz.underlying229 (by kernel_rfl) ?_
 refine FsS.more (sh:=[3]) (sh':=[3,3,1,1,5,7]) ((Qby ⟨Tryz.sizeOf23,Tryz.isAgg23⟩ Tryz.runUnderlying23).up (D':=2) (by decide)) rfl rfl (by decide) ?_
 refine FsS.more (sh:=[3]) (sh':=[3,1,1,5,7]) ((Qby ⟨Tryz.sizeOf23,Tryz.isAgg23⟩ Tryz.runUnderlying23).up (D':=2) (by decide)) rfl rfl (by decide) ?_
 refine FsS.more (sh:=[3]) (sh':=[1,1,5,7]) ((Qby ⟨Tryz.sizeOf23,Tryz.isAgg23⟩ Tryz.runUnderlying23).up (D':=2) (by decide)) rfl rfl (by decide) ?_
 refine FsS.more (sh:=[1]) (sh':=[1,5,7]) ((Qby ⟨Tryz.sizeOf5,Tryz.isAgg5⟩ Tryz.runUnderlying5).up (D':=2) (by decide)) rfl rfl (by decide) ?_
 refine FsS.more (sh:=[1,5]) (sh':=[7]) ((QgM (show TA Tryz.prog 52 (List.length [1,5]) from ⟨Tryz.sizeOf52,Tryz.isAgg52⟩) Qjx).up (D':=2) (by decide)) rfl rfl (by decide) ?_
 refine FsS.more (sh:=[7]) (sh':=[]) ((Qby ⟨Tryz.sizeOf65,Tryz.isAgg65⟩ Tryz.runUnderlying65).up (D':=2) (by decide)) rfl rfl (by decide) ?_
 exact .nil
theorem QrY:Eqa Tryz.prog 3 240 [3,3,3,1,1,5,7]:=by
 refine QcF (D:=2) Tryz.underlying240 (by kernel_rfl) ?_
 refine FsS.more (sh:=[3]) (sh':=[3,3,1,1,5,7]) ((Qby ⟨Tryz.sizeOf23,Tryz.isAgg23⟩ Tryz.runUnderlying23).up (D':=2) (by decide)) rfl rfl (by decide) ?_
 refine FsS.more (sh:=[3]) (sh':=[3,1,1,5,7]) ((Qby ⟨Tryz.sizeOf23,Tryz.isAgg23⟩ Tryz.runUnderlying23).up (D':=2) (by decide)) rfl rfl (by decide) ?_
 refine FsS.more (sh:=[3]) (sh':=[1,1,5,7]) ((Qby ⟨Tryz.sizeOf23,Tryz.isAgg23⟩ Tryz.runUnderlying23).up (D':=2) (by decide)) rfl rfl (by decide) ?_
 refine FsS.more (sh:=[1]) (sh':=[1,5,7]) ((Qby ⟨Tryz.sizeOf5,Tryz.isAgg5⟩ Tryz.runUnderlying5).up (D':=2) (by decide)) rfl rfl (by decide) ?_
 refine FsS.more (sh:=[1,5]) (sh':=[7]) ((QgM (show TA Tryz.prog 52 (List.length [1,5]) from ⟨Tryz.sizeOf52,Tryz.isAgg52⟩) Qjx).up (D':=2) (by decide)) rfl rfl (by decide) ?_
 refine FsS.more (sh:=[7]) (sh':=[]) ((Qby ⟨Tryz.sizeOf65,Tryz.isAgg65⟩ Tryz.runUnderlying65).up (D':=2) (by decide)) rfl rfl (by decide) ?_
 exact .nil
theorem Qs5:Eqa Tryz.prog 2 241 [3,5]:=by
 refine QcF (D:=1) Tryz.underlying241 (by kernel_rfl) ?_
 refine FsS.more (sh:=[3]) (sh':=[5]) ((Qby ⟨Tryz.sizeOf23,Tryz.isAgg23⟩ Tryz.runUnderlying23).up (D':=1) (by decide)) rfl rfl (by decide) ?_
 refine FsS.more (sh:=[5]) (sh':=[]) ((Qby ⟨Tryz.sizeOf34,Tryz.isAgg34⟩ Tryz.runUnderlying34).up (D':=1) (by decide)) rfl rfl (by decide) ?_
 exact .nil
end
def QvN:List (Nat × List Nat):=[(36,[5,5,5,5,5,5,5,5,5,5,5,5,5,5,5,5]),(52,[1,5]),(54,[1,5,1,3,3,3,5,5,5,5,5,5,5,5,5,5,5,5,5,5,5,5,5]),(152,[3,1,5]),(217,[1,1,1,1]),(229,[3,3,3,1,1,5,7]),(240,[3,3,3,1,1,5,7]),(241,[3,5])]
theorem Qvg:TabOk Tryz.prog QvN:=by
 refine QtA (fc:=196) (fnc:=Tryz.f196) (fun e he=>?_) (by kernel_rfl) (by kernel_rfl) Tryz.func196 (by kernel_rfl) (by kernel_rfl) (by kernel_rfl) (by kernel_rfl) (by kernel_rfl)
 simp only [QvN,List.mem_cons,List.not_mem_nil,or_false] at he
 intro _
 rcases he with rfl|rfl|rfl|rfl|rfl|rfl|rfl|rfl
 ·exact QcX (by kernel_rfl) Qq9 (by rfl)
 ·exact QcX (by kernel_rfl) Qjx (by rfl)
 ·exact QcX (by kernel_rfl) Qtg (by rfl)
 ·exact QcX (by kernel_rfl) QsQ (by rfl)
 ·exact QcX (by kernel_rfl) QsC (by rfl)
 ·exact QcX (by kernel_rfl) Qr8 (by rfl)
 ·exact QcX (by kernel_rfl) QrY (by rfl)
 ·exact QcX (by kernel_rfl) Qs5 (by rfl)
theorem Qvi (a b:Dot):EqF Tryz.prog 2 52 (.agg (dc a).toArray) (.agg (dc b).toArray) (decide (a=b)):=by
 rw [← QmP]
 exact Qd3 Tryz.underlying52 Tryz.stoodInHeld52 (.cons (by decide) (QaQ ⟨Tryz.sizeOf5,Tryz.isAgg5⟩ rfl) (QaQ ⟨Tryz.sizeOf5,Tryz.isAgg5⟩ rfl) (Qcp Tryz.runUnderlying5) (.cons (by decide) (QaQ ⟨Tryz.sizeOf34,Tryz.isAgg34⟩ rfl) (QaQ ⟨Tryz.sizeOf34,Tryz.isAgg34⟩ rfl) (Qcp Tryz.runUnderlying34) .nil))
theorem Qvz:KeyOk Tryz.prog 52 dv:=QmC Tryz.underlying52 (by decide) (by decide) rfl rfl ⟨Tryz.sizeOf5,Tryz.isAgg5⟩ ⟨Tryz.sizeOf34,Tryz.isAgg34⟩ Tryz.runUnderlying5 Tryz.runUnderlying34 Qvi
noncomputable def kysL (t:Nat):Bool:=Nat.beq t 52
theorem QvU (t:Nat) (h:kysL t=true):KeyOk Tryz.prog t dv:=by
 rw [Nat.eq_of_beq_eq_true h];exact Qvz
noncomputable def cfg:Cfg:=cfgOf Tryz.prog.types.toList Tryz.prog.funcs.toList QvN (fun _ _ _=>none) (fun _ _ _ _=>none) (fun _=>none) QsZ kysL
theorem Qvs [Tok]:CfgOk cfg Tryz.prog:=QtP Qvg (fun _ _ _ _ _ h=>by cases h) (fun _ _ h=>by cases h) Qld QvU
def half:List Nat:=[0,498536548,997073096,651767980,1994146192,1802195444,1303535960,1342533948,3988292384,4027552580,3604390888,3412177804,2607071920,2262029012,2685067896,3183342108]
end Ct
end Go.Proofs
