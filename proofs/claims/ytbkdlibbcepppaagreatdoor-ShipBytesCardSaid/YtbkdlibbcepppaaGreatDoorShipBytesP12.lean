/- A part of a proof: what functions of the program compute, and plain facts on that. -/
import Derived.Test.YtbkdlibbcepppaaGreatDoorShipBytesP11
import Derived.Test.YtbkdlibbcepppaaGreatDoorRows
import Derived.Test.YtbkdlibbcepppaaGreatDoorChecked
import Derived.Test.YtbkdlibbcepppaaGreatDoorTie
import Derived.Test.YtbkdlibbcepppaaGreatDoorCards
import Derived.ChangeSame
import Derived.ChangeVars
import Derived.JoinedOf
import Derived.RowKit
import Derived.RowKitTokens
import Derived.SevenTiedAt
set_option linter.unusedVariables false
set_option linter.unusedSectionVars false
set_option linter.unusedSimpArgs false
set_option maxHeartbeats 4000000
set_option maxRecDepth 100000
namespace Go.Proofs.YtbkdlibbcepppaaGreatDoor
open Go Go.ChangeShapes Go.WideShapes Go.ChangeAt Go.RowKit Go.Vx
set_option maxRecDepth 100000
theorem Tryz.own:ownKnob Tryz.prog.godebug=none:=by kernel_rfl
theorem Tryz.laidOut:laidOutB Tryz.prog=true:=by kernel_rfl
abbrev QpY {H:Type}:List (String × DataW H):=[("math/bits.deBruijn32tab",Rows.laid_math_bits_deBruijn32tab),("math/bits.deBruijn64tab",Rows.laid_math_bits_deBruijn64tab),("internal/strconv.uint64pow10",Rows.laid_internal_strconv_uint64pow10),("trug/crc.half",Rows.laid_trug_crc_half)]
noncomputable def cellsOfD:DataW Unit->Array Value
 | .agg l=>(l.map fun d=>match d with|.lit (.int k n)=>Value.int k n|_=>.bool false).toArray
 | _=>#[]
noncomputable def laidWorld (os:Os):World :=
 let put (h:Array Obj) (g:Nat) (d:DataW Unit):Array Obj:=h.modify g fun|.cells _ t frozen=>.cells (cellsOfD d) t frozen|o=>o
 { World.holding Tryz.prog os ⟨#[],#[],[]⟩ with heap:=put (put (put (put (World.holding Tryz.prog os ⟨#[],#[],[]⟩).heap 0 Rows.laid_trug_crc_half) 1 Rows.laid_internal_strconv_uint64pow10) 2 Rows.laid_math_bits_deBruijn32tab) 3 Rows.laid_math_bits_deBruijn64tab }
theorem Qia (os:Os) (args:Array Value):laidMet Tryz.prog QpY ((laidWorld os).forCall (fun _ _=>0) ⟨#[],args,[]⟩).memory :=
 laidMet_of_run' 8 (by kernel_rfl) (by kernel_rfl)
theorem O5i:Qfp Tryz.prog 5 (ic .u8) (inK .u8):=QeC Tryz.underlying5
theorem O36:Qfp Tryz.prog 36 vc Qbw:=Qv4 Tryz.underlying36 Tryz.underlying34 (by kernel_rfl) (by kernel_rfl)
theorem O52:Qfp Tryz.prog 52 dc Qfk:=Qu3 Tryz.underlying52 rfl rfl Tryz.underlying5 Tryz.underlying34 (by kernel_rfl) (by kernel_rfl) (by kernel_rfl)
theorem O54:Qfp Tryz.prog 54 oc QbK:=QvX Tryz.underlying54 rfl rfl O52 O36 Tryz.underlying5 Tryz.underlying23 Tryz.underlying23 Tryz.underlying23 Tryz.underlying34 (by kernel_rfl) (by kernel_rfl)
theorem O22:QiL Tryz.prog 22 (slx (α:=Opn)) (Qnf oc QbK 23):=QuG Tryz.underlying22 O54 (fun _=>rfl) (by decide) (by kernel_rfl)
theorem O30:QiL Tryz.prog 30 (slx (α:=Int)) (Qnf (ic .u8) (inK .u8) 1):=QuG Tryz.underlying30 O5i (fun _=>rfl) (by decide) (by kernel_rfl)
theorem O86:QiL Tryz.prog 86 msv QtF:=QvJ Tryz.underlying86 rfl rfl O36 O22 O30 Tryz.underlying3 Tryz.underlying5 Tryz.underlying3 Tryz.underlying3 (by kernel_rfl) (by kernel_rfl)
theorem shipBytes_lifted (os:Os) (started:os.Started) (H:Type) (enc:TypeId × Value->H) :
  ReturnsInHanded {} Tryz.checked os 5 .any (fun w args=>(Rows.shipBytesSpec.pre enc Tryz.prog Tryz.f5 Rows.shipBytesRow.domain false w args/\laidMet Tryz.prog QpY w)/\sizedMet enc Tryz.prog Tryz.f5 (OpenSpec.ofChange Rows.shipBytesSpec) false w args)
   (Rows.shipBytesSpec.post enc Tryz.prog Tryz.f5 false true false false):=by
 refine returnsInHanded_of_change_and (C:=Tryz.checked) (X:=fun w _=>laidMet Tryz.prog QpY w) (fun _ _ _ hh h=>h.of_heap hh) Tryz.own started (by kernel_rfl) Tryz.func5
  (ChangeSpec.witness_at (enc:=enc) (C:=Tryz.checked) (os:=os) (X:=fun w _=>laidMet Tryz.prog QpY w) false (laidWorld os) #[.agg #[.int .i64 0,.int .u8 0,.int .u32 0,.int .u32 0,.int .u32 0,.int .u32 0,.int .u32 0,.int .u32 0,.int .u32 0,.int .u32 0,.int .u32 0,.int .u32 0,.int .u32 0,.int .u32 0,.int .u32 0,.int .u32 0,.int .u32 0,.int .u32 0,.slice none 0 0,.int .i64 0,.int .i64 0,.slice none 0 0],.slice none 0 0] 8 rfl (by kernel_rfl) (by kernel_rfl) (by kernel_rfl) (by kernel_rfl) (by kernel_rfl) (Qia os _)) ?_
 intro W base args ds gs before hval0 hW _ _ hL _
 have hval:∀ (j:Nat) t v,Tryz.f5.params[j]?=some t->args[j]?=some v->Value.okWide Tryz.prog W .any base t v:=hval0
 have hW':=hW
 obtain ⟨p,q,hA0,hV,rfl,hfz,hnd⟩:=hW
 have hA:DataW.TrodAll enc Tryz.prog W 0 (fun _=>true) true Tryz.f5.params.toList args.toList ds p:=hA0
 rw [Tryz.params5] at hA hval
 obtain ⟨v0,v1,d0,d1,p0,p1,rfl,rfl,rfl,h0,h1⟩:=trodAll_two hA
 obtain ⟨rfl,rfl⟩:=trodVars_none hV
 have h0k:=h0
 have h1k:=h1
 obtain ⟨x0,⟨hm0,hm1,hm2⟩,rfl⟩:=Qmd O86 (QpF (.inl ⟨_,Tryz.underlying86⟩) (hval 0 86 v0 rfl rfl)) h0
 obtain ⟨a1,c1,x1,rfl,hx1,hr1⟩:=Qm4 (k:=1) Tryz.underlying30 (QeC Tryz.underlying5) (fun _=>rfl) (by kernel_rfl) (hval 1 30 v1 rfl rfl) h1
 clear hA0 hval0
 have hb1:QaZ x1:=fun c hc=>QiY (hx1 c hc)
 simp only [List.append_nil] at hW'
 have hlt:∀ x∈p0++p1,x.block<W.heap.size:=fun x hx=>hW'.lt x hx
 obtain ⟨T,hT⟩:=QiS hL
 have walk:Calls Tryz.prog 5 #[.agg (msv x0).toArray,.slice a1 x1.length c1] W (fun e w'=>e = .returned (.bool true)/\Own W no w' []):=Tt.shipBytes_ok W x0 hm0 hm1 hm2 a1 c1 x1 hb1 hr1 T hT
 refine walk.mono fun e W' ⟨he,ho⟩=>?_
 subst he
 have bel:Below W.heap.size W W':=ho.below
 refine ⟨_,rfl,_,_,_,[],p0++p1,[],hW',?_,?_,rfl,bel.frame _,fun h=>by cases h⟩
 ·exact trodAll_mk1 (shut_bool Tryz.underlying4 true)
 ·exact trodAll_mk2 (Below.trod Tryz.laidOut (by kernel_rfl) (QQ1 (by kernel_rfl)) h0k bel fun x hx=>hlt x (List.mem_append.2 (.inl hx))) (Below.trod Tryz.laidOut (by kernel_rfl) (QQ1 (by kernel_rfl)) h1k bel fun x hx=>hlt x (List.mem_append.2 (.inr hx)))
end Go.Proofs.YtbkdlibbcepppaaGreatDoor
