/- CutsFold -/
import Derived.Test.YtbjbjboehjdcaaaGreatCutsFoldP9
import Derived.Test.YtbjbjboehjdcaaaGreatRows
set_option maxHeartbeats 4000000
set_option maxRecDepth 100000
namespace Go.Proofs.YtbjbjboehjdcaaaGreat
open Go.ChangeShapes Go.WideShapes Go.ChangeAt Go.RowKit Go.Vx
theorem cutsFold_lifted (hsortE:Qhn Tryz.prog 48 49 cec 106 7 Qlk) (os:Os) (started:os.Started) (H:Type) (enc:TypeId × Value->H) :
  ReturnsInHanded {} Tryz.checked os 9 .any (Rows.cutsFoldSpec.pre6 enc Tryz.prog Tryz.f9 Rows.cutsFoldRow.domain false) (Rows.cutsFoldSpec.post enc Tryz.prog Tryz.f9 false true false false):=by
 refine returnsInHanded_of_change (C:=Tryz.checked) Tryz.own started (by kernel_rfl) Tryz.func9
  (ChangeSpec.witness6 (enc:=enc) (C:=Tryz.checked) false ⟨#[],#[.slice none 0 0,.agg #[.int .u32 0,.int .u32 0,.int .u32 0,.int .u32 0,.int .u32 0,.int .u32 0,.int .u32 0,.int .u32 0,.int .u32 0,.int .u32 0,.int .u32 0,.int .u32 0,.int .u32 0,.int .u32 0,.int .u32 0,.int .u32 0,.int .u32 0,.int .u32 0,.int .u32 0,.int .u32 0,.int .u32 0,.int .u32 0,.int .u32 0,.int .u32 0,.int .u32 0,.int .u32 0,.int .u32 0,.int .u32 0,.int .u32 0,.int .u32 0,.int .u32 0,.int .u32 0],.int .u16 0],[]⟩ 8 (by kernel_rfl) (by kernel_rfl) (by kernel_rfl) (by kernel_rfl)) ?_
 intro W base args ds gs before hval0 hW hcnd _
 have hval:∀ (j:Nat) t v,Tryz.f9.params[j]?=some t->args[j]?=some v->Value.okWide Tryz.prog W .any base t v:=hval0
 have hW':=hW
 obtain ⟨p,q,hA0,hV,rfl,hfz,hnd⟩:=hW
 have hA:DataW.TrodAll enc Tryz.prog W 0 (fun _=>true) true Tryz.f9.params.toList args.toList ds p:=hA0
 rw [Tryz.params9] at hA hval
 obtain ⟨v0,v1,v2,d0,d1,d2,p0,p1,p2,rfl,rfl,rfl,h0,h1,h2⟩:=trodAll_three hA
 obtain ⟨rfl,rfl⟩:=trodVars_none hV
 have h0k:=h0
 have h1k:=h1
 have h2k:=h2
 obtain ⟨a0,c0,x0,rfl,hx0,hr0⟩:=Qol (k:=23) Tryz.underlying29 O98 (fun _=>rfl) (by kernel_rfl) (hval 0 29 v0 rfl rfl) h0
 obtain ⟨x1,hx1,rfl⟩:=QmU O88 (Qrm (.inr ⟨_,_,Tryz.underlying88⟩) (hval 1 88 v1 rfl rfl)) h1
 obtain ⟨x2,rfl,rfl,rfl,hx2⟩:=open_int Tryz.underlying32 (hval 2 32 v2 rfl rfl) h2
 clear hA0 hval0
 simp only [List.append_nil] at hW'
 have hlt:∀ x∈p0++p1,x.block<W.heap.size:=fun x hx=>hW'.lt x hx
 have walk:Calls Tryz.prog 9 #[.slice a0 x0.length c0,.agg (pv2 x1).toArray,.int .u16 x2] W (fun e w'=>e = .returned (.bool true)/\Own W no w' []):=by
  exact Tt.cutsFold_ok W a0 c0 x0 hx0 hr0 hsortE Qwk x1.1 x1.2 hx1.1 hx1.2 x2
 have hW2:DataW.Whole enc Tryz.checked.prog Tryz.f9.params.toList Rows.cutsFoldSpec.vars false W [.slice a0 x0.length c0,.agg (pv2 x1).toArray,.int .u16 x2] [d0,d1,DataW.lit (Lit.int .u16 x2)] [] (p0++(p1++[])):=by simpa using hW'
 refine walk.mono fun e W' ⟨he,ho⟩=>?_
 subst he
 have bel:Below W.heap.size W W':=ho.below
 refine ⟨_,rfl,_,_,_,[],p0++(p1++[]),[],hW2,?_,?_,rfl,bel.frame _,fun h=>by cases h⟩
 ·exact trodAll_mk1 (shut_bool Tryz.underlying4 true)
 ·exact trodAll_mk3 (Below.trod Tryz.laidOut (by kernel_rfl) (QQ1 (by kernel_rfl)) h0k bel fun x hx=>hlt x (by simp [hx])) (Below.trod Tryz.laidOut (by kernel_rfl) (QQ1 (by kernel_rfl)) h1k bel fun x hx=>hlt x (by simp [hx])) (Below.trod Tryz.laidOut (by kernel_rfl) (QQ1 (by kernel_rfl)) h2k bel fun x hx=>by simp at hx)
theorem cutsFold_holds (hsortE:Qhn Tryz.prog 48 49 cec 106 7 Qlk):Rows.CutsFoldSaid :=
 OpenClaim.holds_of_wide 9 Tryz.f9 rfl rfl rfl rfl rfl rfl rfl ⟨rfl,rfl,rfl,rfl,rfl⟩ rfl rfl rfl rfl rfl (by kernel_rfl) Tryz.func9 (by kernel_rfl)
  (QQ1 (by kernel_rfl)) (by unfold Func.isWrapper;first|(rw [if_pos (by decide +kernel)];kernel_rfl)|(rw [if_neg (by decide +kernel)];exact ⟨rfl,rfl⟩))
  (fun os started H enc _=>cutsFold_lifted hsortE os started H enc)
theorem cutsFold_said:Rows.CutsFoldSaid:=cutsFold_holds QvG
end Go.Proofs.YtbjbjboehjdcaaaGreat
