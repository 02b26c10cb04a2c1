/- CutsBetween -/
import Derived.Test.YtbjbjboehjdcaaaGreatCutsBetweenP9
import Derived.Test.YtbjbjboehjdcaaaGreatRows
set_option maxHeartbeats 4000000
set_option maxRecDepth 100000
namespace Go.Proofs.YtbjbjboehjdcaaaGreat
open Go.ChangeShapes Go.WideShapes Go.ChangeAt Go.RowKit Go.Vx
theorem cutsBetween_lifted (hsortE:QgH Tryz.prog 48 49 cec 106 7 QkG) (os:Os) (started:os.Started) (H:Type) (enc:TypeId × Value->H) :
  ReturnsInHanded {} Tryz.checked os 6 .any (Rows.cutsBetweenSpec.pre6 enc Tryz.prog Tryz.f6 Rows.cutsBetweenRow.domain false) (Rows.cutsBetweenSpec.post enc Tryz.prog Tryz.f6 false true false false):=by
 refine returnsInHanded_of_change (C:=Tryz.checked) Tryz.own started (by kernel_rfl) Tryz.func6
  (ChangeSpec.witness6 (enc:=enc) (C:=Tryz.checked) false ⟨#[],#[.slice none 0 0,.agg #[.int .u32 0,.int .u32 0,.int .u32 0,.int .u32 0,.int .u32 0,.int .u32 0,.int .u32 0,.int .u32 0,.int .u32 0,.int .u32 0,.int .u32 0,.int .u32 0,.int .u32 0,.int .u32 0,.int .u32 0,.int .u32 0,.int .u32 0,.int .u32 0,.int .u32 0,.int .u32 0,.int .u32 0,.int .u32 0,.int .u32 0,.int .u32 0,.int .u32 0,.int .u32 0,.int .u32 0,.int .u32 0,.int .u32 0,.int .u32 0,.int .u32 0,.int .u32 0,.int .u32 0,.int .u32 0,.int .u32 0,.int .u32 0,.int .u32 0,.int .u32 0,.int .u32 0,.int .u32 0,.int .u32 0,.int .u32 0,.int .u32 0,.int .u32 0,.int .u32 0,.int .u32 0,.int .u32 0,.int .u32 0]],[]⟩ 8 (by kernel_rfl) (by kernel_rfl) (by kernel_rfl) (by kernel_rfl)) ?_
 intro W base args ds gs before hval0 hW hcnd _
 have hval:∀ (j:Nat) t v,Tryz.f6.params[j]?=some t->args[j]?=some v->Value.okWide Tryz.prog W .any base t v:=hval0
 have hW':=hW
 obtain ⟨p,q,hA0,hV,rfl,hfz,hnd⟩:=hW
 have hA:DataW.TrodAll enc Tryz.prog W 0 (fun _=>true) true Tryz.f6.params.toList args.toList ds p:=hA0
 rw [Tryz.params6] at hA hval
 obtain ⟨v0,v1,d0,d1,p0,p1,rfl,rfl,rfl,h0,h1⟩:=trodAll_two hA
 obtain ⟨rfl,rfl⟩:=trodVars_none hV
 have h0k:=h0
 have h1k:=h1
 obtain ⟨a0,c0,x0,rfl,hx0,hr0⟩:=Qmr (k:=23) Tryz.underlying29 O98 (fun _=>rfl) (by kernel_rfl) (hval 0 29 v0 rfl rfl) h0
 obtain ⟨x1,hx1,rfl⟩:=Qns O76 (Qoi (.inr ⟨_,_,Tryz.underlying76⟩) (hval 1 76 v1 rfl rfl)) h1
 clear hA0 hval0
 simp only [List.append_nil] at hW'
 have hlt:∀ x∈p0++p1,x.block<W.heap.size:=fun x hx=>hW'.lt x hx
 have walk:Calls Tryz.prog 6 #[.slice a0 x0.length c0,.agg (pv3 x1).toArray] W (fun e w'=>e = .returned (.bool true)/\Own W no w' []):=by
  exact Tt.cutsBetween_ok W a0 c0 x0 hx0 hr0 hsortE Quf x1.1 x1.2.1 x1.2.2 hx1.1 hx1.2.1 hx1.2.2
 refine walk.mono fun e W' ⟨he,ho⟩=>?_
 subst he
 have bel:Below W.heap.size W W':=ho.below
 refine ⟨_,rfl,_,_,_,[],p0++p1,[],hW',?_,?_,rfl,bel.frame _,fun h=>by cases h⟩
 ·exact trodAll_mk1 (shut_bool Tryz.underlying4 true)
 ·exact trodAll_mk2 (Below.trod Tryz.laidOut (by kernel_rfl) (QQ1 (by kernel_rfl)) h0k bel fun x hx=>hlt x (List.mem_append_left _ hx)) (Below.trod Tryz.laidOut (by kernel_rfl) (QQ1 (by kernel_rfl)) h1k bel fun x hx=>hlt x (List.mem_append_right _ hx))
theorem cutsBetween_holds (hsortE:QgH Tryz.prog 48 49 cec 106 7 QkG):Rows.CutsBetweenSaid :=
 OpenClaim.holds_of_wide 6 Tryz.f6 rfl rfl rfl rfl rfl rfl rfl ⟨rfl,rfl,rfl,rfl,rfl⟩ rfl rfl rfl rfl rfl (by kernel_rfl) Tryz.func6 (by kernel_rfl)
  (QQ1 (by kernel_rfl)) (by unfold Func.isWrapper;first|(rw [if_pos (by decide +kernel)];kernel_rfl)|(rw [if_neg (by decide +kernel)];exact ⟨rfl,rfl⟩))
  (fun os started H enc _=>cutsBetween_lifted hsortE os started H enc)
theorem cutsBetween_said:Rows.CutsBetweenSaid:=cutsBetween_holds Qux
end Go.Proofs.YtbjbjboehjdcaaaGreat
