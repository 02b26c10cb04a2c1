/- CartFold -/
import Derived.Test.YthbbcjimiemdgaaGreatCartFoldP9
import Derived.Test.YthbbcjimiemdgaaGreatRows
set_option maxHeartbeats 4000000
set_option maxRecDepth 100000
namespace Go.Proofs.YthbbcjimiemdgaaGreat
open Go.ChangeShapes Go.WideShapes Go.ChangeAt Go.RowKit Go.Vx
theorem cartFold_lifted (hsortE:QhV Tryz.prog 68 35 cec 59 7 QkB) (os:Os) (started:os.Started) (H:Type) (enc:TypeId × Value→H) :
  ReturnsInHanded {} Tryz.checked os 4 .any (Rows.cartFoldSpec.pre6 enc Tryz.prog Tryz.f4 Rows.cartFoldRow.domain false) (Rows.cartFoldSpec.post enc Tryz.prog Tryz.f4 false true false false):=by
 refine returnsInHanded_of_change (C:=Tryz.checked) Tryz.own started (by kernel_rfl) Tryz.func4
  (ChangeSpec.witness6 (enc:=enc) (C:=Tryz.checked) false ⟨#[],#[.slice none 0 0,.int .u16 0],[]⟩ 8 (by kernel_rfl) (by kernel_rfl) (by kernel_rfl) (by kernel_rfl)) ?_
 intro W base args ds gs before hval0 hW hcnd _
 have hval:∀ (j:Nat) t v,Tryz.f4.params[j]?=some t→args[j]?=some v→Value.okWide Tryz.prog W .any base t v:=hval0
 have hW':=hW
 obtain ⟨p,q,hA0,hV,rfl,hfz,hnd⟩:=hW
 have hA:DataW.TrodAll enc Tryz.prog W 0 (fun _=>true) true Tryz.f4.params.toList args.toList ds p:=hA0
 rw [Tryz.params4] at hA hval
 obtain ⟨v0,v1,d0,d1,p0,p1,rfl,rfl,rfl,h0,h1⟩:=trodAll_two hA
 obtain ⟨rfl,rfl⟩:=trodVars_none hV
 have h0k:=h0
 have h1k:=h1
 obtain ⟨a0,c0,x0,rfl,hx0,hr0⟩:=Qk1 (k:=23) Tryz.underlying50 O33 (fun _=>rfl) (by kernel_rfl) (hval 0 50 v0 rfl rfl) h0
 obtain ⟨x1,rfl,rfl,rfl,hx1⟩:=open_int Tryz.underlying31 (hval 1 31 v1 rfl rfl) h1
 clear hA0 hval0
 simp only [List.append_nil] at hW'
 have hlt:∀ x∈p0,x.block<W.heap.size:=fun x hx=>hW'.lt x hx
 have walk:Calls Tryz.prog 4 #[.slice a0 x0.length c0,.int .u16 x1] W (fun e w'=>e = .returned (.bool true)∧Own W no w' []):=by
  exact Tt.cartFold_ok W a0 c0 x0 hx0 hr0 hsortE Qro x1
 have hW2:DataW.Whole enc Tryz.checked.prog Tryz.f4.params.toList Rows.cartFoldSpec.vars false W [.slice a0 x0.length c0,.int .u16 x1] [d0,DataW.lit (Lit.int .u16 x1)] [] (p0++[]):=by simpa using hW'
 refine walk.mono fun e W' ⟨he,ho⟩=>?_
 subst he
 have bel:Below W.heap.size W W':=ho.below
 refine ⟨_,rfl,_,_,_,[],p0++[],[],hW2,?_,?_,rfl,bel.frame _,fun h=>by cases h⟩
 ·exact trodAll_mk1 (shut_bool Tryz.underlying4 true)
 ·exact trodAll_mk2 (Below.trod Tryz.laidOut (by kernel_rfl) (QQ1 (by kernel_rfl)) h0k bel fun x hx=>hlt x (by simp [hx])) (Below.trod Tryz.laidOut (by kernel_rfl) (QQ1 (by kernel_rfl)) h1k bel fun x hx=>by simp at hx)
theorem cartFold_holds (hsortE:QhV Tryz.prog 68 35 cec 59 7 QkB):Rows.CartFoldSaid :=
 OpenClaim.holds_of_wide 4 Tryz.f4 rfl rfl rfl rfl rfl rfl rfl ⟨rfl,rfl,rfl,rfl,rfl⟩ rfl rfl rfl rfl rfl (by kernel_rfl) Tryz.func4 (by kernel_rfl)
  (QQ1 (by kernel_rfl)) (by unfold Func.isWrapper;first|(rw [if_pos (by decide +kernel)];kernel_rfl)|(rw [if_neg (by decide +kernel)];exact ⟨rfl,rfl⟩))
  (fun os started H enc _=>cartFold_lifted hsortE os started H enc)
theorem cartFold_said:Rows.CartFoldSaid:=cartFold_holds Qsv
end Go.Proofs.YthbbcjimiemdgaaGreat
