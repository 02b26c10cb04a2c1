/- A part of a proof: what functions of the program compute, and plain facts on that. -/
import Derived.Test.YtbjbjboehjdcaaaGreatCutsDiffsP5
set_option linter.unusedVariables false
set_option linter.unusedSimpArgs false
set_option maxHeartbeats 4000000
set_option maxRecDepth 100000
namespace Go.Proofs
open Go Go.Vx Go.RowKit
namespace Tt
theorem QsZ (w:World) (S:Nat->Prop) (a:Option Addr) (N c:Nat) (l:List Cen) (hz:l.length=N) (hN:N<=1152921504606846975) (g:Nat) (hg:En Tryz.prog g) (cf:Cen->Cen->Int) (hc:CmpO cf) (hcmp:∀ (w:World) (x y:Cen),Calls Tryz.prog g #[.agg (cec x).toArray,.agg (cec y).toArray] w (fun e w'=>e = .returned (.int .i64 (cf x y))/\Own w no w' [])) (hR:(row (.slice a N c) (l.map cec) 106 7).holds w S) (hlt:∀ b,S b->b<w.heap.size):Calls Tryz.prog 126 #[.slice a N c,.int .i64 (N:Int),.func (.func g) #[] #[]] w (fun e w'=>∃ x:List Cen,e = .returned (.tuple #[])/\Own w S w' [row (.slice a N c) (x.map cec) 106 7]/\(x.length=N/\x.Perm l/\QlB cf x)):=by
 refine Qaj (n:=63) Tryz.func126 rfl Tryz.ntmps126 rfl ?_
 have hN0:=hN
 replace hN:N<=2305843009213693951:=by omega
 have hs:=Own.lent hR hlt
 refine Qag (Qab (Qaa (Qad (V:=I6 20) rfl (Qaf (Qag (Qab (Qaa (Qac (V:=I6 20) rfl (Qaa (Qad (V:=I6 0) rfl (Qaa (Qad (V:=I6 20) rfl (Qaf (Qag (Qam (QaA (fun J μ J' w'=>∃ (Jo:Env) (t:Nat) (m:List Cen),J'=upd (upd (mix ([7,8]++sq 11 12) Jo J) 7 (I6 ((t*20:Nat):Int))) 8 (I6 ((t*20+20:Nat):Int))/\(t*20<=N)/\(m.length=N)/\(Qbd l m 0 N)/\(Blk cf m 20 (t*20))/\μ=N-t*20/\Own w S w' [row (.slice a N c) (m.map cec) 106 7]) ?_ ?_))))))))))))))))
 ·exact ⟨_,_,0,l,Qai (Qai (Qao (ds:=([7,8]++sq 11 12)) (Agr.refl _ _)) rfl) rfl,(by omega),hz,(Qbd.refl l (Nat.zero_le _) (by omega)),Qpo,rfl,hs⟩
 rintro μ J' w1 ⟨Jo,t,m,rfl,ht,hz1,hpm,hbl,rfl,hs⟩
 refine Qag (Qag (Qab (Qaa (Qac (V:=I6 ((t*20+20:Nat):Int)) rfl (Qaa (Qac (V:=I6 (N:Int)) rfl (Qaa (Qdn rfl rfl (Qaf (Qan (t:=decide (((t*20+20:Nat):Int)<=(N:Int))) rfl (fun c2=>?_) (fun c2=>?_)))))))))))
 ·
  replace c2:=QQ1 c2
  refine Qap (Qam (Qag (Qab (Qaa (Qac (V:=.slice a N c) rfl (Qaa (Qac (V:=I6 ((t*20:Nat):Int)) rfl (Qaa (Qac (V:=I6 ((t*20+20:Nat):Int)) rfl (Qaa (Qac (V:=.func (.func g) #[] #[]) rfl (Qaa (Qbv (α:=List Cen) (vs:=[.slice a N c,I6 ((t*20:Nat):Int),I6 ((t*20+20:Nat):Int),.func (.func g) #[] #[]]) (V:=fun _=>.tuple #[]) (R:=row (.slice a N c) (m.map cec) 106 7) (R':=fun x=>row (.slice a N c) (x.map cec) 106 7) (Lo:=fun _=>[]) (F:=fun x _=>x.length=N/\Merged cf m x (t*20) (t*20+20)) QqC rfl rfl hs 0 rfl (fun S hS hlt=>Qp4 _ S a N c m hz1 hN (t*20) (t*20+20) (by omega) (by omega) g hg cf hc hcmp hS hlt) fun mz3 w4 hs hF5=>(Qaf (Qag (Qab (Qaa (Qac (V:=I6 ((t*20+20:Nat):Int)) rfl (Qaa (Qad (V:=I6 ((t*20+20:Nat):Int)) rfl (Qaf (Qab (Qaa (Qac (V:=I6 ((t*20+20:Nat):Int)) rfl (Qaa (Qac (V:=I6 20) rfl (Qaa (QaD (a:=((t*20+20:Nat):Int)) (b:=20) (c:=(((t*20+20)+20:Nat):Int)) rfl rfl (Qak (by omega) (by omega)) (Qaa (Qad (V:=I6 (((t*20+20)+20:Nat):Int)) rfl (Qaf ?_)))))))))))))))))))))))))))))))
  refine ⟨_,?_,_,t+1,mz3,Qai (Qai (Qao (ds:=([7,8]++sq 11 12)) (by repeat (first|exact Agr.refl _ _|refine Agr.upd ?_ rfl|refine Agr.mix ?_ rfl))) (congrArg (Value.int .i64) (by omega))) (congrArg (Value.int .i64) (by omega)),(by omega),hF5.1,(hpm.trans (hF5.2.1.wide (by omega) (by omega) (by omega))),(by rw [show (t+1)*20=t*20+20 by omega];exact Qj5 hbl hF5.2.1 hF5.2.2 (Nat.le_refl _)),rfl,hs.take 1⟩
  omega
 replace c2:=QQ2 c2
 refine QaF (Qag (Qab (Qaa (Qac (V:=.slice a N c) rfl (Qaa (Qac (V:=I6 ((t*20:Nat):Int)) rfl (Qaa (Qac (V:=I6 (N:Int)) rfl (Qaa (Qac (V:=.func (.func g) #[] #[]) rfl (Qaa (Qbv (α:=List Cen) (vs:=[.slice a N c,I6 ((t*20:Nat):Int),I6 (N:Int),.func (.func g) #[] #[]]) (V:=fun _=>.tuple #[]) (R:=row (.slice a N c) (m.map cec) 106 7) (R':=fun x=>row (.slice a N c) (x.map cec) 106 7) (Lo:=fun _=>[]) (F:=fun x _=>x.length=N/\Merged cf m x (t*20) N) QqC rfl rfl hs 0 rfl (fun S hS hlt=>Qp4 _ S a N c m hz1 hN (t*20) N (by omega) (by omega) g hg cf hc hcmp hS hlt) fun mz6 w7 hs hF8=>(Qaf (Qam ?_))))))))))))))
 have hb0:Blk cf mz6 20 N:=Qj5 hbl hF8.2.1 hF8.2.2 (by omega)
 have hp0:=hpm.trans (hF8.2.1.wide (by omega) (by omega) (by omega))
 refine QaA (fun J μ J' w'=>∃ (Jo:Env) (s:Nat) (m2:List Cen),J'=upd (mix ([6,7,8,9]++sq 28 35) Jo J) 6 (I6 (s:Int))/\(0<s)/\(s<=2*N+20)/\(m2.length=N)/\(Qbd l m2 0 N)/\(Blk cf m2 s N)/\μ=N-s/\Own w S w' [row (.slice a N c) (m2.map cec) 106 7]) ?_ ?_
 ·exact ⟨_,_,20,mz6,Qai (Qao (ds:=([6,7,8,9]++sq 28 35)) (Agr.refl _ _)) rfl,(by omega),(by omega),hF8.1,hp0,hb0,rfl,hs⟩
 rintro μ J' w9 ⟨Jo,s,m2,rfl,hs0,hsN,hz2,hpm2,hb2,rfl,hs⟩
 refine Qag (Qag (Qab (Qaa (Qac (V:=I6 (s:Int)) rfl (Qaa (Qac (V:=I6 (N:Int)) rfl (Qaa (QaQ rfl rfl (Qaf (Qan (t:=decide ((s:Int)<(N:Int))) rfl (fun c10=>?_) (fun c10=>?_)))))))))))
 ·
  replace c10:=QQ1 c10
  refine Qap (Qam (Qag (Qab (Qaa (Qac (V:=I6 (s:Int)) rfl (Qaa (Qg0 (a:=2) (b:=(s:Int)) (c:=((2*s:Nat):Int)) rfl rfl (Qak (by omega) (by omega)) (Qaa (Qad (V:=I6 0) rfl (Qaa (Qad (V:=I6 ((2*s:Nat):Int)) rfl (Qaf (Qag (Qam (QaA (fun J μ J' w'=>∃ (Jo:Env) (t:Nat) (A:Nat) (m3:List Cen),J'=upd (upd (mix ([7,8]++sq 33 16) Jo J) 7 (I6 (A:Int))) 8 (I6 ((A+2*s:Nat):Int))/\(A=t*(2*s))/\(A<=N)/\(m3.length=N)/\(Qbd l m3 0 N)/\(Mrg cf m3 s t N)/\μ=N-A/\Own w S w' [row (.slice a N c) (m3.map cec) 106 7]) ?_ ?_)))))))))))))))
  ·exact ⟨_,_,0,0,m2,Qai (Qai (Qao (ds:=([7,8]++sq 33 16)) (Agr.refl _ _)) rfl) (congrArg (Value.int .i64) (by omega)),(by rw [Nat.zero_mul]),(by omega),hz2,hpm2,(Qno hb2),rfl,hs⟩
  rintro μ J' w11 ⟨Jo,t,A,m3,rfl,hA,hAN,hz3,hpm3,hmr,rfl,hs⟩
  refine Qag (Qag (Qab (Qaa (Qac (V:=I6 ((A+2*s:Nat):Int)) rfl (Qaa (Qac (V:=I6 (N:Int)) rfl (Qaa (Qdn rfl rfl (Qaf (Qan (t:=decide (((A+2*s:Nat):Int)<=(N:Int))) rfl (fun c12=>?_) (fun c12=>?_)))))))))))
  ·
   replace c12:=QQ1 c12
   refine Qap (Qam (Qag ?_))
   have hpp:=Qgx hmr
   rw [← hA] at hpp
   have hp1:=hpp.1.sub (Nat.le_refl _) (show A+s<=min (A+s) N by omega)
   have hp2:=hpp.2.sub (Nat.le_refl _) (show A+2*s<=min (A+2*s) N by omega)
   refine Qab (Qaa (Qac (V:=.slice a N c) rfl (Qaa (Qac (V:=I6 (A:Int)) rfl (Qaa (Qac (V:=I6 (A:Int)) rfl (Qaa (Qac (V:=I6 (s:Int)) rfl (Qaa (QaD (a:=(A:Int)) (b:=(s:Int)) (c:=((A+s:Nat):Int)) rfl rfl (Qak (by omega) (by omega)) (Qaa (Qac (V:=I6 ((A+2*s:Nat):Int)) rfl (Qaa (Qac (V:=.func (.func g) #[] #[]) rfl (Qaa (Qbv (α:=List Cen) (vs:=[.slice a N c,I6 (A:Int),I6 ((A+s:Nat):Int),I6 ((A+2*s:Nat):Int),.func (.func g) #[] #[]]) (V:=fun _=>.tuple #[]) (R:=row (.slice a N c) (m3.map cec) 106 7) (R':=fun x=>row (.slice a N c) (x.map cec) 106 7) (Lo:=fun _=>[]) (F:=fun x _=>x.length=N/\Merged cf m3 x A (A+2*s)) Qku rfl rfl hs 0 rfl (fun S hS hlt=>QjK g hg cf hc hcmp N _ S a N c m3 A (A+s) (A+2*s) hz3 hN (by omega) (by omega) (by omega) (by omega) hp1 hp2 hS hlt) fun mz13 w14 hs hF15=>(Qaf (Qag (Qab (Qaa (Qac (V:=I6 ((A+2*s:Nat):Int)) rfl (Qaa (Qad (V:=I6 ((A+2*s:Nat):Int)) rfl (Qaf (Qab (Qaa (Qac (V:=I6 ((A+2*s:Nat):Int)) rfl (Qaa (Qac (V:=I6 (s:Int)) rfl (Qaa (Qg0 (a:=2) (b:=(s:Int)) (c:=((2*s:Nat):Int)) rfl rfl (Qak (by omega) (by omega)) (Qaa (QaD (a:=((A+2*s:Nat):Int)) (b:=((2*s:Nat):Int)) (c:=(((A+2*s)+(2*s):Nat):Int)) rfl rfl (Qak (by omega) (by omega)) (Qaa (Qad (V:=I6 (((A+2*s)+(2*s):Nat):Int)) rfl (Qaf ?_))))))))))))))))))))))))))))))))))))
   refine ⟨_,?_,_,t+1,A+2*s,mz13,Qai (Qai (Qao (ds:=([7,8]++sq 33 16)) (by repeat (first|exact Agr.refl _ _|refine Agr.upd ?_ rfl|refine Agr.mix ?_ rfl))) rfl) (congrArg (Value.int .i64) (by omega)),(by rw [hA,Nat.add_mul,Nat.one_mul]),(by omega),hF15.1,(hpm3.trans (hF15.2.1.wide (by omega) (by omega) (by omega))),(QjV hmr (by rw [← hA];exact hF15.2.1) (by rw [← hA];exact hF15.2.2) (by omega)),rfl,hs.take 1⟩
   omega
  replace c12:=QQ2 c12
  refine QaF (Qag (Qag (Qab (Qaa (Qac (V:=I6 (A:Int)) rfl (Qaa (Qac (V:=I6 (s:Int)) rfl (Qaa (QaD (a:=(A:Int)) (b:=(s:Int)) (c:=((A+s:Nat):Int)) rfl rfl (Qak (by omega) (by omega)) (Qaa (Qad (V:=I6 ((A+s:Nat):Int)) rfl (Qaf (Qag (Qab (Qaa (Qac (V:=I6 ((A+s:Nat):Int)) rfl (Qaa (Qac (V:=I6 (N:Int)) rfl (Qaa (QaQ rfl rfl (Qaf (Qan (t:=decide (((A+s:Nat):Int)<(N:Int))) rfl (fun c16=>?_) (fun c16=>?_)))))))))))))))))))))))
  ·
   replace c16:=QQ1 c16
   have hpp:=Qgx hmr
   rw [← hA] at hpp
   have hp1:=hpp.1.sub (Nat.le_refl _) (show A+s<=min (A+s) N by omega)
   have hp2:=hpp.2.sub (Nat.le_refl _) (show N<=min (A+2*s) N by omega)
   refine Qab (Qaa (Qac (V:=.slice a N c) rfl (Qaa (Qac (V:=I6 (A:Int)) rfl (Qaa (Qac (V:=I6 ((A+s:Nat):Int)) rfl (Qaa (Qac (V:=I6 (N:Int)) rfl (Qaa (Qac (V:=.func (.func g) #[] #[]) rfl (Qaa (Qbv (α:=List Cen) (vs:=[.slice a N c,I6 (A:Int),I6 ((A+s:Nat):Int),I6 (N:Int),.func (.func g) #[] #[]]) (V:=fun _=>.tuple #[]) (R:=row (.slice a N c) (m3.map cec) 106 7) (R':=fun x=>row (.slice a N c) (x.map cec) 106 7) (Lo:=fun _=>[]) (F:=fun x _=>x.length=N/\Merged cf m3 x A N) Qku rfl rfl hs 0 rfl (fun S hS hlt=>QjK g hg cf hc hcmp N _ S a N c m3 A (A+s) N hz3 hN (by omega) (by omega) (by omega) (by omega) hp1 hp2 hS hlt) fun mz17 w18 hs hF19=>(Qaf (Qab (Qaa (Qac (V:=I6 (s:Int)) rfl (Qaa (Qg0 (a:=(s:Int)) (b:=2) (c:=((s*2:Nat):Int)) rfl rfl (Qak (by omega) (by omega)) (Qaa (Qad (V:=I6 ((s*2:Nat):Int)) rfl (Qaf ?_)))))))))))))))))))))
   refine ⟨_,?_,_,s*2,mz17,Qai (Qao (ds:=([6,7,8,9]++sq 28 35)) (by repeat (first|exact Agr.refl _ _|refine Agr.upd ?_ rfl|refine Agr.mix ?_ rfl))) rfl,(by omega),(by omega),hF19.1,(hpm3.trans (hF19.2.1.wide (by omega) (by omega) (by omega))),(by
 have hq:=QjV hmr (by rw [← hA];exact hF19.2.1) (by rw [← hA];exact hF19.2.2) (by omega)
 have hq2:=Qq7 hq (by rw [Nat.add_mul,Nat.one_mul,← hA];omega)
 rw [Nat.mul_comm s 2];exact hq2),rfl,hs.take 1⟩
   omega
  replace c16:=QQ2 c16
  refine Qap (Qab (Qaa (Qac (V:=I6 (s:Int)) rfl (Qaa (Qg0 (a:=(s:Int)) (b:=2) (c:=((s*2:Nat):Int)) rfl rfl (Qak (by omega) (by omega)) (Qaa (Qad (V:=I6 ((s*2:Nat):Int)) rfl (Qaf ?_))))))))
  refine ⟨_,?_,_,s*2,m3,Qai (Qao (ds:=([6,7,8,9]++sq 28 35)) (by repeat (first|exact Agr.refl _ _|refine Agr.upd ?_ rfl|refine Agr.mix ?_ rfl))) rfl,(by omega),(by omega),hz3,hpm3,(by rw [Nat.mul_comm s 2];exact Qoj hmr (by omega)),rfl,hs.take 1⟩
  omega
 replace c10:=QQ2 c10
 refine QaF ?_
 refine ⟨_,Qbr Tryz.results126,?_⟩
 exact ⟨m2,rfl,hs.take 1,hz2,hpm2.perm,QrV (QqU hb2 (by omega)) (by omega)⟩
theorem QsP (w:World) (S:Nat->Prop) (a:Option Addr) (N c:Nat) (l:List Cen) (hz:l.length=N) (hN:N<=1152921504606846975) (g:Nat) (hg:En Tryz.prog g) (cf:Cen->Cen->Int) (hc:CmpO cf) (hcmp:∀ (w:World) (x y:Cen),Calls Tryz.prog g #[.agg (cec x).toArray,.agg (cec y).toArray] w (fun e w'=>e = .returned (.int .i64 (cf x y))/\Own w no w' [])) (hR:(row (.slice a N c) (l.map cec) 106 7).holds w S) (hlt:∀ b,S b->b<w.heap.size):Calls Tryz.prog 75 #[.slice a N c,.func (.func g) #[] #[]] w (fun e w'=>∃ x:List Cen,e = .returned (.tuple #[])/\Own w S w' [row (.slice a N c) (x.map cec) 106 7]/\(x.length=N/\x.Perm l/\QlB cf x)):=by
 refine Qaj (n:=9) Tryz.func75 rfl Tryz.ntmps75 rfl ?_
 have hs:=Own.lent hR hlt
 refine Qab (Qaa (Qac (V:=.slice a N c) rfl (Qaa (Qac (V:=.slice a N c) rfl (Qaa (Qa2 (n:=N) QbM (hs.rd 0 rfl) (by simp [hz]) rfl (Qaa (Qac (V:=.func (.func g) #[] #[]) rfl (Qaa (Qbv (α:=List Cen) (vs:=[.slice a N c,I6 (N:Int),.func (.func g) #[] #[]]) (V:=fun _=>.tuple #[]) (R:=row (.slice a N c) (l.map cec) 106 7) (R':=fun x=>row (.slice a N c) (x.map cec) 106 7) (Lo:=fun _=>[]) (F:=fun x _=>x.length=N/\x.Perm l/\QlB cf x) Quq rfl rfl hs 0 rfl (fun S hS hlt=>QsZ _ S a N c l hz hN g hg cf hc hcmp hS hlt) fun mz1 w2 hs hF3=>(Qaf ?_)))))))))))
 refine ⟨_,Qbr Tryz.results75,?_⟩
 exact ⟨mz1,rfl,hs.take 1,hF3⟩
end Tt
end Go.Proofs
namespace Go.Proofs
open Go Go.Vx Go.RowKit
namespace Tt
theorem QpK (w:World) (s:Sta) (a1:Option Addr) (c1:Nat) (a2:Option Addr) (c2:Nat) (n:Int) (hok:Qdz s) (hle:s.ents.length<=1000) (hlt:s.ticks.length<=1000) (hr1:Rd w (.slice a1 s.ents.length c1) 7 (s.ents.map cec)) (hr2:Rd w (.slice a2 s.ticks.length c2) 2 (s.ticks.map lsc)):Calls Tryz.prog 33 #[.agg ((vc s.known)++[(.slice a1 s.ents.length c1:Value),(.slice a2 s.ticks.length c2:Value) ]).toArray,.int .u16 n] w (fun e w'=>∃ x:Option Addr × Nat,e = .returned (.agg [.int .u16 (Qay s n (Qas s)).cart,.slice x.1 (Qay s n (Qas s)).lines.length x.2,.bool (Qay s n (Qas s)).out,.int .u32 (Qay s n (Qas s)).tick].toArray)/\Own w no w' [row (.slice x.1 (Qay s n (Qas s)).lines.length x.2) ((Qay s n (Qas s)).lines.map lc) 127 2]/\True):=by
 refine Qaj (n:=94) Tryz.func33 rfl Tryz.ntmps33 rfl ?_
 have hs:=Own.start w
 have ⟨hv0,hE0,hT0⟩:=hok
 refine Qag (Qab (Qaa (QaN (V:=.agg ((vc s.known)++[(.slice a1 s.ents.length c1:Value),(.slice a2 s.ticks.length c2:Value) ]).toArray) (cs:=(vc s.known)++[(.slice a1 s.ents.length c1:Value),(.slice a2 s.ticks.length c2:Value) ]) rfl rfl hs fun b1 w2 hs=>(Qaa (QaM (cs:=[I7 0,.slice none 0 0,.bool false,.int .u32 0]) Qis rfl hs fun b3 w4 hs=>(Qaf (Qag (Qab (Qaa (Qac (V:=I7 n) rfl (Qaa (Qbw (vs:=[(0,I7 n)]) (cs:=[I7 n,.slice none 0 0,.bool false,.int .u32 0]) QrK (rfl) rfl (Qaa (QaM (cs:=[I7 0,.slice none 0 0,.bool false,.int .u32 0]) Qis rfl hs fun b5 w6 hs=>(Qaa (QcK (V:=.agg #[I7 n,.slice none 0 0,.bool false,.int .u32 0]) (vs:=[I7 n,.slice none 0 0,.bool false,.int .u32 0]) (cs':=[I7 n,.slice none 0 0,.bool false,.int .u32 0]) Qcn.1 hs 2 rfl rfl rfl rfl rfl (QQ8 rfl) (Qav rfl (Qav rfl (Qav rfl (Qav rfl Qbk)))) (QaB rfl) fun w7 hs=>?_))))))))))))))))
 replace hs:Own w no w7 [blk b1 ((vc s.known)++[(.slice a1 s.ents.length c1:Value),(.slice a2 s.ticks.length c2:Value) ]) 38,blk b3 [I7 0,.slice none 0 0,.bool false,.int .u32 0] 49,blk b5 [I7 n,.slice none 0 0,.bool false,.int .u32 0] 49]:=hs
 refine Qaf (Qag (Qag (Qab (Qaa (QaG (cs:=(vc s.known)++[(.slice a1 s.ents.length c1:Value),(.slice a2 s.ticks.length c2:Value) ]) QcJ hs 0 rfl rfl rfl (Qaa (Qat (vs:=[.agg ((vc s.known)++[(.slice a1 s.ents.length c1:Value),(.slice a2 s.ticks.length c2:Value) ]).toArray]) (V:=.bool (Qas s)) QrJ rfl rfl ?hc hs fun w8 hs=>?_)))))))
 case hc=>exact (Qf0 _ s a1 c1 a2 c2 hok (by omega) (by omega) (Rd.own' hr1 hs) (Rd.own' hr2 hs))
 refine Qaa (Qbz rfl (Qaf (Qan (t:=!(Qas s)) rfl (fun c9=>?_) (fun c9=>?_))))
 ·
  replace c9:=Qbn c9
  refine Qag (Qab (Qaa (QaG (cs:=[I7 n,.slice none 0 0,.bool false,.int .u32 0]) Qcn hs 2 rfl rfl rfl (Qaa (QcK (V:=.agg #[I7 n,.slice none 0 0,.bool false,.int .u32 0]) (vs:=[I7 n,.slice none 0 0,.bool false,.int .u32 0]) (cs':=[I7 n,.slice none 0 0,.bool false,.int .u32 0]) Qcn.1 hs 1 rfl rfl rfl rfl rfl (QQ8 rfl) (Qav rfl (Qav rfl (Qav rfl (Qav rfl Qbk)))) (QaB rfl) fun w10 hs=>(Qaf (Qau ?_)))))))
  refine ⟨_,QcH (cs:=[I7 n,.slice none 0 0,.bool false,.int .u32 0]) Tryz.results33 Qcn hs 1 rfl rfl rfl,?_⟩
  rw [c9]
  exact ⟨(none,0),rfl,(hs.take 0).more _ (Qbg _ _ 127 2),trivial⟩
 replace c9:=Qbf c9
 refine Qap (Qag (Qag ?_))
 have hrc:=Qek.1 c9
 refine Qab (Qaa (QaG (cs:=(vc s.known)++[(.slice a1 s.ents.length c1:Value),(.slice a2 s.ticks.length c2:Value) ]) QcJ hs 0 rfl rfl rfl (Qaa (Qac (V:=I7 n) rfl (Qaa (Qat (vs:=[.agg ((vc s.known)++[(.slice a1 s.ents.length c1:Value),(.slice a2 s.ticks.length c2:Value) ]).toArray,I7 n]) (V:=.tuple #[I6 ((QeB s.ticks n:Nat):Int),.bool ((QaC s.ticks n).isSome)]) Qtx rfl rfl ?hc hs fun w11 hs=>?_))))))
 case hc=>exact (QkF _ s.known (.slice a1 s.ents.length c1) a2 c2 s.ticks n (by omega) hrc.rt (Rd.own' hr2 hs))
 refine Qaa (Qac (V:=.tuple #[I6 ((QeB s.ticks n:Nat):Int),.bool ((QaC s.ticks n).isSome)]) rfl (Qaa (Qax (V:=I6 ((QeB s.ticks n:Nat):Int)) rfl rfl (Qaa (Qax (V:=.bool ((QaC s.ticks n).isSome)) rfl rfl (Qaa (Qad (V:=I6 ((QeB s.ticks n:Nat):Int)) rfl (Qaa (Qad (V:=.bool ((QaC s.ticks n).isSome)) rfl (Qaf (Qag (Qab (Qaa (Qac (V:=.bool ((QaC s.ticks n).isSome)) rfl (Qaf (Qgl (fun J J' w'=>∃ (Jo:Env) (tk:Int),J'=mix (sq 25 7) Jo J/\(tk=(QaC s.ticks n).getD 0)/\Own w no w' [blk b1 ((vc s.known)++[(.slice a1 s.ents.length c1:Value),(.slice a2 s.ticks.length c2:Value) ]) 38,blk b3 [I7 0,.slice none 0 0,.bool false,.int .u32 0] 49,blk b5 [I7 n,.slice none 0 0,.bool false,.int .u32 tk] 49]) ?_ ?_))))))))))))))))
 ·
  refine Qan (t:=(QaC s.ticks n).isSome) rfl (fun c12=>?_) (fun c12=>?_)
  ·
   have hfa:=(Ql2 hrc.rt c12).1
   refine Qab (Qaa (Qae Qdr rfl (Qaa (QaE (V:=.slice a2 s.ticks.length c2) QgZ hs 0 rfl rfl rfl (Qaa (Qac (V:=I6 ((QeB s.ticks n:Nat):Int)) rfl (Qaa (Qaw Qgi Qc8.1 (Rd.own' hr2 hs) rfl rfl (by omega) (by rw [QQ6];omega) (Qaa (Qae Qh0 rfl (Qaa (QaR (j:=1) (V:=.int .u32 ((gd s.ticks (QeB s.ticks n)).tick)) (QeB s.ticks n) Qa6 (Rd.own' hr2 hs) (QaT (by omega)) rfl rfl (by omega) (Qaa (Qae Qji rfl (Qaa (Qc7 (V:=.int .u32 ((gd s.ticks (QeB s.ticks n)).tick)) (cs':=[I7 n,.slice none 0 0,.bool false,.int .u32 ((gd s.ticks (QeB s.ticks n)).tick)]) Qa6 hs 2 rfl rfl rfl rfl (QQ8 rfl) rfl fun w13 hs=>(Qaf ?_)))))))))))))))))
   exact ⟨_,(gd s.ticks (QeB s.ticks n)).tick,Qao (ds:=(sq 25 7)) (by repeat (first|exact Agr.refl _ _|refine Agr.upd ?_ rfl|refine Agr.mix ?_ rfl)),(by rw [(Ql2 hrc.rt c12).2.2];rfl),hs.take 3⟩
  refine Qap ?_
  exact ⟨_,0,Qao (ds:=(sq 25 7)) (by repeat (first|exact Agr.refl _ _|refine Agr.upd ?_ rfl|refine Agr.mix ?_ rfl)),(Qr0 c12),hs.take 3⟩
 rintro J' w14 ⟨Jo,tk,rfl,htk,hs⟩
 refine Qag (Qab (Qaa (Qad (V:=.slice none 0 0) rfl (Qaf (Qag (Qag (Qab (Qaa (Qae QeH rfl (Qaa (QaE (V:=.slice a1 s.ents.length c1) QjH hs 0 rfl rfl rfl (Qaa (Qa2 (n:=s.ents.length) QbM (Rd.own' hr1 hs) (by simp) rfl (Qaa (Qac (V:=I6 0) rfl (Qaf (Qam ?_)))))))))))))))))
 replace hs:=hs.more (row (.slice none 0 0) (List.map cec []) 106 7) (Qbg _ _ _ _)
 refine QaA (fun J μ J' w'=>∃ (Jo:Env) (k:Nat) (an9:Option Addr) (cn9:Nat) (L9:List Cen) (ou:Bool),J'=upd (upd (mix ([8,10]++sq 35 19) Jo J) 35 (I6 (k:Int))) 8 (.slice an9 L9.length cn9)/\(k<=s.ents.length)/\(L9=(s.ents.take k).filter (fun e:Cen=>decide (e.cart=n)&&!decide (e.kind=4)))/\(ou=(s.ents.take k).any (fun e:Cen=>decide (e.cart=n)&&decide (e.kind=4)))/\(L9.length<=k)/\μ=s.ents.length-k/\Own w no w' [blk b1 ((vc s.known)++[(.slice a1 s.ents.length c1:Value),(.slice a2 s.ticks.length c2:Value) ]) 38,blk b3 [I7 0,.slice none 0 0,.bool false,.int .u32 0] 49,blk b5 [I7 n,.slice none 0 0,.bool ou,.int .u32 tk] 49,row (.slice an9 L9.length cn9) (L9.map cec) 106 7]) ?_ ?_
 ·exact ⟨_,_,0,none,0,[],false,Qai (Qai (Qao (ds:=([8,10]++sq 35 19)) (Agr.refl _ _)) rfl) rfl,(by omega),rfl,rfl,(Nat.le_refl _),rfl,hs⟩
 rintro μ J' w15 ⟨Jo,k,an9,cn9,L9,ou,rfl,hk,hL9,hob,hl9,rfl,hs⟩
 refine Qag (Qab (Qaa (QaQ rfl rfl (Qaf (Qag (Qan (t:=decide ((k:Int)<((s.ents.length:Nat):Int))) rfl (fun c16=>?_) (fun c16=>?_)))))))
 ·
  replace c16:=QQ1 c16
  refine Qap (Qag (Qam (Qag (Qab (Qaa (Qaw QbM QaH.1 (Rd.own' hr1 hs) rfl rfl (by omega) (by rw [QQ6];omega) (Qaa (Qa1 (j:=0) (vs:=cec (gd s.ents k)) k QaH (Rd.own' hr1 hs) (QaT (by omega)) rfl rfl rfl (by omega) (Qaa (QaM (cs:=cec (⟨0,0,0,0,(⟨0,0⟩:Dot),0⟩:Cen)) Qhu rfl hs fun b17 w18 hs=>(Qaa (QcK (V:=.agg (cec (gd s.ents k)).toArray) (vs:=cec (gd s.ents k)) (cs':=cec (gd s.ents k)) QaH.1 hs 4 rfl rfl rfl rfl rfl (QQ8 rfl) (Qa8 _) (QaB rfl) fun w19 hs=>(Qaf (Qam (Qag (Qab (Qaa (Qae QdL rfl (Qaa (QaE (V:=I7 ((gd s.ents k).cart)) Qar hs 4 rfl rfl rfl (Qaa (Qac (V:=I7 n) rfl (Qaa (Qch rfl rfl (Qaa (Qad (V:=.bool (!decide ((gd s.ents k).cart=n))) rfl (Qaf (Qan (t:=!decide ((gd s.ents k).cart=n)) rfl (fun c20=>?_) (fun c20=>?_)))))))))))))))))))))))))))))
  ·
   replace c20:=Qbn c20
   replace c20:=QQ2 c20
   refine Qap (Qab (Qaa (QaD (a:=(k:Int)) (b:=1) (c:=((k+1:Nat):Int)) rfl rfl (Qak (by omega) (by omega)) (Qaa (Qac (V:=I6 ((k+1:Nat):Int)) rfl (Qaf ?_))))))
   refine ⟨_,?_,_,k+1,an9,cn9,L9,ou,Qai (Qai (Qao (ds:=([8,10]++sq 35 19)) (by repeat (first|exact Agr.refl _ _|refine Agr.upd ?_ rfl|refine Agr.mix ?_ rfl))) rfl) rfl,(by omega),(QdY (p:=(fun e:Cen=>decide (e.cart=n)&&!decide (e.kind=4))) hL9 (by omega) (by simp [c20])),(by rw [← QcM (p:=(fun e:Cen=>decide (e.cart=n)&&decide (e.kind=4))) hob (by omega)];simp [c20]),(by omega),rfl,hs.take 4⟩
   omega
  replace c20:=Qbf c20
  replace c20:=QQ1 c20
  refine Qag (Qab (Qaa (Qae QeV rfl (Qaa (QaE (V:=.int .u8 ((gd s.ents k).kind)) QcN hs 4 rfl rfl rfl (Qaa (QaS rfl rfl (Qaa (Qad (V:=.bool (decide ((gd s.ents k).kind=4))) rfl (Qaf (Qan (t:=decide ((gd s.ents k).kind=4)) rfl (fun c21=>?_) (fun c21=>?_))))))))))))
  ·
   replace c21:=QQ1 c21
   refine Qab (Qaa (Qae Qdb rfl (Qaa (Qc7 (V:=.bool true) (cs':=[I7 n,.slice none 0 0,.bool true,.int .u32 tk]) Qmh hs 2 rfl rfl rfl rfl (QQ8 rfl) rfl fun w22 hs=>(Qaf (Qab (Qaa (QaD (a:=(k:Int)) (b:=1) (c:=((k+1:Nat):Int)) rfl rfl (Qak (by omega) (by omega)) (Qaa (Qac (V:=I6 ((k+1:Nat):Int)) rfl (Qaf ?_)))))))))))
   refine ⟨_,?_,_,k+1,an9,cn9,L9,true,Qai (Qai (Qao (ds:=([8,10]++sq 35 19)) (by repeat (first|exact Agr.refl _ _|refine Agr.upd ?_ rfl|refine Agr.mix ?_ rfl))) rfl) rfl,(by omega),(QdY (p:=(fun e:Cen=>decide (e.cart=n)&&!decide (e.kind=4))) hL9 (by omega) (by simp [c20,c21])),(by rw [← QcM (p:=(fun e:Cen=>decide (e.cart=n)&&decide (e.kind=4))) hob (by omega)];simp [c20,c21]),(by omega),rfl,hs.take 4⟩
   omega
  replace c21:=QQ2 c21
  refine Qab (Qaa (Qac (V:=.slice an9 L9.length cn9) rfl (Qaa (QaG (cs:=cec (gd s.ents k)) QaH hs 4 rfl rfl rfl (Qaa (QeQ (vals:=[.agg (cec (gd s.ents k)).toArray]) (ls:=List.map cec ([gd s.ents k]:List Cen)) QhD rfl rfl rfl (Qbe (enc:=cec) (fun _=>rfl) _) (QaJ Qa8 _) (QQ8 rfl) hs fun b23 w24 hs=>(Qaa (QbN (ls':=(L9++[gd s.ents k]).map cec) (n:=(L9++[gd s.ents k]).length) QhD hs 3 rfl rfl rfl (hs.rd 5 rfl) (QaJ Qa8 _) (by simp only [QQ6,QQ7,List.length_cons,List.length_nil];omega) (by simp) (by simp) fun a25 c25 w26 hs=>?_))))))))
  replace hs:Own w no w26 [blk b1 ((vc s.known)++[(.slice a1 s.ents.length c1:Value),(.slice a2 s.ticks.length c2:Value) ]) 38,blk b3 [I7 0,.slice none 0 0,.bool false,.int .u32 0] 49,blk b5 [I7 n,.slice none 0 0,.bool ou,.int .u32 tk] 49,row (.slice a25 ((L9++[gd s.ents k]).length) c25) ((L9++[gd s.ents k]).map cec) 106 7,blk b17 (cec (gd s.ents k)) 106,row (.slice (some ⟨b23,0,none⟩) 1 1) ([gd s.ents k].map cec) 106 7]:=hs
  refine Qaa (Qad (V:=.slice a25 ((L9++[gd s.ents k]).length) c25) rfl (Qaf (Qab (Qaa (QaD (a:=(k:Int)) (b:=1) (c:=((k+1:Nat):Int)) rfl rfl (Qak (by omega) (by omega)) (Qaa (Qac (V:=I6 ((k+1:Nat):Int)) rfl (Qaf ?_))))))))
  refine ⟨_,?_,_,k+1,a25,c25,L9++[gd s.ents k],ou,Qai (Qai (Qao (ds:=([8,10]++sq 35 19)) (by repeat (first|exact Agr.refl _ _|refine Agr.upd ?_ rfl|refine Agr.mix ?_ rfl))) rfl) rfl,(by omega),(Qff (p:=(fun e:Cen=>decide (e.cart=n)&&!decide (e.kind=4))) hL9 (by omega) (by simp [c20,c21])),(by rw [← QcM (p:=(fun e:Cen=>decide (e.cart=n)&&decide (e.kind=4))) hob (by omega)];simp [c20,c21]),(by rw [QQ7,List.length_singleton];omega),rfl,hs.take 4⟩
  omega
 replace c16:=QQ2 c16
 refine QaF (Qag (Qab (Qaa (Qac (V:=.slice an9 L9.length cn9) rfl (Qaa (Qbv (α:=List Cen) (vs:=[.slice an9 L9.length cn9,.func (.func 76) #[] #[]]) (V:=fun _=>.tuple #[]) (R:=row (.slice an9 L9.length cn9) (L9.map cec) 106 7) (R':=fun x=>row (.slice an9 L9.length cn9) (x.map cec) 106 7) (Lo:=fun _=>[]) (F:=fun x _=>x.length=L9.length/\x.Perm L9/\QlB (fun x y:Cen=>Qa3 x.item y.item) x) QvR rfl rfl hs 3 rfl (fun S hS hlt=>QsP _ S an9 L9.length cn9 L9 rfl (by omega) 76 QuI (fun x y:Cen=>Qa3 x.item y.item) (Qpq (fun x:Cen=>x.item)) (fun w x y=>QoS w x y) hS hlt) fun sx28 w27 hs hF29=>(Qaf (Qag (Qam ?_)))))))))
 replace hs:=hs.more (row (.slice none 0 0) (List.map lc []) 127 2) (Qbg _ _ _ _)
 obtain ⟨hQl,hQp,hQs⟩:=hF29
 have hLE:L9=Qjv s n:=by rw [hL9,Qb6 (by omega)];rfl
 rw [hLE] at hQp
 have hobE:=hob
 rw [Qb6 (by omega)] at hobE
 have hQok:∀ e∈sx28,Qfb e/\1<=e.count:=fun e he=>by
  have hq:=QnZ hrc (hQp.mem_iff.1 he)
  exact ⟨hE0 e hq.1,hq.2⟩
 refine QaA (fun J μ J' w'=>∃ (Jo:Env) (R:List Cen) (I:List Int) (an3:Option Addr) (cn3:Nat) (an6:Option Addr) (cn6:Nat) (ol:List Line),J'=upd (mix ([8,11]++sq 56 37) Jo J) 8 (.slice an3 R.length cn3)/\(Grps sx28 R I)/\(ol=I.map (Qg3 s n))/\(ol.length+R.length<=sx28.length)/\(∀ w':World,Rd w' (.slice an9 L9.length cn9) 7 (sx28.map cec)->Rd w' (.slice an3 R.length cn3) 7 (R.map cec))/\μ=R.length+0/\Own w no w' [blk b1 ((vc s.known)++[(.slice a1 s.ents.length c1:Value),(.slice a2 s.ticks.length c2:Value) ]) 38,blk b3 [I7 0,.slice none 0 0,.bool false,.int .u32 0] 49,blk b5 [I7 n,.slice an6 ol.length cn6,.bool ou,.int .u32 tk] 49,row (.slice an9 L9.length cn9) (sx28.map cec) 106 7,row (.slice an6 ol.length cn6) (ol.map lc) 127 2]) ?_ ?_
 ·exact ⟨_,_,sx28,[],an9,cn9,none,0,[],Qai (Qao (ds:=([8,11]++sq 56 37)) (Agr.refl _ _)) (congrArg (fun n=>Value.slice an9 n cn9) hQl.symm),(Qlc _),rfl,(by simp),(fun w' h=>by rw [hQl];exact h),rfl,hs⟩
 rintro μ J' w30 ⟨Jo,R,I,an3,cn3,an6,cn6,ol,rfl,hgr,hol,hll,hvia,rfl,hs⟩
 refine Qag (Qag (Qab (Qaa (Qac (V:=.slice an3 R.length cn3) rfl (Qaa (Qa2 (n:=R.length) QbM (hvia _ (hs.rd 3 rfl)) (by simp) rfl (Qaa (QbY rfl rfl (Qaf (Qan (t:=decide (0<((R.length:Nat):Int))) rfl (fun c31=>?_) (fun c31=>?_)))))))))))
 ·
  replace c31:=QQ1 c31
  refine Qap (Qam (Qag (Qab (Qaa (Qad (V:=I6 1) rfl (Qaf (Qag (Qam (QaA (fun J μ J' w'=>∃ (Jo:Env) (j:Nat),J'=upd (mix ([11]++sq 59 18) Jo J) 11 (I6 (j:Int))/\(1<=j)/\(j<=R.length)/\(∀ i,i<j->(gd R i).item=(gd R 0).item)/\μ=R.length-j/\Own w no w' [blk b1 ((vc s.known)++[(.slice a1 s.ents.length c1:Value),(.slice a2 s.ticks.length c2:Value) ]) 38,blk b3 [I7 0,.slice none 0 0,.bool false,.int .u32 0] 49,blk b5 [I7 n,.slice an6 ol.length cn6,.bool ou,.int .u32 tk] 49,row (.slice an9 L9.length cn9) (sx28.map cec) 106 7,row (.slice an6 ol.length cn6) (ol.map lc) 127 2]) ?_ ?_)))))))))
  ·exact ⟨_,_,1,Qai (Qao (ds:=([11]++sq 59 18)) (Agr.refl _ _)) rfl,(Nat.le_refl _),(by omega),(fun i hi=>by rw [show i=0 by omega]),rfl,hs⟩
  rintro μ J' w32 ⟨Jo,j,rfl,hj1,hj2,hji,rfl,hs⟩
  refine Qag (Qag (QaI HM [some 59,some 60,some 61,some 62,some 63,some 64,some 65,some 66,some 67,some 68,some 69,some 70,some 71,some 72,some 73,some 74] [] [0,0,2,7,15,31,31,127,255,511,31,1055,3103,7199,16383,32767] [pv (I6 (j:Int)),pv (.slice an3 R.length cn3),pv (I6 ((R.length:Nat):Int)),pv (.bool (decide ((j:Int)<((R.length:Nat):Int)))),pv (.bool (decide ((j:Int)<((R.length:Nat):Int)))),pg ((decide ((j:Int)<((R.length:Nat):Int))) == true) (.slice an3 R.length cn3),pg ((decide ((j:Int)<((R.length:Nat):Int))) == true) (I6 (j:Int)),pg ((decide ((j:Int)<((R.length:Nat):Int))) == true) (.pointer (some ⟨bkS (.slice an3 R.length cn3),ofS (.slice an3 R.length cn3)+(j:Int).toNat*7,none⟩)),pg ((decide ((j:Int)<((R.length:Nat):Int))) == true) (.pointer (some ⟨bkS (.slice an3 R.length cn3),ofS (.slice an3 R.length cn3)+(j:Int).toNat*7+1,none⟩)),pg ((decide ((j:Int)<((R.length:Nat):Int))) == true) (I7 ((gd R j).item)),pg ((decide ((j:Int)<((R.length:Nat):Int))) == true) (.slice an3 R.length cn3),pg ((decide ((j:Int)<((R.length:Nat):Int))) == true) (.pointer (some ⟨bkS (.slice an3 R.length cn3),ofS (.slice an3 R.length cn3)+(0:Int).toNat*7,none⟩)),pg ((decide ((j:Int)<((R.length:Nat):Int))) == true) (.pointer (some ⟨bkS (.slice an3 R.length cn3),ofS (.slice an3 R.length cn3)+(0:Int).toNat*7+1,none⟩)),pg ((decide ((j:Int)<((R.length:Nat):Int))) == true) (I7 ((gd R 0).item)),pg ((decide ((j:Int)<((R.length:Nat):Int))) == true) (.bool (decide ((gd R j).item=(gd R 0).item))),pv (.bool ((decide ((j:Int)<((R.length:Nat):Int)))&&(decide ((gd R j).item=(gd R 0).item))))] (fun _ _=>_) [15] (by kernel_rfl) hs ⟨?_,?_,?_,?_,?_,?_,?_,?_,?_,?_,?_,?_,?_,?_,?_,?_,trivial⟩ ?_))
  ·exact oa [] fun D J w hs=>Qac (V:=.int .i64 (j:Int)) rfl (Zz hs)
  ·exact oa [] fun D J w hs=>Qac (V:=.slice an3 R.length cn3) rfl (Zz hs)
  ·exact oa [1] fun D J w hs=>Qa2 (n:=R.length) QbM (hvia _ (hs.rd 3 rfl)) (by simp) rfl (Zz hs)
  ·exact oa [0,2] fun D J w hs=>QaQ rfl rfl (Zz hs)
  ·exact oa [3] fun D J w hs=>Qac (V:=.bool (decide ((j:Int)<((R.length:Nat):Int)))) rfl (Zz hs)
  ·exact og [4] fun D J w hG hs=>Qac (V:=.slice an3 R.length cn3) rfl (Zz hs)
  ·exact og [4] fun D J w hG hs=>Qac (V:=.int .i64 (j:Int)) rfl (Zz hs)
  ·refine oy [4,5,6] [5,6] fun D J w hG hs=>?_
   have hgd:=QQ1 (eq_of_beq (hG))
   exact Qaw QbM QaH.1 (hvia _ (hs.rd 3 rfl)) rfl rfl (by omega) (by rw [QQ6];omega) (Zz hs)
  ·exact oy [4,7] [7] fun D J w hG hs=>Qae QdR rfl (Zz hs)
  ·refine oy [4,8] [8] fun D J w hG hs=>?_
   have hgd:=QQ1 (eq_of_beq (hG))
   exact QaR (j:=1) (V:=.int .u16 ((gd R j).item)) j Qar (hvia _ (hs.rd 3 rfl)) (QaT (by omega)) rfl rfl (by omega) (Zz hs)
  ·exact og [4] fun D J w hG hs=>Qac (V:=.slice an3 R.length cn3) rfl (Zz hs)
  ·refine oy [4,10] [10] fun D J w hG hs=>?_
   have hgd:=QQ1 (eq_of_beq (hG))
   exact Qaw QbM QaH.1 (hvia _ (hs.rd 3 rfl)) rfl rfl (by decide) (by rw [QQ6];omega) (Zz hs)
  ·exact oy [4,11] [11] fun D J w hG hs=>Qae QdR rfl (Zz hs)
  ·refine oy [4,12] [12] fun D J w hG hs=>?_
   have hgd:=QQ1 (eq_of_beq (hG))
   exact QaR (j:=1) (V:=.int .u16 ((gd R 0).item)) 0 Qar (hvia _ (hs.rd 3 rfl)) (QaT (by omega)) rfl rfl (by omega) (Zz hs)
  ·exact oy [4,9,13] [9,13] fun D J w hG hs=>QaS rfl rfl (Zz hs)
  ·exact oa [4,14] fun D J w hs=>Qa4 (h':=decide ((gd R j).item=(gd R 0).item)) rfl rfl rfl (Zz hs)
  rintro J1 w33 J2 hJ hs
  replace hJ:J2=upd (mix (sq 59 16) J1 _) 74 (.bool ((decide ((j:Int)<((R.length:Nat):Int)))&&(decide ((gd R j).item=(gd R 0).item)))):=hJ
  subst hJ
  refine Qan (t:=(decide ((j:Int)<((R.length:Nat):Int)))&&(decide ((gd R j).item=(gd R 0).item))) rfl (fun c34=>?_) (fun c34=>?_)
  ·
   have c34r:=QbF c34
   replace c34:=QbD c34
   replace c34:=QQ1 c34
   replace c34r:=QQ1 c34r
   refine Qap (Qam (Qab (Qaa (Qac (V:=I6 (j:Int)) rfl (Qaa (QaD (a:=(j:Int)) (b:=1) (c:=((j+1:Nat):Int)) rfl rfl (Qak (by omega) (by omega)) (Qaa (Qad (V:=I6 ((j+1:Nat):Int)) rfl (Qaf ?_)))))))))
   refine ⟨_,?_,_,j+1,Qai (Qao (ds:=([11]++sq 59 18)) (by repeat (first|exact Agr.refl _ _|refine Agr.upd ?_ rfl|refine Agr.mix ?_ rfl))) rfl,(by omega),(by omega),(fun i hi=>by
 rcases Nat.lt_or_eq_of_le (Nat.le_of_lt_succ hi) with q|q
 ·exact hji i q
 ·subst q;exact c34r),rfl,hs.take 5⟩
   omega
  refine QaF (Qag ?_)
  have hga:=Qr8 hrc hQp hgr hQs hj1 hj2 hji (by
          have ht:=c34
          rcases Nat.lt_or_ge j R.length with q|q
          ·right;intro h;simp [q,h] at ht
          ·left;omega)
  have hGok:∀ e∈R.take j,Qfb e/\1<=e.count:=fun e he=>hQok e (QoB hgr e (List.mem_of_mem_take he))
  replace hs:=hs.more emp trivial
  refine QaI HM [some 77,some 78,some 79,some 80,some 81,some 82,some 83,some 84,some 85,some 86,some 87,some 88,some 89,none] [[],[],[],[],[],[],[],[],[],[],[87],[88]] [0,1,0,4,12,28,0,0,192,508,1020,2047,4095,8191] [pv (Pq b5 (0+1)),pv (.slice an6 ol.length cn6),pv (.slice an3 R.length cn3),pv (.pointer (some ⟨bkS (.slice an3 R.length cn3),ofS (.slice an3 R.length cn3)+(0:Int).toNat*7,none⟩)),pv (.pointer (some ⟨bkS (.slice an3 R.length cn3),ofS (.slice an3 R.length cn3)+(0:Int).toNat*7+1,none⟩)),pv (I7 ((gd R 0).item)),pv (.slice an3 R.length cn3),pv (I6 (j:Int)),pv (.slice (sla an3 0 cn3 7) ((R.take j).length) (cn3-0)),pv (.agg (lc (⟨(gd R 0).item,QcT (R.take j)⟩:Line)).toArray),(true,fun J=>.slice (some ⟨(bOf (J 87)),0,none⟩) 1 1),(true,fun J=>.slice (aOf (J 88)) ((ol++[(⟨(gd R 0).item,QcT (R.take j)⟩:Line)]).length) (cOf (J 88))),pv (Pq b5 (0+1)),pn] (fun D J=>[blk b1 ((vc s.known)++[(.slice a1 s.ents.length c1:Value),(.slice a2 s.ticks.length c2:Value) ]) 38,blk b3 [I7 0,.slice none 0 0,.bool false,.int .u32 0] 49,cond (D 13) (blk b5 [I7 n,.slice (aOf (J 88)) ((ol++[(⟨(gd R 0).item,QcT (R.take j)⟩:Line)]).length) (cOf (J 88)),.bool ou,.int .u32 tk] 49) (blk b5 [I7 n,.slice an6 ol.length cn6,.bool ou,.int .u32 tk] 49),row (.slice an9 L9.length cn9) (sx28.map cec) 106 7,cond (D 11) (row (.slice (aOf (J 88)) ((ol++[(⟨(gd R 0).item,QcT (R.take j)⟩:Line)]).length) (cOf (J 88))) ((ol++[(⟨(gd R 0).item,QcT (R.take j)⟩:Line)]).map lc) 127 2) (row (.slice an6 ol.length cn6) (ol.map lc) 127 2),cond (D 10) (row (.slice (some ⟨(bOf (J 87)),0,none⟩) 1 1) ([(⟨(gd R 0).item,QcT (R.take j)⟩:Line)].map lc) 127 2) (emp)]) [] (by kernel_rfl) hs ⟨?_,?_,?_,?_,?_,?_,?_,?_,?_,?_,?_,?_,?_,?_,trivial⟩ ?_
  ·exact oa [] fun D J w hs=>Qae QcS rfl (Zz hs)
  ·exact ob [0] [13] rfl rfl fun D J w hs=>QaE (V:=.slice an6 ol.length cn6) QfL hs 2 rfl rfl rfl (Zz hs)
  ·exact oa [] fun D J w hs=>Qac (V:=.slice an3 R.length cn3) rfl (Zz hs)
  ·exact oa [2] fun D J w hs=>Qaw QbM QaH.1 (hvia _ (hs.rd 3 rfl)) rfl rfl (by decide) (by rw [QQ6];omega) (Zz hs)
  ·exact oa [3] fun D J w hs=>Qae QdR rfl (Zz hs)
  ·exact oa [4] fun D J w hs=>QaR (j:=1) (V:=.int .u16 ((gd R 0).item)) 0 Qar (hvia _ (hs.rd 3 rfl)) (QaT (by omega)) rfl rfl (by omega) (Zz hs)
  ·exact oa [] fun D J w hs=>Qac (V:=.slice an3 R.length cn3) rfl (Zz hs)
  ·exact oa [] fun D J w hs=>Qac (V:=.int .i64 (j:Int)) rfl (Zz hs)
  ·exact oa [6,7] fun D J w hs=>QqD (l:=0) (h:=j) (m:=cn3) (n':=(R.take j).length) Qi1 QaH.1 (hvia _ (hs.rd 3 rfl)) rfl (.inl ⟨rfl,rfl⟩) (.inr ⟨_,_,rfl,rfl⟩) (.inl ⟨rfl,rfl⟩) (by omega) (by omega) (Nat.le_trans (show j<=R.length by omega) (Rd.roomM (hvia _ (hs.rd 3 rfl)))) (Nat.le_refl _) (by simp only [List.length_take,List.length_drop]<;>omega) (Zz hs)
  ·exact oa [5,8] fun D J w hs=>Qat (vs:=[.int .u16 ((gd R 0).item),.slice (sla an3 0 cn3 7) ((R.take j).length) (cn3-0)]) (V:=.agg (lc (⟨(gd R 0).item,QcT (R.take j)⟩:Line)).toArray) Qvb rfl rfl (Qsg _ ((gd R 0).item) (sla an3 0 cn3 7) (cn3-0) (R.take j) hGok (Rd.subM (hvia _ (hs.rd 3 rfl)) 0 j cn3 (by omega) (by omega) (Nat.le_trans (show j<=R.length by omega) (Rd.roomM (hvia _ (hs.rd 3 rfl)))) (Nat.le_refl _) _ (by simp only [List.length_take,List.length_drop]<;>omega))) hs fun _ hs=>Zz hs
  ·exact oa [9] fun D J w hs=>QeQ (vals:=[.agg (lc (⟨(gd R 0).item,QcT (R.take j)⟩:Line)).toArray]) (ls:=List.map lc ([(⟨(gd R 0).item,QcT (R.take j)⟩:Line)]:List Line)) Qjw rfl rfl rfl (Qbe (enc:=lc) (fun _=>rfl) _) (QaJ QfB _) (QQ8 rfl) hs fun _ _ hs=>⟨rfl,hs.put 5 (QQ8 rfl)⟩
  ·exact ob [1,10] [13] rfl rfl fun D J w hs=>QbN (ls':=(ol++[(⟨(gd R 0).item,QcT (R.take j)⟩:Line)]).map lc) (n:=(ol++[(⟨(gd R 0).item,QcT (R.take j)⟩:Line)]).length) Qjw hs 4 rfl rfl rfl (hs.rd 5 rfl) (QaJ QfB _) (by simp only [QQ6,QQ7,List.length_cons,List.length_nil];omega) (by simp) (by simp) fun _ _ _ hs=>⟨rfl,hs⟩
  ·exact oa [] fun D J w hs=>Qae QcS rfl (Zz hs)
  ·exact oa [11,12] fun D J w hs=>Qc7 (V:=.slice (aOf (J 88)) ((ol++[(⟨(gd R 0).item,QcT (R.take j)⟩:Line)]).length) (cOf (J 88))) (cs':=[.int .u16 n,.slice (aOf (J 88)) ((ol++[(⟨(gd R 0).item,QcT (R.take j)⟩:Line)]).length) (cOf (J 88)),.bool ou,.int .u32 tk]) QfL hs 2 rfl rfl rfl rfl (QQ8 rfl) rfl fun _ hs=>⟨trivial,hs⟩
  rintro J1 w39 J2 hJ hs
  replace hJ:J2=mix (sq 77 13) J1 _:=hJ
  replace hs:Own w no w39 [blk b1 ((vc s.known)++[(.slice a1 s.ents.length c1:Value),(.slice a2 s.ticks.length c2:Value) ]) 38,blk b3 [I7 0,.slice none 0 0,.bool false,.int .u32 0] 49,blk b5 [I7 n,.slice (aOf (J1 88)) ((ol++[(⟨(gd R 0).item,QcT (R.take j)⟩:Line)]).length) (cOf (J1 88)),.bool ou,.int .u32 tk] 49,row (.slice an9 L9.length cn9) (sx28.map cec) 106 7,row (.slice (aOf (J1 88)) ((ol++[(⟨(gd R 0).item,QcT (R.take j)⟩:Line)]).length) (cOf (J1 88))) ((ol++[(⟨(gd R 0).item,QcT (R.take j)⟩:Line)]).map lc) 127 2,row (.slice (some ⟨(bOf (J1 87)),0,none⟩) 1 1) ([(⟨(gd R 0).item,QcT (R.take j)⟩:Line)].map lc) 127 2]:=hs
  generalize (bOf (J1 87))=b40 at hs
  generalize (aOf (J1 88))=a41 at hs
  generalize (cOf (J1 88))=c42 at hs
  subst hJ
  refine Qab (Qaa (Qac (V:=.slice an3 R.length cn3) rfl (Qaa (Qac (V:=I6 (j:Int)) rfl (Qaa (QqD (l:=j) (h:=R.length) (m:=cn3) (n':=(R.drop j).length) Qi1 QaH.1 (hvia _ (hs.rd 3 rfl)) rfl (.inr ⟨_,_,rfl,rfl⟩) (.inl ⟨rfl,rfl⟩) (.inl ⟨rfl,rfl⟩) (by omega) (by omega) (Nat.le_trans (show R.length<=R.length by omega) (Rd.roomM (hvia _ (hs.rd 3 rfl)))) (Nat.le_refl _) (by simp only [List.length_take,List.length_drop]<;>omega) ?_))))))
  refine Qaa (Qad (V:=.slice (sla an3 j cn3 7) ((R.drop j).length) (cn3-j)) rfl (Qaf ?_))
  refine ⟨_,?_,_,R.drop j,I++[(gd R 0).item],(sla an3 j cn3 7),cn3-j,a41,c42,ol++[(⟨(gd R 0).item,QcT (R.take j)⟩:Line)],Qai (Qao (ds:=([8,11]++sq 56 37)) (by repeat (first|exact Agr.refl _ _|refine Agr.upd ?_ rfl|refine Agr.mix ?_ rfl))) rfl,hga.1,(QiV hol hga.2),(by simp only [QQ7,List.length_singleton,List.length_drop];omega),(fun w' h=>Rd.dropM (hvia w' h) j (by omega) _ (by rw [List.length_drop])),rfl,hs.take 5⟩
  (rw [List.length_drop];omega)
 replace c31:=QQ2 c31
 refine QaF (Qag (Qab (Qaa (QaG (cs:=[I7 n,.slice an6 ol.length cn6,.bool ou,.int .u32 tk]) Qcn hs 2 rfl rfl rfl (Qaa (QcK (V:=.agg #[I7 n,.slice an6 ol.length cn6,.bool ou,.int .u32 tk]) (vs:=[I7 n,.slice an6 ol.length cn6,.bool ou,.int .u32 tk]) (cs':=[I7 n,.slice an6 ol.length cn6,.bool ou,.int .u32 tk]) Qcn.1 hs 1 rfl rfl rfl rfl rfl (QQ8 rfl) (Qav rfl (Qav rfl (Qav rfl (Qav rfl Qbk)))) (QaB rfl) fun w43 hs=>(Qaf (Qau ?_))))))))
 refine ⟨_,QcH (cs:=[I7 n,.slice an6 ol.length cn6,.bool ou,.int .u32 tk]) Tryz.results33 Qcn hs 1 rfl rfl rfl,?_⟩
 have hV:=QrM c9 htk hobE hQp hgr (by omega) hol
 rw [hV]
 exact ⟨(an6,cn6),rfl,hs.only 4 rfl,trivial⟩
end Tt
end Go.Proofs
namespace Go.Proofs
open Go Go.Vx Go.RowKit
namespace Tt
theorem Qe7 (w:World) (s:Sta) (a1:Option Addr) (c1:Nat) (a2:Option Addr) (c2:Nat) (n:Int) (V:Vw) (hV:Qay s n (Qas s)=V) (hok:Qdz s) (hle:s.ents.length<=1000) (hlt:s.ticks.length<=1000) (hr1:Rd w (.slice a1 s.ents.length c1) 7 (s.ents.map cec)) (hr2:Rd w (.slice a2 s.ticks.length c2) 2 (s.ticks.map lsc)):Calls Tryz.prog 33 #[.agg ((vc s.known)++[(.slice a1 s.ents.length c1:Value),(.slice a2 s.ticks.length c2:Value) ]).toArray,.int .u16 n] w (fun e w'=>∃ x:Option Addr × Nat,e = .returned (.agg [.int .u16 (V).cart,.slice x.1 (V).lines.length x.2,.bool (V).out,.int .u32 (V).tick].toArray)/\Own w no w' [row (.slice x.1 (V).lines.length x.2) ((V).lines.map lc) 127 2]/\True):=by
 subst hV;exact QpK w s a1 c1 a2 c2 n hok hle hlt hr1 hr2
end Tt
end Go.Proofs
namespace Go.Proofs
open Go Go.Vx Go.RowKit
namespace Tt
theorem QkJ (w:World) (p:Pst) (a1:Option Addr) (c1:Nat) (a2:Option Addr) (c2:Nat) (a3:Option Addr) (c3:Nat) (a b:Vec) (ha:QbV a) (hb:QbV b) (hsortE:QgY Tryz.prog 48 49 cec 106 7 QjX) (hsortU:QgT Tryz.prog 134 .u16 32) (hok:Qc0 p) (hle:p.base.ents.length<=400) (hlt:p.base.ticks.length<=400) (hlo:p.ops.length<=400) (hr1:Rd w (.slice a1 p.base.ents.length c1) 7 (p.base.ents.map cec)) (hr2:Rd w (.slice a2 p.base.ticks.length c2) 2 (p.base.ticks.map lsc)) (hr3:Rd w (.slice a3 p.ops.length c3) 23 (p.ops.map oc)):Calls Tryz.prog 22 #[.agg (((vc p.base.known)++[(.slice a1 p.base.ents.length c1:Value),(.slice a2 p.base.ticks.length c2:Value) ])++[(.slice a3 p.ops.length c3:Value) ]++(vc p.known)).toArray,.agg (vc a).toArray,.agg (vc b).toArray] w (fun e w'=>∃ x:Option Addr × Nat,e = .returned (.tuple #[.slice x.1 (Qbt p a b).length x.2,.int .i64 (QbE p a b)])/\Own w no w' [row (.slice x.1 (Qbt p a b).length x.2) ((Qbt p a b).map dfc) 83 5]/\True):=by
 refine Qaj (n:=55) Tryz.func22 rfl Tryz.ntmps22 rfl ?_
 have hs:=Own.start w
 have ⟨hokb,hoko,hokk⟩:=hok
 have hsa:=QcG p a
 have hsoa:=Qdw (cut:=a) hok ha
 have hsb:=QcG p b
 have hsob:=Qdw (cut:=b) hok hb
 refine Qag (Qab (Qaa (QaN (V:=.agg (((vc p.base.known)++[(.slice a1 p.base.ents.length c1:Value),(.slice a2 p.base.ticks.length c2:Value) ])++[(.slice a3 p.ops.length c3:Value) ]++(vc p.known)).toArray) (cs:=((vc p.base.known)++[(.slice a1 p.base.ents.length c1:Value),(.slice a2 p.base.ticks.length c2:Value) ])++[(.slice a3 p.ops.length c3:Value) ]++(vc p.known)) rfl rfl hs fun b1 w2 hs=>(Qaa (QaN (V:=.agg (vc a).toArray) (cs:=vc a) rfl rfl hs fun b3 w4 hs=>(Qaa (QaN (V:=.agg (vc b).toArray) (cs:=vc b) rfl rfl hs fun b5 w6 hs=>(Qaa (Qad (V:=.slice none 0 0) rfl (Qaa (Qad (V:=I6 0) rfl (Qaf (Qag (Qab (Qaa (QaG (cs:=((vc p.base.known)++[(.slice a1 p.base.ents.length c1:Value),(.slice a2 p.base.ticks.length c2:Value) ])++[(.slice a3 p.ops.length c3:Value) ]++(vc p.known)) QeD hs 0 rfl rfl rfl (Qaa (QaG (cs:=vc a) QbA hs 1 rfl rfl rfl (Qaa (Qbh (α:=(Option Addr × Nat) × (Option Addr × Nat)) (vs:=[.agg (((vc p.base.known)++[(.slice a1 p.base.ents.length c1:Value),(.slice a2 p.base.ticks.length c2:Value) ])++[(.slice a3 p.ops.length c3:Value) ]++(vc p.known)).toArray,.agg (vc a).toArray]) (V:=fun x:(Option Addr × Nat) × (Option Addr × Nat)=>.tuple #[.agg (vc (Qah p a).known++[(.slice x.1.1 ((Qah p a).ents).length x.1.2:Value),(.slice x.2.1 ((Qah p a).ticks).length x.2.2:Value)]).toArray,I6 (Qbb p a)]) (Lo:=fun x=>[row (.slice x.1.1 ((Qah p a).ents).length x.1.2) (((Qah p a).ents).map cec) 106 7,row (.slice x.2.1 ((Qah p a).ticks).length x.2.2) (((Qah p a).ticks).map lsc) 102 2]) (F:=fun _ _=>True) Qna rfl rfl ?hc hs fun x8 w7 hs _=>?_))))))))))))))))))))
 case hc=>exact (Qeb _ p a1 c1 a2 c2 a3 c3 a ha hsortE hsortU hok hle hlt hlo (Rd.own' hr1 hs) (Rd.own' hr2 hs) (Rd.own' hr3 hs))
 replace hs:Own w no w7 [blk b1 (((vc p.base.known)++[(.slice a1 p.base.ents.length c1:Value),(.slice a2 p.base.ticks.length c2:Value) ])++[(.slice a3 p.ops.length c3:Value) ]++(vc p.known)) 43,blk b3 (vc a) 24,blk b5 (vc b) 24,row (.slice x8.1.1 (((Qah p a).ents).length) x8.1.2) (((Qah p a).ents).map cec) 106 7,row (.slice x8.2.1 (((Qah p a).ticks).length) x8.2.2) (((Qah p a).ticks).map lsc) 102 2]:=hs
 refine Qaa (Qac (V:=.tuple #[.agg ((vc ((Qah p a).known))++[(.slice x8.1.1 (((Qah p a).ents).length) x8.1.2:Value),(.slice x8.2.1 (((Qah p a).ticks).length) x8.2.2:Value) ]).toArray,I6 (Qbb p a)]) rfl (Qaa (Qax (V:=.agg ((vc ((Qah p a).known))++[(.slice x8.1.1 (((Qah p a).ents).length) x8.1.2:Value),(.slice x8.2.1 (((Qah p a).ticks).length) x8.2.2:Value) ]).toArray) rfl rfl (Qaa (Qax (V:=I6 (Qbb p a)) rfl rfl (Qaa (QaM (cs:=(vc vzero)++[(.slice none 0 0:Value),(.slice none 0 0:Value) ]) QhN rfl hs fun b9 w10 hs=>(Qaa (QcK (V:=.agg ((vc ((Qah p a).known))++[(.slice x8.1.1 (((Qah p a).ents).length) x8.1.2:Value),(.slice x8.2.1 (((Qah p a).ticks).length) x8.2.2:Value) ]).toArray) (vs:=(vc ((Qah p a).known))++[(.slice x8.1.1 (((Qah p a).ents).length) x8.1.2:Value),(.slice x8.2.1 (((Qah p a).ticks).length) x8.2.2:Value) ]) (cs':=(vc ((Qah p a).known))++[(.slice x8.1.1 (((Qah p a).ents).length) x8.1.2:Value),(.slice x8.2.1 (((Qah p a).ticks).length) x8.2.2:Value) ]) QcJ.1 hs 5 rfl rfl rfl rfl rfl (QQ8 rfl) (QbT (QcB _) (Qav rfl (Qav rfl Qbk))) (QaB rfl) fun w11 hs=>(Qaa (Qad (V:=I6 (Qbb p a)) rfl (Qaf (Qag (Qag (Qab (Qaa (Qac (V:=I6 (Qbb p a)) rfl (Qaa (Qch rfl rfl (Qaf (Qan (t:=!decide (Qbb p a=0)) rfl (fun c12=>?_) (fun c12=>?_))))))))))))))))))))))
 ·
  replace c12:=Qbn c12
  replace c12:=QQ2 c12
  refine Qag (Qab (Qaa (Qac (V:=I6 (Qbb p a)) rfl (Qaa (Qad (V:=.slice none 0 0) rfl (Qaa (Qad (V:=I6 (Qbb p a)) rfl (Qaf (Qau ?_)))))))))
  refine ⟨_,Qbs (U:=.slice none 0 0) (V:=I6 (Qbb p a)) Tryz.results22 rfl rfl,?_⟩
  have hX:QbE p a b=Qbb p a:=Qnc c12
  rw [Qfu (by rw [hX];exact c12),hX]
  exact ⟨(none,0),rfl,(hs.take 0).more _ (Qbg _ _ _ _),trivial⟩
 replace c12:=Qbf c12
 replace c12:=QQ1 c12
 refine Qap (Qag (Qab (Qaa (QaG (cs:=((vc p.base.known)++[(.slice a1 p.base.ents.length c1:Value),(.slice a2 p.base.ticks.length c2:Value) ])++[(.slice a3 p.ops.length c3:Value) ]++(vc p.known)) QeD hs 0 rfl rfl rfl (Qaa (QaG (cs:=vc b) QbA hs 2 rfl rfl rfl (Qaa (Qbh (α:=(Option Addr × Nat) × (Option Addr × Nat)) (vs:=[.agg (((vc p.base.known)++[(.slice a1 p.base.ents.length c1:Value),(.slice a2 p.base.ticks.length c2:Value) ])++[(.slice a3 p.ops.length c3:Value) ]++(vc p.known)).toArray,.agg (vc b).toArray]) (V:=fun x:(Option Addr × Nat) × (Option Addr × Nat)=>.tuple #[.agg (vc (Qah p b).known++[(.slice x.1.1 ((Qah p b).ents).length x.1.2:Value),(.slice x.2.1 ((Qah p b).ticks).length x.2.2:Value)]).toArray,I6 (Qbb p b)]) (Lo:=fun x=>[row (.slice x.1.1 ((Qah p b).ents).length x.1.2) (((Qah p b).ents).map cec) 106 7,row (.slice x.2.1 ((Qah p b).ticks).length x.2.2) (((Qah p b).ticks).map lsc) 102 2]) (F:=fun _ _=>True) Qna rfl rfl ?hc hs fun x14 w13 hs _=>?_))))))))
 case hc=>exact (Qeb _ p a1 c1 a2 c2 a3 c3 b hb hsortE hsortU hok hle hlt hlo (Rd.own' hr1 hs) (Rd.own' hr2 hs) (Rd.own' hr3 hs))
 refine Qaa (Qac (V:=.tuple #[.agg ((vc ((Qah p b).known))++[(.slice x14.1.1 (((Qah p b).ents).length) x14.1.2:Value),(.slice x14.2.1 (((Qah p b).ticks).length) x14.2.2:Value) ]).toArray,I6 (Qbb p b)]) rfl (Qaa (Qax (V:=.agg ((vc ((Qah p b).known))++[(.slice x14.1.1 (((Qah p b).ents).length) x14.1.2:Value),(.slice x14.2.1 (((Qah p b).ticks).length) x14.2.2:Value) ]).toArray) rfl rfl (Qaa (Qax (V:=I6 (Qbb p b)) rfl rfl (Qaa (QaM (cs:=(vc vzero)++[(.slice none 0 0:Value),(.slice none 0 0:Value) ]) QhN rfl hs fun b15 w16 hs=>?_)))))))
 replace hs:Own w no w16 [blk b1 (((vc p.base.known)++[(.slice a1 p.base.ents.length c1:Value),(.slice a2 p.base.ticks.length c2:Value) ])++[(.slice a3 p.ops.length c3:Value) ]++(vc p.known)) 43,blk b3 (vc a) 24,blk b5 (vc b) 24,row (.slice x8.1.1 (((Qah p a).ents).length) x8.1.2) (((Qah p a).ents).map cec) 106 7,row (.slice x8.2.1 (((Qah p a).ticks).length) x8.2.2) (((Qah p a).ticks).map lsc) 102 2,blk b9 ((vc ((Qah p a).known))++[(.slice x8.1.1 (((Qah p a).ents).length) x8.1.2:Value),(.slice x8.2.1 (((Qah p a).ticks).length) x8.2.2:Value) ]) 38,row (.slice x14.1.1 (((Qah p b).ents).length) x14.1.2) (((Qah p b).ents).map cec) 106 7,row (.slice x14.2.1 (((Qah p b).ticks).length) x14.2.2) (((Qah p b).ticks).map lsc) 102 2,blk b15 ((vc vzero)++[(.slice none 0 0:Value),(.slice none 0 0:Value) ]) 38]:=hs
 refine Qaa (QcK (V:=.agg ((vc ((Qah p b).known))++[(.slice x14.1.1 (((Qah p b).ents).length) x14.1.2:Value),(.slice x14.2.1 (((Qah p b).ticks).length) x14.2.2:Value) ]).toArray) (vs:=(vc ((Qah p b).known))++[(.slice x14.1.1 (((Qah p b).ents).length) x14.1.2:Value),(.slice x14.2.1 (((Qah p b).ticks).length) x14.2.2:Value) ]) (cs':=(vc ((Qah p b).known))++[(.slice x14.1.1 (((Qah p b).ents).length) x14.1.2:Value),(.slice x14.2.1 (((Qah p b).ticks).length) x14.2.2:Value) ]) QcJ.1 hs 8 rfl rfl rfl rfl rfl (QQ8 rfl) (QbT (QcB _) (Qav rfl (Qav rfl Qbk))) (QaB rfl) fun w17 hs=>(Qaa (Qad (V:=I6 (Qbb p b)) rfl (Qaf (Qag (Qam (Qag (Qab (Qaa (Qac (V:=I6 (Qbb p b)) rfl (Qaa (Qch rfl rfl (Qaa (Qad (V:=.bool (!decide (Qbb p b=0))) rfl (Qaf (Qan (t:=!decide (Qbb p b=0)) rfl (fun c18=>?_) (fun c18=>?_)))))))))))))))))
 ·
  replace c18:=Qbn c18
  replace c18:=QQ2 c18
  refine Qag (Qab (Qaa (Qac (V:=I6 (Qbb p b)) rfl (Qaa (Qad (V:=.slice none 0 0) rfl (Qaa (Qad (V:=I6 (Qbb p b)) rfl (Qaf (Qau ?_)))))))))
  refine ⟨_,Qbs (U:=.slice none 0 0) (V:=I6 (Qbb p b)) Tryz.results22 rfl rfl,?_⟩
  have hX:QbE p a b=Qbb p b:=QmC c12 c18
  rw [Qfu (by rw [hX];exact c18),hX]
  exact ⟨(none,0),rfl,(hs.take 0).more _ (Qbg _ _ _ _),trivial⟩
 replace c18:=Qbf c18
 replace c18:=QQ1 c18
 refine Qag (Qab (Qaa (QaG (cs:=vc a) QbA hs 1 rfl rfl rfl (Qaa (QaG (cs:=vc b) QbA hs 2 rfl rfl rfl (Qaa (Qat (vs:=[.agg (vc a).toArray,.agg (vc b).toArray]) (V:=.bool (vle a b)) QqN rfl rfl ?hc hs fun w19 hs=>?_)))))))
 case hc=>exact (Qgj _ a b)
 refine Qaa (Qbz rfl (Qaa (Qad (V:=.bool (!(vle a b))) rfl (Qaf (Qan (t:=!(vle a b)) rfl (fun c20=>?_) (fun c20=>?_))))))
 ·
  replace c20:=Qbn c20
  refine Qag (Qab (Qaa (Qad (V:=.slice none 0 0) rfl (Qaa (Qad (V:=I6 14) rfl (Qaf (Qau ?_)))))))
  refine ⟨_,Qbs (U:=.slice none 0 0) (V:=I6 14) Tryz.results22 rfl rfl,?_⟩
  have hX:QbE p a b=14:=Qmi c12 c18 c20
  rw [Qfu (by rw [hX];decide),hX]
  exact ⟨(none,0),rfl,(hs.take 0).more _ (Qbg _ _ _ _),trivial⟩
 replace c20:=Qbf c20
 refine Qap (Qag (Qab (Qaa (QaM (cs:=[.slice none 0 0]) Qve rfl hs fun b21 w22 hs=>(Qaf (Qag (Qag (Qab (Qaa (QaG (cs:=(vc ((Qah p b).known))++[(.slice x14.1.1 (((Qah p b).ents).length) x14.1.2:Value),(.slice x14.2.1 (((Qah p b).ticks).length) x14.2.2:Value) ]) QcJ hs 8 rfl rfl rfl (Qaa (Qbh (vs:=[.agg ((vc ((Qah p b).known))++[(.slice x14.1.1 (((Qah p b).ents).length) x14.1.2:Value),(.slice x14.2.1 (((Qah p b).ticks).length) x14.2.2:Value) ]).toArray]) (V:=fun x:Option Addr × Nat=>.slice x.1 (Qaz (Qah p b)).length x.2) QsI rfl rfl (Qij _ (Qah p b) x14.1.1 x14.1.2 x14.2.1 x14.2.2 hsob (by omega) (by omega) (hs.rd 6 rfl) (hs.rd 7 rfl)) hs fun x23 w24 hs _=>(Qaa (Qa2 (n:=(Qaz (Qah p b)).length) QaL (hs.rd 10 rfl) (by simp) rfl (Qaa (Qac (V:=I6 0) rfl (Qaf (Qam ?_))))))))))))))))))
 replace hs:=hs.more (row (.slice none 0 0) (List.map dfc []) 83 5) (Qbg _ _ _ _)
 have ho:=(hs.join 9 11 (by decide) rfl rfl).conv 9 (R':=Qew 60 83 b21 []) rfl fun _ h=>⟨(none,0),h⟩
 replace hs:=ho
 have hcl:=QiS (Qah p b)
 refine QaA (fun J μ J' w'=>∃ (Jo:Env) (k:Nat) (out:List Dif),J'=upd (mix ([13]++sq 41 13) Jo J) 41 (I6 (k:Int))/\(k<=(Qaz (Qah p b)).length)/\(out=((Qaz (Qah p b)).take k).flatMap (Qcv p a b))/\(out.length<=k*2000)/\μ=(Qaz (Qah p b)).length-k/\Own w no w' [blk b1 (((vc p.base.known)++[(.slice a1 p.base.ents.length c1:Value),(.slice a2 p.base.ticks.length c2:Value) ])++[(.slice a3 p.ops.length c3:Value) ]++(vc p.known)) 43,blk b3 (vc a) 24,blk b5 (vc b) 24,row (.slice x8.1.1 (((Qah p a).ents).length) x8.1.2) (((Qah p a).ents).map cec) 106 7,row (.slice x8.2.1 (((Qah p a).ticks).length) x8.2.2) (((Qah p a).ticks).map lsc) 102 2,blk b9 ((vc ((Qah p a).known))++[(.slice x8.1.1 (((Qah p a).ents).length) x8.1.2:Value),(.slice x8.2.1 (((Qah p a).ticks).length) x8.2.2:Value) ]) 38,row (.slice x14.1.1 (((Qah p b).ents).length) x14.1.2) (((Qah p b).ents).map cec) 106 7,row (.slice x14.2.1 (((Qah p b).ticks).length) x14.2.2) (((Qah p b).ticks).map lsc) 102 2,blk b15 ((vc ((Qah p b).known))++[(.slice x14.1.1 (((Qah p b).ents).length) x14.1.2:Value),(.slice x14.2.1 (((Qah p b).ticks).length) x14.2.2:Value) ]) 38,Qew 60 83 b21 out,row (.slice x23.1 ((Qaz (Qah p b)).length) x23.2) ((Qaz (Qah p b)).map (ic .u16)) 32 1,emp]) ?_ ?_
 ·exact ⟨_,_,0,[],Qai (Qao (ds:=([13]++sq 41 13)) (Agr.refl _ _)) rfl,(by omega),rfl,(Nat.le_refl _),rfl,hs⟩
 rintro μ J' w25 ⟨Jo,k,out,rfl,hk,hout,hol,rfl,hs⟩
 have hvl1:(Qa5 p a (gd (Qaz (Qah p b)) k)).lines.length<=800:=Nat.le_trans (QcO _ _ _) (by omega)
 have hvl2:(Qa5 p b (gd (Qaz (Qah p b)) k)).lines.length<=800:=Nat.le_trans (QcO _ _ _) (by omega)
 refine Qag (Qab (Qaa (QaQ rfl rfl (Qaf (Qag (Qan (t:=decide ((k:Int)<(((Qaz (Qah p b)).length:Nat):Int))) rfl (fun c26=>?_) (fun c26=>?_)))))))
 ·
  replace c26:=QQ1 c26
  refine Qap (Qag (Qam (Qag (Qab (Qaa (Qaw QaL Qar.1 (hs.rd 10 rfl) rfl rfl (by omega) (by rw [QQ6];omega) (Qaa (QaR (j:=0) (V:=I7 (gd (Qaz (Qah p b)) k)) k Qar (hs.rd 10 rfl) (QaT (by omega)) rfl rfl (by omega) (Qaa (Qad (V:=I7 (gd (Qaz (Qah p b)) k)) rfl (Qaf ?_)))))))))))
  replace hs:=hs.more emp trivial
  replace hs:=hs.more emp trivial
  refine QaI HM [some 45,some 46,some 47,some 48,some 49,some 50,some 51,some 52] [[],[],[47],[],[],[50]] [0,0,3,0,0,31,0,127] [pv (.agg ((vc ((Qah p a).known))++[(.slice x8.1.1 (((Qah p a).ents).length) x8.1.2:Value),(.slice x8.2.1 (((Qah p a).ticks).length) x8.2.2:Value) ]).toArray),pv (I7 (gd (Qaz (Qah p b)) k)),(true,fun J=>.agg #[I7 ((Qa5 p a (gd (Qaz (Qah p b)) k)).cart),.slice (aOf (Qbq (J 47) 1)) (((Qa5 p a (gd (Qaz (Qah p b)) k)).lines).length) (cOf (Qbq (J 47) 1)),.bool ((Qa5 p a (gd (Qaz (Qah p b)) k)).out),.int .u32 ((Qa5 p a (gd (Qaz (Qah p b)) k)).tick)]),pv (.agg ((vc ((Qah p b).known))++[(.slice x14.1.1 (((Qah p b).ents).length) x14.1.2:Value),(.slice x14.2.1 (((Qah p b).ticks).length) x14.2.2:Value) ]).toArray),pv (I7 (gd (Qaz (Qah p b)) k)),(true,fun J=>.agg #[I7 ((Qa5 p b (gd (Qaz (Qah p b)) k)).cart),.slice (aOf (Qbq (J 50) 1)) (((Qa5 p b (gd (Qaz (Qah p b)) k)).lines).length) (cOf (Qbq (J 50) 1)),.bool ((Qa5 p b (gd (Qaz (Qah p b)) k)).out),.int .u32 ((Qa5 p b (gd (Qaz (Qah p b)) k)).tick)]),pv (.func (.func 65) #[] #[Pq b21 0]),pv (.tuple #[])] (fun D J=>[blk b1 (((vc p.base.known)++[(.slice a1 p.base.ents.length c1:Value),(.slice a2 p.base.ticks.length c2:Value) ])++[(.slice a3 p.ops.length c3:Value) ]++(vc p.known)) 43,blk b3 (vc a) 24,blk b5 (vc b) 24,row (.slice x8.1.1 (((Qah p a).ents).length) x8.1.2) (((Qah p a).ents).map cec) 106 7,row (.slice x8.2.1 (((Qah p a).ticks).length) x8.2.2) (((Qah p a).ticks).map lsc) 102 2,blk b9 ((vc ((Qah p a).known))++[(.slice x8.1.1 (((Qah p a).ents).length) x8.1.2:Value),(.slice x8.2.1 (((Qah p a).ticks).length) x8.2.2:Value) ]) 38,row (.slice x14.1.1 (((Qah p b).ents).length) x14.1.2) (((Qah p b).ents).map cec) 106 7,row (.slice x14.2.1 (((Qah p b).ticks).length) x14.2.2) (((Qah p b).ticks).map lsc) 102 2,blk b15 ((vc ((Qah p b).known))++[(.slice x14.1.1 (((Qah p b).ents).length) x14.1.2:Value),(.slice x14.2.1 (((Qah p b).ticks).length) x14.2.2:Value) ]) 38,cond (D 7) (Qew 60 83 b21 (out++Qde (Qa5 p a (gd (Qaz (Qah p b)) k)) (Qa5 p b (gd (Qaz (Qah p b)) k)))) (Qew 60 83 b21 out),row (.slice x23.1 ((Qaz (Qah p b)).length) x23.2) ((Qaz (Qah p b)).map (ic .u16)) 32 1,emp,cond (D 2) (row (.slice (aOf (Qbq (J 47) 1)) (((Qa5 p a (gd (Qaz (Qah p b)) k)).lines).length) (cOf (Qbq (J 47) 1))) (((Qa5 p a (gd (Qaz (Qah p b)) k)).lines).map lc) 127 2) (emp),cond (D 5) (row (.slice (aOf (Qbq (J 50) 1)) (((Qa5 p b (gd (Qaz (Qah p b)) k)).lines).length) (cOf (Qbq (J 50) 1))) (((Qa5 p b (gd (Qaz (Qah p b)) k)).lines).map lc) 127 2) (emp)]) [] (by kernel_rfl) hs ⟨?_,?_,?_,?_,?_,?_,?_,?_,trivial⟩ ?_
  ·exact oa [] fun D J w hs=>QaG (cs:=(vc ((Qah p a).known))++[(.slice x8.1.1 (((Qah p a).ents).length) x8.1.2:Value),(.slice x8.2.1 (((Qah p a).ticks).length) x8.2.2:Value) ]) QcJ hs 5 rfl rfl rfl (Zz hs)
  ·exact oa [] fun D J w hs=>Qac (V:=.int .u16 (gd (Qaz (Qah p b)) k)) rfl (Zz hs)
  ·exact oa [0,1] fun D J w hs=>Qbh (α:=Option Addr × Nat) (vs:=[.agg ((vc ((Qah p a).known))++[(.slice x8.1.1 (((Qah p a).ents).length) x8.1.2:Value),(.slice x8.2.1 (((Qah p a).ticks).length) x8.2.2:Value) ]).toArray,.int .u16 (gd (Qaz (Qah p b)) k)]) (V:=fun x=>.agg #[.int .u16 ((Qa5 p a (gd (Qaz (Qah p b)) k)).cart),.slice x.1 (((Qa5 p a (gd (Qaz (Qah p b)) k)).lines).length) x.2,.bool ((Qa5 p a (gd (Qaz (Qah p b)) k)).out),.int .u32 ((Qa5 p a (gd (Qaz (Qah p b)) k)).tick)]) (Lo:=fun x=>[row (.slice x.1 ((Qa5 p a (gd (Qaz (Qah p b)) k)).lines).length x.2) (((Qa5 p a (gd (Qaz (Qah p b)) k)).lines).map lc) 127 2]) (F:=fun _ _=>True) Qpr rfl rfl (Qe7 _ (Qah p a) x8.1.1 x8.1.2 x8.2.1 x8.2.2 (gd (Qaz (Qah p b)) k) (Qa5 p a (gd (Qaz (Qah p b)) k):Vw) (rfl) hsoa (by omega) (by omega) (hs.rd 3 rfl) (hs.rd 4 rfl)) hs fun _ _ hs _=>⟨rfl,hs.put 12 (QQ8 rfl)⟩
  ·exact oa [] fun D J w hs=>QaG (cs:=(vc ((Qah p b).known))++[(.slice x14.1.1 (((Qah p b).ents).length) x14.1.2:Value),(.slice x14.2.1 (((Qah p b).ticks).length) x14.2.2:Value) ]) QcJ hs 8 rfl rfl rfl (Zz hs)
  ·exact oa [] fun D J w hs=>Qac (V:=.int .u16 (gd (Qaz (Qah p b)) k)) rfl (Zz hs)
  ·exact oa [3,4] fun D J w hs=>Qbh (α:=Option Addr × Nat) (vs:=[.agg ((vc ((Qah p b).known))++[(.slice x14.1.1 (((Qah p b).ents).length) x14.1.2:Value),(.slice x14.2.1 (((Qah p b).ticks).length) x14.2.2:Value) ]).toArray,.int .u16 (gd (Qaz (Qah p b)) k)]) (V:=fun x=>.agg #[.int .u16 ((Qa5 p b (gd (Qaz (Qah p b)) k)).cart),.slice x.1 (((Qa5 p b (gd (Qaz (Qah p b)) k)).lines).length) x.2,.bool ((Qa5 p b (gd (Qaz (Qah p b)) k)).out),.int .u32 ((Qa5 p b (gd (Qaz (Qah p b)) k)).tick)]) (Lo:=fun x=>[row (.slice x.1 ((Qa5 p b (gd (Qaz (Qah p b)) k)).lines).length x.2) (((Qa5 p b (gd (Qaz (Qah p b)) k)).lines).map lc) 127 2]) (F:=fun _ _=>True) Qpr rfl rfl (Qe7 _ (Qah p b) x14.1.1 x14.1.2 x14.2.1 x14.2.2 (gd (Qaz (Qah p b)) k) (Qa5 p b (gd (Qaz (Qah p b)) k):Vw) (rfl) hsob (by omega) (by omega) (hs.rd 6 rfl) (hs.rd 7 rfl)) hs fun _ _ hs _=>⟨rfl,hs.put 13 (QQ8 rfl)⟩
  ·exact oa [] fun D J w hs=>Qdv (cs:=[.pointer (some ⟨b21,0,none⟩)]) rfl rfl (Zz hs)
  ·exact oa [2,5,6] fun D J w hs=>Qjf (α:=Unit) (vs:=[.agg #[.int .u16 ((Qa5 p a (gd (Qaz (Qah p b)) k)).cart),.slice (aOf (Qbq (J 47) 1)) (((Qa5 p a (gd (Qaz (Qah p b)) k)).lines).length) (cOf (Qbq (J 47) 1)),.bool ((Qa5 p a (gd (Qaz (Qah p b)) k)).out),.int .u32 ((Qa5 p a (gd (Qaz (Qah p b)) k)).tick)],.agg #[.int .u16 ((Qa5 p b (gd (Qaz (Qah p b)) k)).cart),.slice (aOf (Qbq (J 50) 1)) (((Qa5 p b (gd (Qaz (Qah p b)) k)).lines).length) (cOf (Qbq (J 50) 1)),.bool ((Qa5 p b (gd (Qaz (Qah p b)) k)).out),.int .u32 ((Qa5 p b (gd (Qaz (Qah p b)) k)).tick)],.func (.func 65) #[] #[.pointer (some ⟨b21,0,none⟩)]]) (V:=fun _=>.tuple #[]) (R:=Qew 60 83 b21 out) (R':=fun _=>Qew 60 83 b21 (out++Qde (Qa5 p a (gd (Qaz (Qah p b)) k)) (Qa5 p b (gd (Qaz (Qah p b)) k)))) (Lo:=fun _=>[]) (F:=fun _ _=>True) Qvs rfl rfl hs 9 rfl (fun S hS hlS hK=>QnD _ S b21 out ((Qa5 p a (gd (Qaz (Qah p b)) k)).cart) ((Qa5 p a (gd (Qaz (Qah p b)) k)).lines) ((Qa5 p a (gd (Qaz (Qah p b)) k)).out) ((Qa5 p a (gd (Qaz (Qah p b)) k)).tick) (aOf (Qbq (J 47) 1)) (cOf (Qbq (J 47) 1)) ((Qa5 p b (gd (Qaz (Qah p b)) k)).cart) ((Qa5 p b (gd (Qaz (Qah p b)) k)).lines) ((Qa5 p b (gd (Qaz (Qah p b)) k)).out) ((Qa5 p b (gd (Qaz (Qah p b)) k)).tick) (aOf (Qbq (J 50) 1)) (cOf (Qbq (J 50) 1)) (Qj0 _ _ _) (Qj0 _ _ _) (Nat.le_trans (QcO _ _ _) (by omega)) (Nat.le_trans (QcO _ _ _) (by omega)) (fun w1 L1 h=>(hK 12 (by decide) _ rfl).rd h) (fun w1 L1 h=>(hK 13 (by decide) _ rfl).rd h) hS hlS (by omega)) fun _ _ hs _=>⟨rfl,hs⟩
  rintro J1 w30 J2 hJ hs
  replace hJ:J2=mix (sq 45 8) J1 _:=hJ
  replace hs:Own w no w30 [blk b1 (((vc p.base.known)++[(.slice a1 p.base.ents.length c1:Value),(.slice a2 p.base.ticks.length c2:Value) ])++[(.slice a3 p.ops.length c3:Value) ]++(vc p.known)) 43,blk b3 (vc a) 24,blk b5 (vc b) 24,row (.slice x8.1.1 (((Qah p a).ents).length) x8.1.2) (((Qah p a).ents).map cec) 106 7,row (.slice x8.2.1 (((Qah p a).ticks).length) x8.2.2) (((Qah p a).ticks).map lsc) 102 2,blk b9 ((vc ((Qah p a).known))++[(.slice x8.1.1 (((Qah p a).ents).length) x8.1.2:Value),(.slice x8.2.1 (((Qah p a).ticks).length) x8.2.2:Value) ]) 38,row (.slice x14.1.1 (((Qah p b).ents).length) x14.1.2) (((Qah p b).ents).map cec) 106 7,row (.slice x14.2.1 (((Qah p b).ticks).length) x14.2.2) (((Qah p b).ticks).map lsc) 102 2,blk b15 ((vc ((Qah p b).known))++[(.slice x14.1.1 (((Qah p b).ents).length) x14.1.2:Value),(.slice x14.2.1 (((Qah p b).ticks).length) x14.2.2:Value) ]) 38,Qew 60 83 b21 (out++Qde (Qa5 p a (gd (Qaz (Qah p b)) k)) (Qa5 p b (gd (Qaz (Qah p b)) k))),row (.slice x23.1 ((Qaz (Qah p b)).length) x23.2) ((Qaz (Qah p b)).map (ic .u16)) 32 1,emp,row (.slice (aOf (Qbq (J1 47) 1)) (((Qa5 p a (gd (Qaz (Qah p b)) k)).lines).length) (cOf (Qbq (J1 47) 1))) (((Qa5 p a (gd (Qaz (Qah p b)) k)).lines).map lc) 127 2,row (.slice (aOf (Qbq (J1 50) 1)) (((Qa5 p b (gd (Qaz (Qah p b)) k)).lines).length) (cOf (Qbq (J1 50) 1))) (((Qa5 p b (gd (Qaz (Qah p b)) k)).lines).map lc) 127 2]:=hs
  generalize (aOf (Qbq (J1 47) 1))=na31 at hs
  generalize (cOf (Qbq (J1 47) 1))=nc32 at hs
  generalize (aOf (Qbq (J1 50) 1))=na33 at hs
  generalize (cOf (Qbq (J1 50) 1))=nc34 at hs
  subst hJ
  refine Qab (Qaa (QaD (a:=(k:Int)) (b:=1) (c:=((k+1:Nat):Int)) rfl rfl (Qak (by omega) (by omega)) (Qaa (Qac (V:=I6 ((k+1:Nat):Int)) rfl (Qaf ?_)))))
  refine ⟨_,?_,_,k+1,(out++Qde (Qa5 p a (gd (Qaz (Qah p b)) k)) (Qa5 p b (gd (Qaz (Qah p b)) k))),Qai (Qao (ds:=([13]++sq 41 13)) (by repeat (first|exact Agr.refl _ _|refine Agr.upd ?_ rfl|refine Agr.mix ?_ rfl))) rfl,(by omega),(Qnx hout (by omega)),(by have h9:=Qkg (Qa5 p a (gd (Qaz (Qah p b)) k)) (Qa5 p b (gd (Qaz (Qah p b)) k));rw [QQ7];omega),rfl,hs.take 12⟩
  omega
 replace c26:=QQ2 c26
 refine QaF (Qag ?_)
 obtain ⟨⟨ao9,co9⟩,hs⟩:=hs.unpack 9 rfl
 replace hs:=hs.split 9 rfl
 refine Qab (Qaa (QaE (V:=.slice ao9 out.length co9) Qrh hs 9 rfl rfl rfl (Qaa (Qad (V:=.slice ao9 out.length co9) rfl (Qaa (Qad (V:=I6 0) rfl (Qaf (Qau ?_))))))))
 refine ⟨_,Qbs (U:=.slice ao9 out.length co9) (V:=I6 0) Tryz.results22 rfl rfl,?_⟩
 have hX:QbE p a b=0:=Qjh c12 c18 c20
 rw [Qom hX hout (by omega),hX]
 exact ⟨(ao9,co9),rfl,hs.only 12 rfl,trivial⟩
end Tt
end Go.Proofs
namespace Go.Proofs
open Go Go.Vx Go.RowKit
namespace Tt
theorem Qly (w:World) (p:Pst) (a1:Option Addr) (c1:Nat) (a2:Option Addr) (c2:Nat) (a3:Option Addr) (c3:Nat) (hok:Qc0 p) (hr1:Rd w (.slice a1 p.base.ents.length c1) 7 (p.base.ents.map cec)) (hr2:Rd w (.slice a2 p.base.ticks.length c2) 2 (p.base.ticks.map lsc)) (hr3:Rd w (.slice a3 p.ops.length c3) 23 (p.ops.map oc)):Calls Tryz.prog 62 #[.agg (((vc p.base.known)++[(.slice a1 p.base.ents.length c1:Value),(.slice a2 p.base.ticks.length c2:Value) ])++[(.slice a3 p.ops.length c3:Value) ]++(vc p.known)).toArray] w (fun e w'=>e = .returned (.bool (Qb9 p))/\Own w no w' []):=by
 refine Qaj (n:=52) Tryz.func62 rfl Tryz.ntmps62 rfl ?_
 have hs:=Own.start w
 have ⟨hokb,hoko,hokk⟩:=hok
 have hn3:=hr3.sml
 refine Qag (Qab (Qaa (QaN (V:=.agg (((vc p.base.known)++[(.slice a1 p.base.ents.length c1:Value),(.slice a2 p.base.ticks.length c2:Value) ])++[(.slice a3 p.ops.length c3:Value) ]++(vc p.known)).toArray) (cs:=((vc p.base.known)++[(.slice a1 p.base.ents.length c1:Value),(.slice a2 p.base.ticks.length c2:Value) ])++[(.slice a3 p.ops.length c3:Value) ]++(vc p.known)) rfl rfl hs fun b1 w2 hs=>(Qaa (Qad (V:=.bool false) rfl (Qaf (Qag (Qag (Qab (Qaa (Qad (V:=I6 0) rfl (Qaf (Qam (QaA (fun J μ J' w'=>∃ (Jo:Env) (k:Nat),J'=upd (mix (sq 2 47) Jo J) 3 (I6 (k:Int))/\(k<=p.ops.length)/\(∀ j:Nat,j<k->QhG p.base.known p.ops j=false)/\μ=p.ops.length-k/\Own w no w' [blk b1 (((vc p.base.known)++[(.slice a1 p.base.ents.length c1:Value),(.slice a2 p.base.ticks.length c2:Value) ])++[(.slice a3 p.ops.length c3:Value) ]++(vc p.known)) 31]) ?_ ?_))))))))))))))
 ·exact ⟨_,_,0,Qai (Qao (ds:=(sq 2 47)) (Agr.refl _ _)) rfl,(by omega),(fun j hj=>absurd hj (Nat.not_lt_zero j)),rfl,hs⟩
 rintro μ J' w3 ⟨Jo,k,rfl,hk,hbo,rfl,hs⟩
 refine Qag (Qag (Qab (Qaa (Qac (V:=I6 (k:Int)) rfl (Qaa (Qae Qd3 rfl (Qaa (QaE (V:=.slice a3 p.ops.length c3) Qfs hs 0 rfl rfl rfl (Qaa (Qa2 (n:=p.ops.length) QdK (Rd.own' hr3 hs) (by simp) rfl (Qaa (QaQ rfl rfl (Qaf (Qan (t:=decide ((k:Int)<((p.ops.length:Nat):Int))) rfl (fun c4=>?_) (fun c4=>?_)))))))))))))))
 ·
  replace c4:=QQ1 c4
  refine Qap (Qag (Qam (Qag (Qag ?_))))
  have hOk:=hoko _ (QbK (l:=p.ops) (i:=k) (by omega))
  have hdk:=hOk.1
  refine QaI HM [some 12,some 13,some 14,some 15,some 16,some 17,some 18,some 19,some 20,some 21,some 22,some 23,some 24,some 25,some 26,some 27,some 28,some 29,some 30] [] [0,1,0,7,15,31,63,127,255,511,1023,255,2303,255,14591,30975,63743,131071,262143] [pv (Pq b1 (0+18)),pv (.slice a3 p.ops.length c3),pv (I6 (k:Int)),pv (.pointer (some ⟨bkS (.slice a3 p.ops.length c3),ofS (.slice a3 p.ops.length c3)+(k:Int).toNat*23,none⟩)),pv (.agg (oc (gd p.ops k)).toArray),pv (.bool (QaO (gd p.ops k) 16)),pv (.bool (!(QaO (gd p.ops k) 16))),pv (.bool (!(QaO (gd p.ops k) 16))),pg ((!(QaO (gd p.ops k) 16)) == false) (Pq b1 (0+0)),pg ((!(QaO (gd p.ops k) 16)) == false) (Pq b1 (0+0+0)),pg ((!(QaO (gd p.ops k) 16)) == false) (.agg (vc p.base.known).toArray),pg ((!(QaO (gd p.ops k) 16)) == false) (Pq b1 (0+18)),pg ((!(QaO (gd p.ops k) 16)) == false) (.slice a3 p.ops.length c3),pg ((!(QaO (gd p.ops k) 16)) == false) (I6 (k:Int)),pg ((!(QaO (gd p.ops k) 16)) == false) (.pointer (some ⟨bkS (.slice a3 p.ops.length c3),ofS (.slice a3 p.ops.length c3)+(k:Int).toNat*23,none⟩)),pg ((!(QaO (gd p.ops k) 16)) == false) (.pointer (some ⟨bkS (.slice a3 p.ops.length c3),ofS (.slice a3 p.ops.length c3)+(k:Int).toNat*23+0,none⟩)),pg ((!(QaO (gd p.ops k) 16)) == false) (.agg (dc ((gd p.ops k).dot)).toArray),pg ((!(QaO (gd p.ops k) 16)) == false) (.bool (QbB p.base.known ((gd p.ops k).dot))),pv (.bool ((!(QaO (gd p.ops k) 16))||(QbB p.base.known ((gd p.ops k).dot))))] (fun _ _=>_) [18] (by kernel_rfl) hs ⟨?_,?_,?_,?_,?_,?_,?_,?_,?_,?_,?_,?_,?_,?_,?_,?_,?_,?_,?_,trivial⟩ ?_
  ·exact oa [] fun D J w hs=>Qae Qd3 rfl (Zz hs)
  ·exact oa [0] fun D J w hs=>QaE (V:=.slice a3 p.ops.length c3) Qfs hs 0 rfl rfl rfl (Zz hs)
  ·exact oa [] fun D J w hs=>Qac (V:=.int .i64 (k:Int)) rfl (Zz hs)
  ·exact oa [1,2] fun D J w hs=>Qaw QdK Qb5.1 (Rd.own' hr3 hs) rfl rfl (by omega) (by rw [QQ6];omega) (Zz hs)
  ·exact oa [3] fun D J w hs=>Qa1 (j:=0) (vs:=oc (gd p.ops k)) k Qb5 (Rd.own' hr3 hs) (QaT (by omega)) rfl rfl rfl (by omega) (Zz hs)
  ·exact oa [4] fun D J w hs=>Qat (vs:=[.agg (oc (gd p.ops k)).toArray,.int .i64 16]) (V:=.bool (QaO (gd p.ops k) 16)) Quk rfl rfl (QkV _ (gd p.ops k) 16 (hoko _ (QbK (by omega)))) hs fun _ hs=>Zz hs
  ·exact oa [5] fun D J w hs=>Qbz rfl (Zz hs)
  ·exact oa [6] fun D J w hs=>Qac (V:=.bool (!(QaO (gd p.ops k) 16))) rfl (Zz hs)
  ·exact og [7] fun D J w hG hs=>Qae Qd8 rfl (Zz hs)
  ·exact oy [7,8] [8] fun D J w hG hs=>Qae QgG rfl (Zz hs)
  ·exact oy [7,9] [9] fun D J w hG hs=>Qb0 (vs:=vc p.base.known) QbA hs 0 rfl rfl rfl rfl (Zz hs)
  ·exact og [7] fun D J w hG hs=>Qae Qd3 rfl (Zz hs)
  ·exact oy [7,11] [11] fun D J w hG hs=>QaE (V:=.slice a3 p.ops.length c3) Qfs hs 0 rfl rfl rfl (Zz hs)
  ·exact og [7] fun D J w hG hs=>Qac (V:=.int .i64 (k:Int)) rfl (Zz hs)
  ·exact oy [7,12,13] [12,13] fun D J w hG hs=>Qaw QdK Qb5.1 (Rd.own' hr3 hs) rfl rfl (by omega) (by rw [QQ6];omega) (Zz hs)
  ·exact oy [7,14] [14] fun D J w hG hs=>Qae Qb3 rfl (Zz hs)
  ·exact oy [7,15] [15] fun D J w hG hs=>Qa1 (j:=0) (vs:=dc ((gd p.ops k).dot)) k QcR (Rd.own' hr3 hs) (QaT (by omega)) rfl rfl rfl (by omega) (Zz hs)
  ·exact oy [7,10,16] [10,16] fun D J w hG hs=>Qat (vs:=[.agg (vc p.base.known).toArray,.agg (dc ((gd p.ops k).dot)).toArray]) (V:=.bool (QbB p.base.known ((gd p.ops k).dot))) QoA rfl rfl (QhY _ p.base.known ((gd p.ops k).dot) (by first|assumption|exact Qdl (by omega) (by omega) (by omega) (by omega))) hs fun _ hs=>Zz hs
  ·exact oa [7,17] fun D J w hs=>Qb4 (h':=QbB p.base.known ((gd p.ops k).dot)) rfl rfl rfl (Zz hs)
  rintro J1 w7 J2 hJ hs
  replace hJ:J2=upd (mix (sq 12 19) J1 _) 30 (.bool ((!(QaO (gd p.ops k) 16))||(QbB p.base.known ((gd p.ops k).dot)))):=hJ
  subst hJ
  refine Qan (t:=(!(QaO (gd p.ops k) 16))||(QbB p.base.known ((gd p.ops k).dot))) rfl (fun c8=>?_) (fun c8=>?_)
  ·
   refine Qag (Qab (Qaa (Qad (V:=.bool false) rfl (Qaf (Qau ?_)))))
   refine ⟨_,Qaq (V:=.bool false) Tryz.results62 rfl,(Zr hs (congrArg Value.bool (Qel (i:=k) (by omega) ?_).symm))⟩
   have hq:=c8
   unfold QhG
   rw [hq,Bool.true_or]
  have c8r:=Qfk c8
  replace c8:=Qfj c8
  replace c8:=Qbf c8
  refine Qap (Qag (Qab (Qaa (Qad (V:=I6 0) rfl (Qaf (Qam ?_))))))
  have hz1:(!QaO (gd p.ops k) 16||QbB p.base.known (gd p.ops k).dot)=false:=by rw [c8,c8r];rfl
  refine QaA (fun J μ J' w'=>∃ (Jo:Env) (k2:Nat),J'=upd (mix ([2,4]++sq 31 18) Jo J) 4 (I6 (k2:Int))/\(k2<=k)/\(∀ j:Nat,j<k2->decide ((gd p.ops j).dot=(gd p.ops k).dot)=false)/\μ=k-k2/\Own w no w' [blk b1 (((vc p.base.known)++[(.slice a1 p.base.ents.length c1:Value),(.slice a2 p.base.ticks.length c2:Value) ])++[(.slice a3 p.ops.length c3:Value) ]++(vc p.known)) 31]) ?_ ?_
  ·exact ⟨_,_,0,Qai (Qao (ds:=([2,4]++sq 31 18)) (Agr.refl _ _)) rfl,(by omega),(fun j hj=>absurd hj (Nat.not_lt_zero j)),rfl,hs⟩
  rintro μ J' w9 ⟨Jo,k2,rfl,hk2,hdd,rfl,hs⟩
  refine Qag (Qag (Qab (Qaa (Qac (V:=I6 (k2:Int)) rfl (Qaa (Qac (V:=I6 (k:Int)) rfl (Qaa (QaQ rfl rfl (Qaf (Qan (t:=decide ((k2:Int)<(k:Int))) rfl (fun c10=>?_) (fun c10=>?_)))))))))))
  ·
   replace c10:=QQ1 c10
   refine Qap (Qag (Qam (Qag (QaI HM [some 36,some 37,some 38,some 39,some 40,some 41,some 42,some 43,some 44,some 45,some 46,some 47,some 48] [] [0,1,0,7,15,31,0,64,0,448,960,1984,4095] [pv (Pq b1 (0+18)),pv (.slice a3 p.ops.length c3),pv (I6 (k2:Int)),pv (.pointer (some ⟨bkS (.slice a3 p.ops.length c3),ofS (.slice a3 p.ops.length c3)+(k2:Int).toNat*23,none⟩)),pv (.pointer (some ⟨bkS (.slice a3 p.ops.length c3),ofS (.slice a3 p.ops.length c3)+(k2:Int).toNat*23+0,none⟩)),pv (.agg (dc ((gd p.ops k2).dot)).toArray),pv (Pq b1 (0+18)),pv (.slice a3 p.ops.length c3),pv (I6 (k:Int)),pv (.pointer (some ⟨bkS (.slice a3 p.ops.length c3),ofS (.slice a3 p.ops.length c3)+(k:Int).toNat*23,none⟩)),pv (.pointer (some ⟨bkS (.slice a3 p.ops.length c3),ofS (.slice a3 p.ops.length c3)+(k:Int).toNat*23+0,none⟩)),pv (.agg (dc ((gd p.ops k).dot)).toArray),pv (.bool (decide ((gd p.ops k2).dot=(gd p.ops k).dot)))] (fun _ _=>_) [12] (by kernel_rfl) hs ⟨?_,?_,?_,?_,?_,?_,?_,?_,?_,?_,?_,?_,?_,trivial⟩ ?_))))
   ·exact oa [] fun D J w hs=>Qae Qd3 rfl (Zz hs)
   ·exact oa [0] fun D J w hs=>QaE (V:=.slice a3 p.ops.length c3) Qfs hs 0 rfl rfl rfl (Zz hs)
   ·exact oa [] fun D J w hs=>Qac (V:=.int .i64 (k2:Int)) rfl (Zz hs)
   ·exact oa [1,2] fun D J w hs=>Qaw QdK Qb5.1 (Rd.own' hr3 hs) rfl rfl (by omega) (by rw [QQ6];omega) (Zz hs)
   ·exact oa [3] fun D J w hs=>Qae Qb3 rfl (Zz hs)
   ·exact oa [4] fun D J w hs=>Qa1 (j:=0) (vs:=dc ((gd p.ops k2).dot)) k2 QcR (Rd.own' hr3 hs) (QaT (by omega)) rfl rfl rfl (by omega) (Zz hs)
   ·exact oa [] fun D J w hs=>Qae Qd3 rfl (Zz hs)
   ·exact oa [6] fun D J w hs=>QaE (V:=.slice a3 p.ops.length c3) Qfs hs 0 rfl rfl rfl (Zz hs)
   ·exact oa [] fun D J w hs=>Qac (V:=.int .i64 (k:Int)) rfl (Zz hs)
   ·exact oa [7,8] fun D J w hs=>Qaw QdK Qb5.1 (Rd.own' hr3 hs) rfl rfl (by omega) (by rw [QQ6];omega) (Zz hs)
   ·exact oa [9] fun D J w hs=>Qae Qb3 rfl (Zz hs)
   ·exact oa [10] fun D J w hs=>Qa1 (j:=0) (vs:=dc ((gd p.ops k).dot)) k QcR (Rd.own' hr3 hs) (QaT (by omega)) rfl rfl rfl (by omega) (Zz hs)
   ·exact oa [5,11] fun D J w hs=>Qpt (xs:=dc ((gd p.ops k2).dot)) (ys:=dc ((gd p.ops k).dot)) Tryz.eqGuardType96 (QrG ((gd p.ops k2).dot) ((gd p.ops k).dot)) rfl rfl rfl (Zz hs)
   rintro J1 w11 J2 hJ hs
   replace hJ:J2=upd (mix (sq 36 13) J1 _) 48 (.bool (decide ((gd p.ops k2).dot=(gd p.ops k).dot))):=hJ
   subst hJ
   refine Qan (t:=decide ((gd p.ops k2).dot=(gd p.ops k).dot)) rfl (fun c12=>?_) (fun c12=>?_)
   ·
    replace c12:=QQ1 c12
    refine Qag (Qab (Qaa (Qad (V:=.bool false) rfl (Qaf (Qau ?_)))))
    refine ⟨_,Qaq (V:=.bool false) Tryz.results62 rfl,(Zr hs ?_)⟩
    exact congrArg Value.bool (Qel (i:=k) (by omega) (QpD (j:=k2) (by omega) (by omega) c12)).symm
   replace c12:=QQ2 c12
   refine Qap (Qab (Qaa (Qac (V:=I6 (k2:Int)) rfl (Qaa (QaD (a:=(k2:Int)) (b:=1) (c:=((k2+1:Nat):Int)) rfl rfl (Qak (by omega) (by omega)) (Qaa (Qad (V:=I6 ((k2+1:Nat):Int)) rfl (Qaf ?_))))))))
   refine ⟨_,?_,_,k2+1,Qai (Qao (ds:=([2,4]++sq 31 18)) (by repeat (first|exact Agr.refl _ _|refine Agr.upd ?_ rfl|refine Agr.mix ?_ rfl))) rfl,(by omega),(Qb8 hdd (QQ4 c12)),rfl,hs.take 1⟩
   omega
  replace c10:=QQ2 c10
  refine QaF (Qab (Qaa (Qac (V:=I6 (k:Int)) rfl (Qaa (QaD (a:=(k:Int)) (b:=1) (c:=((k+1:Nat):Int)) rfl rfl (Qak (by omega) (by omega)) (Qaa (Qad (V:=I6 ((k+1:Nat):Int)) rfl (Qaf ?_))))))))
  refine ⟨_,?_,_,k+1,Qai (Qao (ds:=(sq 2 47)) (by repeat (first|exact Agr.refl _ _|refine Agr.upd ?_ rfl|refine Agr.mix ?_ rfl))) rfl,(by omega),(Qb8 hbo (Qro (by omega) hz1 fun j hj=>hdd j (by omega))),rfl,hs.take 1⟩
  omega
 replace c4:=QQ2 c4
 refine QaF (Qag (Qab (Qaa (Qae Qd8 rfl (Qaa (Qb0 (vs:=(vc p.base.known)++[(.slice a1 p.base.ents.length c1:Value),(.slice a2 p.base.ticks.length c2:Value) ]) Qd9 hs 0 rfl rfl rfl rfl (Qaa (Qat (vs:=[.agg ((vc p.base.known)++[(.slice a1 p.base.ents.length c1:Value),(.slice a2 p.base.ticks.length c2:Value) ]).toArray]) (V:=.bool (Qas p.base)) Qqj rfl rfl ?hc hs fun w13 hs=>?_))))))))
 case hc=>exact (Qg8 _ p.base a1 c1 a2 c2 hokb (Rd.own' hr1 hs) (Rd.own' hr2 hs))
 refine Qaa (Qad (V:=.bool (Qas p.base)) rfl (Qaf (Qau ?_)))
 refine ⟨_,Qaq (V:=.bool (Qas p.base)) Tryz.results62 rfl,(Zr hs ?_)⟩
 exact congrArg Value.bool (QgL fun j hj=>hbo j (by omega)).symm
theorem QqI (w:World) (p:Pst) (a1:Option Addr) (c1:Nat) (a2:Option Addr) (c2:Nat) (a3:Option Addr) (c3:Nat) (cut:Vec) (hcut:QbV cut) (hok:Qc0 p) (hr1:Rd w (.slice a1 p.base.ents.length c1) 7 (p.base.ents.map cec)) (hr2:Rd w (.slice a2 p.base.ticks.length c2) 2 (p.base.ticks.map lsc)) (hr3:Rd w (.slice a3 p.ops.length c3) 23 (p.ops.map oc)):Calls Tryz.prog 18 #[.agg (((vc p.base.known)++[(.slice a1 p.base.ents.length c1:Value),(.slice a2 p.base.ticks.length c2:Value) ])++[(.slice a3 p.ops.length c3:Value) ]++(vc p.known)).toArray,.agg (vc cut).toArray] w (fun e w'=>e = .returned (.int .i64 (Qbb p cut))/\Own w no w' []):=by
 refine Qaj (n:=26) Tryz.func18 rfl Tryz.ntmps18 rfl ?_
 have hs:=Own.start w
 have ⟨hokb,hoko,hokk⟩:=hok
 refine Qag (Qab (Qaa (QaN (V:=.agg (((vc p.base.known)++[(.slice a1 p.base.ents.length c1:Value),(.slice a2 p.base.ticks.length c2:Value) ])++[(.slice a3 p.ops.length c3:Value) ]++(vc p.known)).toArray) (cs:=((vc p.base.known)++[(.slice a1 p.base.ents.length c1:Value),(.slice a2 p.base.ticks.length c2:Value) ])++[(.slice a3 p.ops.length c3:Value) ]++(vc p.known)) rfl rfl hs fun b1 w2 hs=>(Qaa (QaN (V:=.agg (vc cut).toArray) (cs:=vc cut) rfl rfl hs fun b3 w4 hs=>(Qaa (Qad (V:=I6 0) rfl (Qaf (Qag (Qam (Qag (Qab (Qaa (QaG (cs:=((vc p.base.known)++[(.slice a1 p.base.ents.length c1:Value),(.slice a2 p.base.ticks.length c2:Value) ])++[(.slice a3 p.ops.length c3:Value) ]++(vc p.known)) QjF hs 0 rfl rfl rfl (Qaa (Qat (vs:=[.agg (((vc p.base.known)++[(.slice a1 p.base.ents.length c1:Value),(.slice a2 p.base.ticks.length c2:Value) ])++[(.slice a3 p.ops.length c3:Value) ]++(vc p.known)).toArray]) (V:=.bool (Qb9 p)) Qvq rfl rfl ?hc hs fun w5 hs=>?_))))))))))))))))
 case hc=>exact (Qly _ p a1 c1 a2 c2 a3 c3 hok (Rd.own' hr1 hs) (Rd.own' hr2 hs) (Rd.own' hr3 hs))
 refine Qaa (Qbz rfl (Qaa (Qad (V:=.bool (!(Qb9 p))) rfl (Qaf (Qan (t:=!(Qb9 p)) rfl (fun c6=>?_) (fun c6=>?_))))))
 ·
  replace c6:=Qbn c6
  refine Qag (Qab (Qaa (Qad (V:=I6 2) rfl (Qaf (Qau ?_)))))
  refine ⟨_,Qaq (V:=I6 2) Tryz.results18 rfl,(Zr hs (congrArg (Value.int .i64) ?_))⟩
  unfold Qbb
  rw [c6];rfl
 replace c6:=Qbf c6
 refine Qag (Qab (Qaa (QaG (cs:=vc cut) QbA hs 1 rfl rfl rfl (Qaa (Qat (vs:=[.agg (vc cut).toArray,I6 16]) (V:=.bool (QaK cut 16)) QqJ rfl rfl ?hc hs fun w7 hs=>?_)))))
 case hc=>exact (Qf8 _ cut 16 (by first|assumption|exact Qca))
 refine Qaa (Qbz rfl (Qaa (Qad (V:=.bool (!(QaK cut 16))) rfl (Qaf (Qan (t:=!(QaK cut 16)) rfl (fun c8=>?_) (fun c8=>?_))))))
 ·
  replace c8:=Qbn c8
  refine Qag (Qab (Qaa (Qad (V:=I6 13) rfl (Qaf (Qau ?_)))))
  refine ⟨_,Qaq (V:=I6 13) Tryz.results18 rfl,(Zr hs (congrArg (Value.int .i64) ?_))⟩
  unfold Qbb
  rw [c6,c8];rfl
 replace c8:=Qbf c8
 refine Qag (Qab (Qaa (QaG (cs:=vc cut) QbA hs 1 rfl rfl rfl (Qaa (Qae Qnm rfl (Qaa (Qb0 (vs:=vc p.known) QbA hs 0 rfl rfl rfl rfl (Qaa (Qat (vs:=[.agg (vc cut).toArray,.agg (vc p.known).toArray]) (V:=.bool (vle cut p.known)) Qsr rfl rfl ?hc hs fun w9 hs=>?_)))))))))
 case hc=>exact (QgE _ cut p.known)
 refine Qaa (Qbz rfl (Qaa (Qad (V:=.bool (!(vle cut p.known))) rfl (Qaf (Qan (t:=!(vle cut p.known)) rfl (fun c10=>?_) (fun c10=>?_))))))
 ·
  replace c10:=Qbn c10
  refine Qag (Qab (Qaa (Qad (V:=I6 11) rfl (Qaf (Qau ?_)))))
  refine ⟨_,Qaq (V:=I6 11) Tryz.results18 rfl,(Zr hs (congrArg (Value.int .i64) ?_))⟩
  unfold Qbb
  rw [c6,c8,c10];rfl
 replace c10:=Qbf c10
 refine Qag (Qab (Qaa (Qae Qd8 rfl (Qaa (Qae QgG rfl (Qaa (Qb0 (vs:=vc p.base.known) QbA hs 0 rfl rfl rfl rfl (Qaa (QaG (cs:=vc cut) QbA hs 1 rfl rfl rfl (Qaa (Qat (vs:=[.agg (vc p.base.known).toArray,.agg (vc cut).toArray]) (V:=.bool (vle p.base.known cut)) Qsr rfl rfl ?hc hs fun w11 hs=>?_)))))))))))
 case hc=>exact (QgE _ p.base.known cut)
 refine Qaa (Qbz rfl (Qaa (Qad (V:=.bool (!(vle p.base.known cut))) rfl (Qaf (Qan (t:=!(vle p.base.known cut)) rfl (fun c12=>?_) (fun c12=>?_))))))
 ·
  replace c12:=Qbn c12
  refine Qag (Qab (Qaa (Qad (V:=I6 12) rfl (Qaf (Qau ?_)))))
  refine ⟨_,Qaq (V:=I6 12) Tryz.results18 rfl,(Zr hs (congrArg (Value.int .i64) ?_))⟩
  unfold Qbb
  rw [c6,c8,c10,c12];rfl
 replace c12:=Qbf c12
 refine Qap (Qag (Qab (Qaa (Qad (V:=I6 0) rfl (Qaf (Qau ?_))))))
 refine ⟨_,Qaq (V:=I6 0) Tryz.results18 rfl,(Zr hs (congrArg (Value.int .i64) ?_))⟩
 unfold Qbb
 rw [c6,c8,c10,c12];rfl
end Tt
end Go.Proofs
namespace Go.Proofs
open Go Go.Vx Go.RowKit
namespace Tt
theorem Qki (w:World) (a:Option Addr) (c:Nat) (l:List Opn) (o:Opn) (he:Qc3 o.dot) (hr:Rd w (.slice a l.length c) 23 (l.map oc)):Calls Tryz.prog 52 #[.slice a l.length c,.agg (oc o).toArray] w (fun e w'=>e = .returned (.bool (l.any fun x=>QaV x o))/\Own w no w' []):=by
 refine Qaj (n:=18) Tryz.func52 rfl Tryz.ntmps52 rfl ?_
 have hs:=Own.start w
 have hn:=hr.sml
 refine Qag (Qab (Qaa (QaN (V:=.agg (oc o).toArray) (cs:=oc o) rfl rfl hs fun b1 w2 hs=>(Qaa (Qad (V:=.bool false) rfl (Qaf (Qag (Qag (Qab (Qaa (Qad (V:=I6 0) rfl (Qaf (Qam (QaA (fun J μ J' w'=>∃ (Jo:Env) (k:Nat),J'=upd (mix (sq 4 14) Jo J) 5 (I6 (k:Int))/\(k<=l.length)/\(∀ j:Nat,j<k->QaV (gd l j) o=false)/\μ=l.length-k/\Own w no w' [blk b1 (oc o) 98]) ?_ ?_))))))))))))))
 ·exact ⟨_,_,0,Qai (Qao (ds:=(sq 4 14)) (Agr.refl _ _)) rfl,(by omega),(fun j hj=>absurd hj (Nat.not_lt_zero j)),rfl,hs⟩
 rintro μ J' w3 ⟨Jo,k,rfl,hk,hno,rfl,hs⟩
 refine Qag (Qag (Qab (Qaa (Qac (V:=I6 (k:Int)) rfl (Qaa (Qac (V:=.slice a l.length c) rfl (Qaa (Qa2 (n:=l.length) QdK (Rd.own' hr hs) (by simp) rfl (Qaa (QaQ rfl rfl (Qaf (Qan (t:=decide ((k:Int)<((l.length:Nat):Int))) rfl (fun c4=>?_) (fun c4=>?_)))))))))))))
 ·
  replace c4:=QQ1 c4
  refine Qap (Qag (Qam (Qag (QaI HM [some 12,some 13,some 14,some 15,some 16,some 17] [] [0,0,3,7,0,31] [pv (.slice a l.length c),pv (I6 (k:Int)),pv (.pointer (some ⟨bkS (.slice a l.length c),ofS (.slice a l.length c)+(k:Int).toNat*23,none⟩)),pv (.agg (oc (gd l k)).toArray),pv (.agg (oc o).toArray),pv (.bool (QaV (gd l k) o))] (fun _ _=>_) [5] (by kernel_rfl) hs ⟨?_,?_,?_,?_,?_,?_,trivial⟩ ?_))))
  ·exact oa [] fun D J w hs=>Qac (V:=.slice a l.length c) rfl (Zz hs)
  ·exact oa [] fun D J w hs=>Qac (V:=.int .i64 (k:Int)) rfl (Zz hs)
  ·exact oa [0,1] fun D J w hs=>Qaw QdK Qb5.1 (Rd.own' hr hs) rfl rfl (by omega) (by rw [QQ6];omega) (Zz hs)
  ·exact oa [2] fun D J w hs=>Qa1 (j:=0) (vs:=oc (gd l k)) k Qb5 (Rd.own' hr hs) (QaT (by omega)) rfl rfl rfl (by omega) (Zz hs)
  ·exact oa [] fun D J w hs=>QaG (cs:=oc o) Qb5 hs 0 rfl rfl rfl (Zz hs)
  ·exact oa [3,4] fun D J w hs=>Qat (vs:=[.agg (oc (gd l k)).toArray,.agg (oc o).toArray]) (V:=.bool (QaV (gd l k) o)) QvQ rfl rfl (Qoi _ (gd l k) o (by assumption)) hs fun _ hs=>Zz hs
  rintro J1 w6 J2 hJ hs
  replace hJ:J2=upd (mix (sq 12 6) J1 _) 17 (.bool (QaV (gd l k) o)):=hJ
  subst hJ
  refine Qan (t:=QaV (gd l k) o) rfl (fun c7=>?_) (fun c7=>?_)
  ·
   refine Qag (Qab (Qaa (Qad (V:=.bool true) rfl (Qaf (Qau ?_)))))
   refine ⟨_,Qaq (V:=.bool true) Tryz.results52 rfl,(Zr hs ?_)⟩
   exact congrArg Value.bool (QtK (p:=fun x=>QaV x o) (k:=k) (by omega) c7).symm
  refine Qap (Qab (Qaa (Qac (V:=I6 (k:Int)) rfl (Qaa (QaD (a:=(k:Int)) (b:=1) (c:=((k+1:Nat):Int)) rfl rfl (Qak (by omega) (by omega)) (Qaa (Qad (V:=I6 ((k+1:Nat):Int)) rfl (Qaf ?_))))))))
  refine ⟨_,?_,_,k+1,Qai (Qao (ds:=(sq 4 14)) (by repeat (first|exact Agr.refl _ _|refine Agr.upd ?_ rfl|refine Agr.mix ?_ rfl))) rfl,(by omega),(Qb8 hno c7),rfl,hs.take 1⟩
  omega
 replace c4:=QQ2 c4
 refine QaF (Qag (Qab (Qaa (Qad (V:=.bool false) rfl (Qaf (Qau ?_))))))
 refine ⟨_,Qaq (V:=.bool false) Tryz.results52 rfl,(Zr hs ?_)⟩
 exact congrArg Value.bool (Qn9 (p:=fun x=>QaV x o) fun j hj=>hno j (by omega)).symm
end Tt
end Go.Proofs
namespace Go.Proofs
open Go Go.Vx Go.RowKit
namespace Tt
theorem QnR (w:World) (v:Vec) (a:Option Addr) (c:Nat) (l:List Opn) (hl:∀ o∈l,Qds o) (hlen:l.length<=1000) (hr:Rd w (.slice a l.length c) 23 (l.map oc)):Calls Tryz.prog 35 #[.slice a l.length c,.agg (vc v).toArray] w (fun e w'=>∃ x:Option Addr × Nat,e = .returned (.slice x.1 (Qal l v).length x.2)/\Own w no w' [row (.slice x.1 (Qal l v).length x.2) ((Qal l v).map oc) 98 23]/\True):=by
 refine Qaj (n:=28) Tryz.func35 rfl Tryz.ntmps35 rfl ?_
 have hs:=Own.start w
 have hn:=hr.sml
 refine Qag (Qab (Qaa (QaN (V:=.agg (vc v).toArray) (cs:=vc v) rfl rfl hs fun b1 w2 hs=>(Qaa (Qad (V:=.slice none 0 0) rfl (Qaf (Qag (Qab (Qaa (Qad (V:=.slice none 0 0) rfl (Qaf (Qag (Qag (Qab (Qaa (Qad (V:=I6 0) rfl (Qaf (Qam ?_))))))))))))))))))
 replace hs:=hs.more (row (.slice none 0 0) (List.map oc []) 98 23) (Qbg _ _ _ _)
 refine QaA (fun J μ J' w'=>∃ (Jo:Env) (k:Nat) (an:Option Addr) (cn:Nat) (out:List Opn),J'=upd (upd (mix (sq 5 22) Jo J) 6 (I6 (k:Int))) 5 (.slice an out.length cn)/\(k<=l.length)/\(out.length<=k)/\(out=Qal (l.take k) v)/\μ=l.length-k/\Own w no w' [blk b1 (vc v) 24,row (.slice an out.length cn) (out.map oc) 98 23]) ?_ ?_
 ·exact ⟨_,_,0,none,0,[],Qai (Qai (Qao (ds:=(sq 5 22)) (Agr.refl _ _)) rfl) rfl,(by omega),(Nat.le_refl _),rfl,rfl,hs⟩
 rintro μ J' w3 ⟨Jo,k,an,cn,out,rfl,hk,hol,hout,rfl,hs⟩
 refine Qag (Qag (Qab (Qaa (Qac (V:=I6 (k:Int)) rfl (Qaa (Qac (V:=.slice a l.length c) rfl (Qaa (Qa2 (n:=l.length) QdK (Rd.own' hr hs) (by simp) rfl (Qaa (QaQ rfl rfl (Qaf (Qan (t:=decide ((k:Int)<((l.length:Nat):Int))) rfl (fun c4=>?_) (fun c4=>?_)))))))))))))
 ·
  replace c4:=QQ1 c4
  refine Qap (Qag (Qam (Qag ?_)))
  have hok:=hl _ (QbK (l:=l) (i:=k) (by omega))
  have hdk:=hok.1
  refine QaI HM [some 13,some 14,some 15,some 16,some 17,some 18,some 19] [] [0,0,0,6,14,30,63] [pv (.agg (vc v).toArray),pv (.slice a l.length c),pv (I6 (k:Int)),pv (.pointer (some ⟨bkS (.slice a l.length c),ofS (.slice a l.length c)+(k:Int).toNat*23,none⟩)),pv (.pointer (some ⟨bkS (.slice a l.length c),ofS (.slice a l.length c)+(k:Int).toNat*23+0,none⟩)),pv (.agg (dc ((gd l k).dot)).toArray),pv (.bool (QbB v ((gd l k).dot)))] (fun _ _=>_) [6] (by kernel_rfl) hs ⟨?_,?_,?_,?_,?_,?_,?_,trivial⟩ ?_
  ·exact oa [] fun D J w hs=>QaG (cs:=vc v) QbA hs 0 rfl rfl rfl (Zz hs)
  ·exact oa [] fun D J w hs=>Qac (V:=.slice a l.length c) rfl (Zz hs)
  ·exact oa [] fun D J w hs=>Qac (V:=.int .i64 (k:Int)) rfl (Zz hs)
  ·exact oa [1,2] fun D J w hs=>Qaw QdK Qb5.1 (Rd.own' hr hs) rfl rfl (by omega) (by rw [QQ6];omega) (Zz hs)
  ·exact oa [3] fun D J w hs=>Qae Qb3 rfl (Zz hs)
  ·exact oa [4] fun D J w hs=>Qa1 (j:=0) (vs:=dc ((gd l k).dot)) k QcR (Rd.own' hr hs) (QaT (by omega)) rfl rfl rfl (by omega) (Zz hs)
  ·exact oa [0,5] fun D J w hs=>Qat (vs:=[.agg (vc v).toArray,.agg (dc ((gd l k).dot)).toArray]) (V:=.bool (QbB v ((gd l k).dot))) QoA rfl rfl (QhY _ v ((gd l k).dot) (by first|assumption|exact Qdl (by omega) (by omega) (by omega) (by omega))) hs fun _ hs=>Zz hs
  rintro J1 w6 J2 hJ hs
  replace hJ:J2=upd (mix (sq 13 7) J1 _) 19 (.bool (QbB v ((gd l k).dot))):=hJ
  subst hJ
  refine Qan (t:=QbB v ((gd l k).dot)) rfl (fun c7=>?_) (fun c7=>?_)
  ·
   refine Qab (Qaa (Qac (V:=.slice an out.length cn) rfl (Qaa (Qac (V:=.slice a l.length c) rfl (Qaa (Qac (V:=I6 (k:Int)) rfl (Qaa (Qaw QdK Qb5.1 (Rd.own' hr hs) rfl rfl (by omega) (by rw [QQ6];omega) (Qaa (Qa1 (j:=0) (vs:=oc (gd l k)) k Qb5 (Rd.own' hr hs) (QaT (by omega)) rfl rfl rfl (by omega) (Qaa (QeQ (vals:=[.agg (oc (gd l k)).toArray]) (ls:=List.map oc ([gd l k]:List Opn)) Qng rfl rfl rfl (Qbe (enc:=oc) (fun _=>rfl) _) (QaJ Qey _) (QQ8 rfl) hs fun b8 w9 hs=>(Qaa (QbN (ls':=(out++[gd l k]).map oc) (n:=(out++[gd l k]).length) Qng hs 1 rfl rfl rfl (hs.rd 2 rfl) (QaJ Qey _) (by simp only [QQ6,QQ7,List.length_cons,List.length_nil];omega) (by simp) (by simp) fun a10 c10 w11 hs=>(Qaa (Qad (V:=.slice a10 ((out++[gd l k]).length) c10) rfl (Qaf (Qab (Qaa (Qac (V:=I6 (k:Int)) rfl (Qaa (QaD (a:=(k:Int)) (b:=1) (c:=(k:Int)+1) rfl rfl (QbH (by omega) (by omega)) (Qaa (Qad (V:=I6 ((k:Int)+1)) rfl (Qaf ?_)))))))))))))))))))))))))
   refine ⟨_,?_,_,k+1,a10,c10,out++[gd l k],Qai (Qai (Qao (ds:=(sq 5 22)) (by repeat (first|exact Agr.refl _ _|refine Agr.upd ?_ rfl|refine Agr.mix ?_ rfl))) rfl) rfl,(by omega),(by first|omega|(rw [QQ7,List.length_singleton];omega)),(Qgv hout (by omega) c7),rfl,hs.take 2⟩
   omega
  refine Qap (Qab (Qaa (Qac (V:=I6 (k:Int)) rfl (Qaa (QaD (a:=(k:Int)) (b:=1) (c:=(k:Int)+1) rfl rfl (QbH (by omega) (by omega)) (Qaa (Qad (V:=I6 ((k:Int)+1)) rfl (Qaf ?_))))))))
  refine ⟨_,?_,_,k+1,an,cn,out,Qai (Qai (Qao (ds:=(sq 5 22)) (by repeat (first|exact Agr.refl _ _|refine Agr.upd ?_ rfl|refine Agr.mix ?_ rfl))) rfl) rfl,(by omega),(by first|omega|(rw [QQ7,List.length_singleton];omega)),(QjR hout (by omega) c7),rfl,hs.take 2⟩
  omega
 replace c4:=QQ2 c4
 refine QaF (Qag (Qab (Qaa (Qac (V:=.slice an out.length cn) rfl (Qaa (Qad (V:=.slice an out.length cn) rfl (Qaf (Qau ?_))))))))
 refine ⟨_,Qaq (V:=.slice an out.length cn) Tryz.results35 rfl,?_⟩
 have hX:out=Qal l v:=by rw [hout,Qb6 (by omega)]
 rw [hX] at hs ⊢
 exact ⟨(an,cn),rfl,hs.only 1 rfl,trivial⟩
end Tt
end Go.Proofs
namespace Go.Proofs
open Go Go.Vx Go.RowKit
namespace Tt
theorem QrI (w:World) (a:Option Addr) (c:Nat) (l:List Cen) (y:Cen) (hlen:l.length<=10000) (hr:Rd w (.slice a l.length c) 7 (l.map cec)):Calls Tryz.prog 56 #[.slice a l.length c,.agg (cec y).toArray] w (fun e w'=>∃ x:Option Addr × Nat,e = .returned (.slice x.1 (QdN y l).length x.2)/\Own w no w' [row (.slice x.1 (QdN y l).length x.2) ((QdN y l).map cec) 119 7]/\True):=by
 refine Qaj (n:=42) Tryz.func56 rfl Tryz.ntmps56 rfl ?_
 have hs:=Own.start w
 refine Qag (Qab (Qaa (QaN (V:=.agg (cec y).toArray) (cs:=cec y) rfl rfl hs fun b1 w2 hs=>(Qaa (Qad (V:=.slice none 0 0) rfl (Qaf (Qag (Qab (Qaa (Qad (V:=.slice none 0 0) rfl (Qaf (Qag (Qab (Qaa (Qad (V:=.bool false) rfl (Qaf (Qag (Qag (Qab (Qaa (Qad (V:=I6 0) rfl (Qaf (Qam ?_)))))))))))))))))))))))
 replace hs:=hs.more (row (.slice none 0 0) (List.map cec []) 119 7) (Qbg _ _ _ _)
 refine QaA (fun J μ J' w'=>∃ (Jo:Env) (k:Nat) (an:Option Addr) (cn:Nat) (out:List Cen) (dn:Bool),J'=upd (upd (upd (mix (sq 5 30) Jo J) 7 (I6 (k:Int))) 5 (.slice an out.length cn)) 6 (.bool dn)/\(k<=l.length)/\(out.length<=2*k)/\(QdN y l=out++cond dn (l.drop k) (QdN y (l.drop k)))/\μ=l.length-k/\Own w no w' [blk b1 (cec y) 119,row (.slice an out.length cn) (out.map cec) 119 7]) ?_ ?_
 ·exact ⟨_,_,0,none,0,[],false,Qai (Qai (Qai (Qao (ds:=(sq 5 30)) (Agr.refl _ _)) rfl) rfl) rfl,(by omega),(Nat.zero_le _),rfl,rfl,hs⟩
 rintro μ J' w3 ⟨Jo,k,an,cn,out,dn,rfl,hk,hol,hput,rfl,hs⟩
 refine Qag (Qag (Qab (Qaa (Qac (V:=I6 (k:Int)) rfl (Qaa (Qac (V:=.slice a l.length c) rfl (Qaa (Qa2 (n:=l.length) Qc4 (Rd.own' hr hs) (by simp) rfl (Qaa (QaQ rfl rfl (Qaf (Qan (t:=decide ((k:Int)<((l.length:Nat):Int))) rfl (fun c4=>?_) (fun c4=>?_)))))))))))))
 ·
  replace c4:=QQ1 c4
  refine Qap (Qag (Qam (Qag (Qag (QaI HM [some 14,some 15,some 16,some 17,some 18,some 19,some 20,some 21,some 22,some 23] [] [0,1,3,7,7,7,55,119,255,511] [pv (.bool dn),pv (.bool (!dn)),pv (.bool (!dn)),pg ((!dn) == true) (.agg (cec y).toArray),pg ((!dn) == true) (.slice a l.length c),pg ((!dn) == true) (I6 (k:Int)),pg ((!dn) == true) (.pointer (some ⟨bkS (.slice a l.length c),ofS (.slice a l.length c)+(k:Int).toNat*7,none⟩)),pg ((!dn) == true) (.agg (cec (gd l k)).toArray),pg ((!dn) == true) (.bool (Qbl y (gd l k))),pv (.bool ((!dn)&&(Qbl y (gd l k))))] (fun _ _=>_) [9] (by kernel_rfl) hs ⟨?_,?_,?_,?_,?_,?_,?_,?_,?_,?_,trivial⟩ ?_)))))
  ·exact oa [] fun D J w hs=>Qac (V:=.bool dn) rfl (Zz hs)
  ·exact oa [0] fun D J w hs=>Qbz rfl (Zz hs)
  ·exact oa [1] fun D J w hs=>Qac (V:=.bool (!dn)) rfl (Zz hs)
  ·exact og [2] fun D J w hG hs=>QaG (cs:=cec y) Qbu hs 0 rfl rfl rfl (Zz hs)
  ·exact og [2] fun D J w hG hs=>Qac (V:=.slice a l.length c) rfl (Zz hs)
  ·exact og [2] fun D J w hG hs=>Qac (V:=.int .i64 (k:Int)) rfl (Zz hs)
  ·exact oy [2,4,5] [4,5] fun D J w hG hs=>Qaw Qc4 Qbu.1 (Rd.own' hr hs) rfl rfl (by omega) (by rw [QQ6];omega) (Zz hs)
  ·exact oy [2,6] [6] fun D J w hG hs=>Qa1 (j:=0) (vs:=cec (gd l k)) k Qbu (Rd.own' hr hs) (QaT (by omega)) rfl rfl rfl (by omega) (Zz hs)
  ·exact oy [2,3,7] [3,7] fun D J w hG hs=>Qat (vs:=[.agg (cec y).toArray,.agg (cec (gd l k)).toArray]) (V:=.bool (Qbl y (gd l k))) QsW rfl rfl (QjP _ y (gd l k)) hs fun _ hs=>Zz hs
  ·exact oa [2,8] fun D J w hs=>Qa4 (h':=Qbl y (gd l k)) rfl rfl rfl (Zz hs)
  rintro J1 w6 J2 hJ hs
  replace hJ:J2=upd (mix (sq 14 10) J1 _) 23 (.bool ((!dn)&&(Qbl y (gd l k)))):=hJ
  subst hJ
  refine Qan (t:=(!dn)&&(Qbl y (gd l k))) rfl (fun c7=>?_) (fun c7=>?_)
  ·
   have c7r:=QbF c7
   replace c7:=QbD c7
   replace c7:=Qbn c7
   refine Qag (Qab (Qaa (Qac (V:=.slice an out.length cn) rfl (Qaa (QaG (cs:=cec y) Qbu hs 0 rfl rfl rfl (Qaa (QeQ (vals:=[.agg (cec y).toArray]) (ls:=List.map cec ([y]:List Cen)) QgU rfl rfl rfl (Qbe (enc:=cec) (fun _=>rfl) _) (QaJ Qa8 _) (QQ8 rfl) hs fun b8 w9 hs=>(Qaa (QbN (ls':=(out++[y]).map cec) (n:=(out++[y]).length) QgU hs 1 rfl rfl rfl (hs.rd 2 rfl) (QaJ Qa8 _) (by simp only [QQ6,QQ7,List.length_cons,List.length_nil];omega) (by simp) (by simp) fun a10 c10 w11 hs=>(Qaa (Qad (V:=.slice a10 ((out++[y]).length) c10) rfl (Qaf (Qab (Qaa (Qad (V:=.bool true) rfl (Qaf (Qab (Qaa (Qac (V:=.slice a10 ((out++[y]).length) c10) rfl (Qaa (Qac (V:=.slice a l.length c) rfl (Qaa (Qac (V:=I6 (k:Int)) rfl (Qaa (Qaw Qc4 Qbu.1 (Rd.own' hr hs) rfl rfl (by omega) (by rw [QQ6];omega) (Qaa (Qa1 (j:=0) (vs:=cec (gd l k)) k Qbu (Rd.own' hr hs) (QaT (by omega)) rfl rfl rfl (by omega) (Qaa (QeQ (vals:=[.agg (cec (gd l k)).toArray]) (ls:=List.map cec ([gd l k]:List Cen)) QgU rfl rfl rfl (Qbe (enc:=cec) (fun _=>rfl) _) (QaJ Qa8 _) (QQ8 rfl) hs fun b12 w13 hs=>?_)))))))))))))))))))))))))))))
   replace hs:Own w no w13 [blk b1 (cec y) 119,row (.slice a10 ((out++[y]).length) c10) ((out++[y]).map cec) 119 7,row (.slice (some ⟨b8,0,none⟩) 1 1) ([y].map cec) 119 7,row (.slice (some ⟨b12,0,none⟩) 1 1) ([gd l k].map cec) 119 7]:=hs
   refine Qaa (QbN (ls':=((out++[y])++[gd l k]).map cec) (n:=((out++[y])++[gd l k]).length) QgU hs 1 rfl rfl rfl (hs.rd 3 rfl) (QaJ Qa8 _) (by simp only [QQ6,QQ7,List.length_cons,List.length_nil];omega) (by simp) (by simp) fun a14 c14 w15 hs=>(Qaa (Qad (V:=.slice a14 (((out++[y])++[gd l k]).length) c14) rfl (Qaf (Qab (Qaa (Qac (V:=I6 (k:Int)) rfl (Qaa (QaD (a:=(k:Int)) (b:=1) (c:=((k+1:Nat):Int)) rfl rfl (Qak (by omega) (by omega)) (Qaa (Qad (V:=I6 ((k+1:Nat):Int)) rfl (Qaf ?_))))))))))))
   refine ⟨_,?_,_,k+1,a14,c14,(out++[y])++[gd l k],true,Qai (Qai (Qai (Qao (ds:=(sq 5 30)) (by repeat (first|exact Agr.refl _ _|refine Agr.upd ?_ rfl|refine Agr.mix ?_ rfl))) rfl) rfl) rfl,(by omega),(by simp only [QQ7,List.length_singleton];omega),(Qrx hput (by omega) c7 c7r),rfl,hs.take 2⟩
   omega
  refine Qap (Qab (Qaa (Qac (V:=.slice an out.length cn) rfl (Qaa (Qac (V:=.slice a l.length c) rfl (Qaa (Qac (V:=I6 (k:Int)) rfl (Qaa (Qaw Qc4 Qbu.1 (Rd.own' hr hs) rfl rfl (by omega) (by rw [QQ6];omega) (Qaa (Qa1 (j:=0) (vs:=cec (gd l k)) k Qbu (Rd.own' hr hs) (QaT (by omega)) rfl rfl rfl (by omega) (Qaa (QeQ (vals:=[.agg (cec (gd l k)).toArray]) (ls:=List.map cec ([gd l k]:List Cen)) QgU rfl rfl rfl (Qbe (enc:=cec) (fun _=>rfl) _) (QaJ Qa8 _) (QQ8 rfl) hs fun b16 w17 hs=>(Qaa (QbN (ls':=(out++[gd l k]).map cec) (n:=(out++[gd l k]).length) QgU hs 1 rfl rfl rfl (hs.rd 2 rfl) (QaJ Qa8 _) (by simp only [QQ6,QQ7,List.length_cons,List.length_nil];omega) (by simp) (by simp) fun a18 c18 w19 hs=>(Qaa (Qad (V:=.slice a18 ((out++[gd l k]).length) c18) rfl (Qaf (Qab (Qaa (Qac (V:=I6 (k:Int)) rfl (Qaa (QaD (a:=(k:Int)) (b:=1) (c:=((k+1:Nat):Int)) rfl rfl (Qak (by omega) (by omega)) (Qaa (Qad (V:=I6 ((k+1:Nat):Int)) rfl (Qaf ?_))))))))))))))))))))))))))
  refine ⟨_,?_,_,k+1,a18,c18,out++[gd l k],dn,Qai (Qai (Qai (Qao (ds:=(sq 5 30)) (by repeat (first|exact Agr.refl _ _|refine Agr.upd ?_ rfl|refine Agr.mix ?_ rfl))) rfl) rfl) rfl,(by omega),(by simp only [QQ7,List.length_singleton];omega),(Qui hput (by omega) c7),rfl,hs.take 2⟩
  omega
 replace c4:=QQ2 c4
 refine QaF (Qag (Qag (Qab (Qaa (Qac (V:=.bool dn) rfl (Qaa (Qbz rfl (Qaf (Qan (t:=!dn) rfl (fun c20=>?_) (fun c20=>?_))))))))))
 ·
  replace c20:=Qbn c20
  refine Qab (Qaa (Qac (V:=.slice an out.length cn) rfl (Qaa (QaG (cs:=cec y) Qbu hs 0 rfl rfl rfl (Qaa (QeQ (vals:=[.agg (cec y).toArray]) (ls:=List.map cec ([y]:List Cen)) QgU rfl rfl rfl (Qbe (enc:=cec) (fun _=>rfl) _) (QaJ Qa8 _) (QQ8 rfl) hs fun b21 w22 hs=>(Qaa (QbN (ls':=(out++[y]).map cec) (n:=(out++[y]).length) QgU hs 1 rfl rfl rfl (hs.rd 2 rfl) (QaJ Qa8 _) (by simp only [QQ6,QQ7,List.length_cons,List.length_nil];omega) (by simp) (by simp) fun a23 c23 w24 hs=>(Qaa (Qad (V:=.slice a23 ((out++[y]).length) c23) rfl (Qaf (Qag (Qab (Qaa (Qac (V:=.slice a23 ((out++[y]).length) c23) rfl (Qaa (Qad (V:=.slice a23 ((out++[y]).length) c23) rfl (Qaf (Qau ?_)))))))))))))))))))
  refine ⟨_,Qaq (V:=.slice a23 ((out++[y]).length) c23) Tryz.results56 rfl,?_⟩
  have hX:=(QlX hput (by omega)).2 c20
  rw [← hX] at hs ⊢
  exact ⟨(a23,c23),rfl,hs.only 1 rfl,trivial⟩
 replace c20:=Qbf c20
 refine Qap (Qag (Qab (Qaa (Qac (V:=.slice an out.length cn) rfl (Qaa (Qad (V:=.slice an out.length cn) rfl (Qaf (Qau ?_))))))))
 refine ⟨_,Qaq (V:=.slice an out.length cn) Tryz.results56 rfl,?_⟩
 have hX:=(QlX hput (by omega)).1 c20
 rw [← hX] at hs ⊢
 exact ⟨(an,cn),rfl,hs.only 1 rfl,trivial⟩
theorem Qlg (w:World) (a:Option Addr) (ca:Nat) (l:List Lst) (c t:Int) (hlen:l.length<=10000) (hT:QdS l) (hr:Rd w (.slice a l.length ca) 2 (l.map lsc)):Calls Tryz.prog 54 #[.slice a l.length ca,.int .u16 c,.int .u32 t] w (fun e w'=>∃ x:Option Addr × Nat,e = .returned (.slice x.1 (Qdd c t l).length x.2)/\Own w no w' [row (.slice x.1 (Qdd c t l).length x.2) ((Qdd c t l).map lsc) 125 2]/\True):=by
 refine Qaj (n:=57) Tryz.func54 rfl Tryz.ntmps54 rfl ?_
 have hs:=Own.start w
 refine Qag (Qab (Qaa (Qad (V:=.slice none 0 0) rfl (Qaf (Qag (Qab (Qaa (Qad (V:=.slice none 0 0) rfl (Qaf (Qag (Qab (Qaa (Qad (V:=.bool false) rfl (Qaf (Qag (Qag (Qab (Qaa (Qad (V:=I6 0) rfl (Qaf (Qam ?_)))))))))))))))))))))
 replace hs:=hs.more (row (.slice none 0 0) (List.map lsc []) 125 2) (Qbg _ _ _ _)
 refine QaA (fun J μ J' w'=>∃ (Jo:Env) (k:Nat) (an:Option Addr) (cn:Nat) (out:List Lst) (dn:Bool),J'=upd (upd (upd (mix (sq 7 41) Jo J) 9 (I6 (k:Int))) 7 (.slice an out.length cn)) 8 (.bool dn)/\(k<=l.length)/\(out.length<=2*k)/\(TkI l out (Qdd c t l) c t dn k)/\μ=l.length-k/\Own w no w' [row (.slice an out.length cn) (out.map lsc) 125 2]) ?_ ?_
 ·exact ⟨_,_,0,none,0,[],false,Qai (Qai (Qai (Qao (ds:=(sq 7 41)) (Agr.refl _ _)) rfl) rfl) rfl,(by omega),(Nat.zero_le _),(⟨rfl,fun h=>nomatch h⟩),rfl,hs⟩
 rintro μ J' w1 ⟨Jo,k,an,cn,out,dn,rfl,hk,hol,htk,rfl,hs⟩
 refine Qag (Qag (Qab (Qaa (Qac (V:=I6 (k:Int)) rfl (Qaa (Qac (V:=.slice a l.length ca) rfl (Qaa (Qa2 (n:=l.length) Qe6 (Rd.own' hr hs) (by simp) rfl (Qaa (QaQ rfl rfl (Qaf (Qan (t:=decide ((k:Int)<((l.length:Nat):Int))) rfl (fun c2=>?_) (fun c2=>?_)))))))))))))
 ·
  replace c2:=QQ1 c2
  refine Qap (Qag (Qam (Qag (Qab (Qaa (Qac (V:=.slice a l.length ca) rfl (Qaa (Qac (V:=I6 (k:Int)) rfl (Qaa (Qaw Qe6 QcZ.1 (Rd.own' hr hs) rfl rfl (by omega) (by rw [QQ6];omega) (Qaa (Qa1 (j:=0) (vs:=lsc (gd l k)) k QcZ (Rd.own' hr hs) (QaT (by omega)) rfl rfl rfl (by omega) (Qaa (QaM (cs:=lsc (⟨0,0⟩:Lst)) Qqo rfl hs fun b3 w4 hs=>(Qaa (QcK (V:=.agg (lsc (gd l k)).toArray) (vs:=lsc (gd l k)) (cs':=lsc (gd l k)) QcZ.1 hs 1 rfl rfl rfl rfl rfl (QQ8 rfl) (QbZ _) (QaB rfl) fun w5 hs=>(Qaf (Qag (Qag (Qab (Qaa (Qae Qej rfl (Qaa (QaE (V:=I7 ((gd l k).cart)) Qar hs 1 rfl rfl rfl (Qaa (Qac (V:=I7 c) rfl (Qaa (QaS rfl rfl (Qaf (Qan (t:=decide ((gd l k).cart=c)) rfl (fun c6=>?_) (fun c6=>?_)))))))))))))))))))))))))))))))
  ·
   replace c6:=QQ1 c6
   refine Qag (Qab (Qaa (Qae QfV rfl (Qaa (QaE (V:=.int .u32 ((gd l k).tick)) Qa6 hs 1 rfl rfl rfl (Qaa (Qac (V:=.int .u32 t) rfl (Qaa (Qrc rfl rfl (Qaa (Qae QfV rfl (Qaa (Qc7 (V:=.int .u32 (max ((gd l k).tick) t)) (cs':=lsc (⟨(gd l k).cart,max ((gd l k).tick) t⟩:Lst)) Qa6 hs 1 rfl rfl rfl rfl (QQ8 rfl) rfl fun w7 hs=>(Qaf (Qab (Qaa (Qad (V:=.bool true) rfl (Qaf (Qag (Qag (Qbj [some 30,some 31,some 32,some 33,some 34,some 35,some 36,some 37] [] [0,1,3,7,15,7,63,127] [pv (.bool true),pv (.bool false),pv (.bool false),pg false (.bool true),pg false (.bool true),pg false (.bool true),pg false (.bool true),pv (.bool false)] (fun _ _=>_) [7] (by kernel_rfl) hs ⟨?_,?_,?_,?_,?_,?_,?_,?_,trivial⟩ ?_)))))))))))))))))))))
   ·exact oa [] fun D J w hs=>Qac (V:=.bool true) rfl (Zz hs)
   ·exact oa [0] fun D J w hs=>Qbz rfl (Zz hs)
   ·exact oa [1] fun D J w hs=>Qac (V:=.bool false) rfl (Zz hs)
   ·exact obg [] [] false rfl (fun _=>rfl) rfl (fun _ _ _ _ h=>h) (fun _ _ _ h=>nomatch h)
   ·exact obg [] [] false rfl (fun _=>rfl) rfl (fun _ _ _ _ h=>h) (fun _ _ _ h=>nomatch h)
   ·exact obg [] [] false rfl (fun _=>rfl) rfl (fun _ _ _ _ h=>h) (fun _ _ _ h=>nomatch h)
   ·exact obg [] [] false rfl (fun _=>rfl) rfl (fun _ _ _ _ h=>h) (fun _ _ _ h=>nomatch h)
   ·exact oa [2] fun D J w hs=>QcX (V:=.bool false) rfl rfl (Zz hs)
   rintro J1 w8 J2 hJ hs
   replace hJ:J2=upd (mix (sq 30 8) J1 _) 37 (.bool false):=hJ
   subst hJ
   refine Qcy rfl ?_
   refine Qap (Qab (Qaa (Qac (V:=.slice an out.length cn) rfl (Qaa (QaG (cs:=lsc (⟨(gd l k).cart,max ((gd l k).tick) t⟩:Lst)) QcZ hs 1 rfl rfl rfl (Qaa (QeQ (vals:=[.agg (lsc (⟨(gd l k).cart,max ((gd l k).tick) t⟩:Lst)).toArray]) (ls:=List.map lsc ([(⟨(gd l k).cart,max ((gd l k).tick) t⟩:Lst)]:List Lst)) QgS rfl rfl rfl (Qbe (enc:=lsc) (fun _=>rfl) _) (QaJ QbZ _) (QQ8 rfl) hs fun b9 w10 hs=>?_)))))))
   replace hs:Own w no w10 [row (.slice an out.length cn) (out.map lsc) 125 2,blk b3 (lsc (⟨(gd l k).cart,max ((gd l k).tick) t⟩:Lst)) 125,row (.slice (some ⟨b9,0,none⟩) 1 1) ([(⟨(gd l k).cart,max ((gd l k).tick) t⟩:Lst)].map lsc) 125 2]:=hs
   refine Qaa (QbN (ls':=(out++[(⟨(gd l k).cart,max ((gd l k).tick) t⟩:Lst)]).map lsc) (n:=(out++[(⟨(gd l k).cart,max ((gd l k).tick) t⟩:Lst)]).length) QgS hs 0 rfl rfl rfl (hs.rd 2 rfl) (QaJ QbZ _) (by simp only [QQ6,QQ7,List.length_cons,List.length_nil];omega) (by simp) (by simp) fun a11 c11 w12 hs=>(Qaa (Qad (V:=.slice a11 ((out++[(⟨(gd l k).cart,max ((gd l k).tick) t⟩:Lst)]).length) c11) rfl (Qaf (Qab (Qaa (Qac (V:=I6 (k:Int)) rfl (Qaa (QaD (a:=(k:Int)) (b:=1) (c:=((k+1:Nat):Int)) rfl rfl (Qak (by omega) (by omega)) (Qaa (Qad (V:=I6 ((k+1:Nat):Int)) rfl (Qaf ?_))))))))))))
   refine ⟨_,?_,_,k+1,a11,c11,out++[(⟨(gd l k).cart,max ((gd l k).tick) t⟩:Lst)],true,Qai (Qai (Qai (Qao (ds:=(sq 7 41)) (by repeat (first|exact Agr.refl _ _|refine Agr.upd ?_ rfl|refine Agr.mix ?_ rfl))) rfl) rfl) rfl,(by omega),(by simp only [QQ7,List.length_singleton];omega),(Qwc htk hT (by omega) c6),rfl,hs.take 1⟩
   omega
  replace c6:=QQ2 c6
  refine Qap (Qag (Qag (Qbj [some 30,some 31,some 32,some 33,some 34,some 35,some 36,some 37] [] [0,1,3,7,15,7,63,127] [pv (.bool dn),pv (.bool (!dn)),pv (.bool (!dn)),pg ((!dn) == true) (Pq b3 (0+0)),pg ((!dn) == true) (I7 ((gd l k).cart)),pg ((!dn) == true) (I7 c),pg ((!dn) == true) (.bool (decide (c<(gd l k).cart))),pv (.bool ((!dn)&&(decide (c<(gd l k).cart))))] (fun _ _=>_) [7] (by kernel_rfl) hs ⟨?_,?_,?_,?_,?_,?_,?_,?_,trivial⟩ ?_)))
  ·exact oa [] fun D J w hs=>Qac (V:=.bool dn) rfl (Zz hs)
  ·exact oa [0] fun D J w hs=>Qbz rfl (Zz hs)
  ·exact oa [1] fun D J w hs=>Qac (V:=.bool (!dn)) rfl (Zz hs)
  ·exact og [2] fun D J w hG hs=>Qae Qej rfl (Zz hs)
  ·exact oy [2,3] [3] fun D J w hG hs=>QaE (V:=.int .u16 ((gd l k).cart)) Qar hs 1 rfl rfl rfl (Zz hs)
  ·exact og [2] fun D J w hG hs=>Qac (V:=.int .u16 c) rfl (Zz hs)
  ·exact oy [2,4,5] [4,5] fun D J w hG hs=>QbY rfl rfl (Zz hs)
  ·exact oa [2,6] fun D J w hs=>Qa4 (h':=decide (c<(gd l k).cart)) rfl rfl rfl (Zz hs)
  rintro J1 w13 J2 hJ hs
  replace hJ:J2=upd (mix (sq 30 8) J1 _) 37 (.bool ((!dn)&&(decide (c<(gd l k).cart)))):=hJ
  subst hJ
  refine Qan (t:=(!dn)&&(decide (c<(gd l k).cart))) rfl (fun c14=>?_) (fun c14=>?_)
  ·
   have c14r:=QbF c14
   replace c14:=QbD c14
   replace c14:=Qbn c14
   replace c14r:=QQ1 c14r
   refine Qag (Qab (Qaa (Qac (V:=.slice an out.length cn) rfl (Qaa (Qac (V:=I7 c) rfl (Qaa (Qac (V:=.int .u32 t) rfl (Qaa (Qbw (vs:=[(0,I7 c),(1,.int .u32 t)]) (cs:=lsc (⟨c,t⟩:Lst)) Qqt (rfl) rfl (Qaa (QeQ (vals:=[.agg (lsc (⟨c,t⟩:Lst)).toArray]) (ls:=List.map lsc ([(⟨c,t⟩:Lst)]:List Lst)) QgS rfl rfl rfl (Qbe (enc:=lsc) (fun _=>rfl) _) (QaJ QbZ _) (QQ8 rfl) hs fun b15 w16 hs=>(Qaa (QbN (ls':=(out++[(⟨c,t⟩:Lst)]).map lsc) (n:=(out++[(⟨c,t⟩:Lst)]).length) QgS hs 0 rfl rfl rfl (hs.rd 2 rfl) (QaJ QbZ _) (by simp only [QQ6,QQ7,List.length_cons,List.length_nil];omega) (by simp) (by simp) fun a17 c17 w18 hs=>?_)))))))))))))
   replace hs:Own w no w18 [row (.slice a17 ((out++[(⟨c,t⟩:Lst)]).length) c17) ((out++[(⟨c,t⟩:Lst)]).map lsc) 125 2,blk b3 (lsc (gd l k)) 125,row (.slice (some ⟨b15,0,none⟩) 1 1) ([(⟨c,t⟩:Lst)].map lsc) 125 2]:=hs
   refine Qaa (Qad (V:=.slice a17 ((out++[(⟨c,t⟩:Lst)]).length) c17) rfl (Qaf (Qab (Qaa (Qad (V:=.bool true) rfl (Qaf (Qab (Qaa (Qac (V:=.slice a17 ((out++[(⟨c,t⟩:Lst)]).length) c17) rfl (Qaa (QaG (cs:=lsc (gd l k)) QcZ hs 1 rfl rfl rfl (Qaa (QeQ (vals:=[.agg (lsc (gd l k)).toArray]) (ls:=List.map lsc ([gd l k]:List Lst)) QgS rfl rfl rfl (Qbe (enc:=lsc) (fun _=>rfl) _) (QaJ QbZ _) (QQ8 rfl) hs fun b19 w20 hs=>(Qaa (QbN (ls':=((out++[(⟨c,t⟩:Lst)])++[gd l k]).map lsc) (n:=((out++[(⟨c,t⟩:Lst)])++[gd l k]).length) QgS hs 0 rfl rfl rfl (hs.rd 3 rfl) (QaJ QbZ _) (by simp only [QQ6,QQ7,List.length_cons,List.length_nil];omega) (by simp) (by simp) fun a21 c21 w22 hs=>(Qaa (Qad (V:=.slice a21 (((out++[(⟨c,t⟩:Lst)])++[gd l k]).length) c21) rfl (Qaf (Qab (Qaa (Qac (V:=I6 (k:Int)) rfl (Qaa (QaD (a:=(k:Int)) (b:=1) (c:=((k+1:Nat):Int)) rfl rfl (Qak (by omega) (by omega)) (Qaa (Qad (V:=I6 ((k+1:Nat):Int)) rfl (Qaf ?_))))))))))))))))))))))))))
   refine ⟨_,?_,_,k+1,a21,c21,(out++[(⟨c,t⟩:Lst)])++[gd l k],true,Qai (Qai (Qai (Qao (ds:=(sq 7 41)) (by repeat (first|exact Agr.refl _ _|refine Agr.upd ?_ rfl|refine Agr.mix ?_ rfl))) rfl) rfl) rfl,(by omega),(by simp only [QQ7,List.length_singleton];omega),(QuD htk hT (by omega) c6 c14 c14r),rfl,hs.take 1⟩
   omega
  refine Qap (Qab (Qaa (Qac (V:=.slice an out.length cn) rfl (Qaa (QaG (cs:=lsc (gd l k)) QcZ hs 1 rfl rfl rfl (Qaa (QeQ (vals:=[.agg (lsc (gd l k)).toArray]) (ls:=List.map lsc ([gd l k]:List Lst)) QgS rfl rfl rfl (Qbe (enc:=lsc) (fun _=>rfl) _) (QaJ QbZ _) (QQ8 rfl) hs fun b23 w24 hs=>(Qaa (QbN (ls':=(out++[gd l k]).map lsc) (n:=(out++[gd l k]).length) QgS hs 0 rfl rfl rfl (hs.rd 2 rfl) (QaJ QbZ _) (by simp only [QQ6,QQ7,List.length_cons,List.length_nil];omega) (by simp) (by simp) fun a25 c25 w26 hs=>?_)))))))))
  replace hs:Own w no w26 [row (.slice a25 ((out++[gd l k]).length) c25) ((out++[gd l k]).map lsc) 125 2,blk b3 (lsc (gd l k)) 125,row (.slice (some ⟨b23,0,none⟩) 1 1) ([gd l k].map lsc) 125 2]:=hs
  refine Qaa (Qad (V:=.slice a25 ((out++[gd l k]).length) c25) rfl (Qaf (Qab (Qaa (Qac (V:=I6 (k:Int)) rfl (Qaa (QaD (a:=(k:Int)) (b:=1) (c:=((k+1:Nat):Int)) rfl rfl (Qak (by omega) (by omega)) (Qaa (Qad (V:=I6 ((k+1:Nat):Int)) rfl (Qaf ?_))))))))))
  refine ⟨_,?_,_,k+1,a25,c25,out++[gd l k],dn,Qai (Qai (Qai (Qao (ds:=(sq 7 41)) (by repeat (first|exact Agr.refl _ _|refine Agr.upd ?_ rfl|refine Agr.mix ?_ rfl))) rfl) rfl) rfl,(by omega),(by simp only [QQ7,List.length_singleton];omega),(Qv0 htk (by omega) c6 c14),rfl,hs.take 1⟩
  omega
 replace c2:=QQ2 c2
 refine QaF (Qag (Qag (Qab (Qaa (Qac (V:=.bool dn) rfl (Qaa (Qbz rfl (Qaf (Qan (t:=!dn) rfl (fun c27=>?_) (fun c27=>?_))))))))))
 ·
  replace c27:=Qbn c27
  refine Qab (Qaa (Qac (V:=.slice an out.length cn) rfl (Qaa (Qac (V:=I7 c) rfl (Qaa (Qac (V:=.int .u32 t) rfl (Qaa (Qbw (vs:=[(0,I7 c),(1,.int .u32 t)]) (cs:=lsc (⟨c,t⟩:Lst)) Qqt (rfl) rfl (Qaa (QeQ (vals:=[.agg (lsc (⟨c,t⟩:Lst)).toArray]) (ls:=List.map lsc ([(⟨c,t⟩:Lst)]:List Lst)) QgS rfl rfl rfl (Qbe (enc:=lsc) (fun _=>rfl) _) (QaJ QbZ _) (QQ8 rfl) hs fun b28 w29 hs=>(Qaa (QbN (ls':=(out++[(⟨c,t⟩:Lst)]).map lsc) (n:=(out++[(⟨c,t⟩:Lst)]).length) QgS hs 0 rfl rfl rfl (hs.rd 1 rfl) (QaJ QbZ _) (by simp only [QQ6,QQ7,List.length_cons,List.length_nil];omega) (by simp) (by simp) fun a30 c30 w31 hs=>(Qaa (Qad (V:=.slice a30 ((out++[(⟨c,t⟩:Lst)]).length) c30) rfl (Qaf (Qag (Qab (Qaa (Qac (V:=.slice a30 ((out++[(⟨c,t⟩:Lst)]).length) c30) rfl (Qaa (Qad (V:=.slice a30 ((out++[(⟨c,t⟩:Lst)]).length) c30) rfl (Qaf (Qau ?_)))))))))))))))))))))))
  refine ⟨_,Qaq (V:=.slice a30 ((out++[(⟨c,t⟩:Lst)]).length) c30) Tryz.results54 rfl,?_⟩
  have hX:=(Qqe htk (by omega)).2 c27
  rw [← hX] at hs ⊢
  exact ⟨(a30,c30),rfl,hs.only 0 rfl,trivial⟩
 replace c27:=Qbf c27
 refine Qap (Qag (Qab (Qaa (Qac (V:=.slice an out.length cn) rfl (Qaa (Qad (V:=.slice an out.length cn) rfl (Qaf (Qau ?_))))))))
 refine ⟨_,Qaq (V:=.slice an out.length cn) Tryz.results54 rfl,?_⟩
 have hX:=(Qqe htk (by omega)).1 c27
 rw [← hX] at hs ⊢
 exact ⟨(an,cn),rfl,hs.only 0 rfl,trivial⟩
end Tt
end Go.Proofs
namespace Go.Proofs
open Go Go.Vx Go.RowKit
namespace Tt
theorem QiM (w:World) (p:Pst) (a1:Option Addr) (c1:Nat) (a2:Option Addr) (c2:Nat) (a3:Option Addr) (c3:Nat) (cut:Vec) (hcut:QbV cut) (hok:Qc0 p) (hle:p.base.ents.length<=400) (hlt:p.base.ticks.length<=400) (hlo:p.ops.length<=400) (hr1:Rd w (.slice a1 p.base.ents.length c1) 7 (p.base.ents.map cec)) (hr2:Rd w (.slice a2 p.base.ticks.length c2) 2 (p.base.ticks.map lsc)) (hr3:Rd w (.slice a3 p.ops.length c3) 23 (p.ops.map oc)):Calls Tryz.prog 14 #[.agg (((vc p.base.known)++[(.slice a1 p.base.ents.length c1:Value),(.slice a2 p.base.ticks.length c2:Value) ])++[(.slice a3 p.ops.length c3:Value) ]++(vc p.known)).toArray,.agg (vc cut).toArray] w (fun e w'=>∃ x:((Option Addr × Nat) × (Option Addr × Nat)) × Bool,e = .returned (.tuple #[.agg (vc (Qah p cut).known++[(.slice x.1.1.1 ((Qah p cut).ents).length x.1.1.2:Value),(.slice x.1.2.1 ((Qah p cut).ticks).length x.1.2.2:Value)]).toArray,.int .i64 (Qbb p cut)])/\Own w no w' [row (.slice x.1.1.1 ((Qah p cut).ents).length x.1.1.2) ((Qah p cut).ents.map cec) 119 7,cond x.2 emp (row (.slice x.1.2.1 ((Qah p cut).ticks).length x.1.2.2) ((Qah p cut).ticks.map lsc) 125 2)]/\(x.2=true->x.1.2=(a2,c2)/\(Qah p cut).ticks=p.base.ticks)):=by
 refine Qaj (n:=94) Tryz.func14 rfl Tryz.ntmps14 rfl ?_
 have hs:=Own.start w
 have ⟨hokb,hoko,hokk⟩:=hok
 have hn1:=hr1.sml
 have hn2:=hr2.sml
 have hn3:=hr3.sml
 refine Qag (Qab (Qaa (QaN (V:=.agg (((vc p.base.known)++[(.slice a1 p.base.ents.length c1:Value),(.slice a2 p.base.ticks.length c2:Value) ])++[(.slice a3 p.ops.length c3:Value) ]++(vc p.known)).toArray) (cs:=((vc p.base.known)++[(.slice a1 p.base.ents.length c1:Value),(.slice a2 p.base.ticks.length c2:Value) ])++[(.slice a3 p.ops.length c3:Value) ]++(vc p.known)) rfl rfl hs fun b1 w2 hs=>(Qaa (QaN (V:=.agg (vc cut).toArray) (cs:=vc cut) rfl rfl hs fun b3 w4 hs=>(Qaa (QaM (cs:=(vc vzero)++[(.slice none 0 0:Value),(.slice none 0 0:Value) ]) QrP rfl hs fun b5 w6 hs=>(Qaa (Qad (V:=I6 0) rfl (Qaf (Qag (Qab (Qaa (QaG (cs:=((vc p.base.known)++[(.slice a1 p.base.ents.length c1:Value),(.slice a2 p.base.ticks.length c2:Value) ])++[(.slice a3 p.ops.length c3:Value) ]++(vc p.known)) QjF hs 0 rfl rfl rfl (Qaa (QaG (cs:=vc cut) QbA hs 1 rfl rfl rfl (Qaa (Qat (vs:=[.agg (((vc p.base.known)++[(.slice a1 p.base.ents.length c1:Value),(.slice a2 p.base.ticks.length c2:Value) ])++[(.slice a3 p.ops.length c3:Value) ]++(vc p.known)).toArray,.agg (vc cut).toArray]) (V:=I6 (Qbb p cut)) QvU rfl rfl ?hc hs fun w7 hs=>?_))))))))))))))))))
 case hc=>exact (QqI _ p a1 c1 a2 c2 a3 c3 cut hcut hok (Rd.own' hr1 hs) (Rd.own' hr2 hs) (Rd.own' hr3 hs))
 refine Qaa (Qad (V:=I6 (Qbb p cut)) rfl (Qaf (Qag (Qag (Qab (Qaa (Qac (V:=I6 (Qbb p cut)) rfl (Qaa (Qch rfl rfl (Qaf (Qan (t:=!decide (Qbb p cut=0)) rfl (fun c8=>?_) (fun c8=>?_))))))))))))
 ·
  replace c8:=Qbn c8
  replace c8:=QQ2 c8
  refine Qag (Qab (Qaa (QcI (vs:=[]) (cs:=(vc vzero)++[(.slice none 0 0:Value),(.slice none 0 0:Value) ]) [vc vzero,[(.slice none 0 0:Value)],[(.slice none 0 0:Value)]] [vc vzero,[(.slice none 0 0:Value)],[(.slice none 0 0:Value)]] Qup rfl (rfl) rfl rfl (Qaa (Qac (V:=I6 (Qbb p cut)) rfl (Qaa (QcK (V:=.agg ((vc vzero)++[(.slice none 0 0:Value),(.slice none 0 0:Value) ]).toArray) (vs:=(vc vzero)++[(.slice none 0 0:Value),(.slice none 0 0:Value) ]) (cs':=(vc vzero)++[(.slice none 0 0:Value),(.slice none 0 0:Value) ]) Qd9.1 hs 2 rfl rfl rfl rfl rfl (QQ8 rfl) (QbT (QcB _) (Qav rfl (Qav rfl Qbk))) (QaB rfl) fun w9 hs=>?_)))))))
  replace hs:Own w no w9 [blk b1 (((vc p.base.known)++[(.slice a1 p.base.ents.length c1:Value),(.slice a2 p.base.ticks.length c2:Value) ])++[(.slice a3 p.ops.length c3:Value) ]++(vc p.known)) 31,blk b3 (vc cut) 24,blk b5 ((vc vzero)++[(.slice none 0 0:Value),(.slice none 0 0:Value) ]) 28]:=hs
  refine Qaa (Qad (V:=I6 (Qbb p cut)) rfl (Qaf (Qau ?_)))
  refine ⟨_,Qdy (cs:=(vc vzero)++[(.slice none 0 0:Value),(.slice none 0 0:Value) ]) (V:=I6 (Qbb p cut)) Tryz.results14 Qd9 hs 2 rfl rfl rfl rfl,?_⟩
  rw [QiT c8]
  exact ⟨(((none,0),(none,0)),false),rfl,((hs.take 0).more _ (Qbg _ _ 119 7)).more _ (Qbg _ _ 125 2),fun h=>nomatch h⟩
 replace c8:=Qbf c8
 replace c8:=QQ1 c8
 refine Qap (Qag (Qab (Qaa (Qae Qd3 rfl (Qaa (QaE (V:=.slice a3 p.ops.length c3) Qfs hs 0 rfl rfl rfl (Qaa (QaG (cs:=vc cut) QbA hs 1 rfl rfl rfl (Qaa (Qbh (vs:=[.slice a3 p.ops.length c3,.agg (vc cut).toArray]) (V:=fun x:Option Addr × Nat=>.slice x.1 (Qal p.ops cut).length x.2) Qu8 rfl rfl (QnR _ cut a3 c3 p.ops hoko (by omega) (Rd.own' hr3 hs)) hs fun x10 w11 hs _=>?_))))))))))
 replace hs:Own w no w11 [blk b1 (((vc p.base.known)++[(.slice a1 p.base.ents.length c1:Value),(.slice a2 p.base.ticks.length c2:Value) ])++[(.slice a3 p.ops.length c3:Value) ]++(vc p.known)) 31,blk b3 (vc cut) 24,blk b5 ((vc vzero)++[(.slice none 0 0:Value),(.slice none 0 0:Value) ]) 28,row (.slice x10.1 ((Qal p.ops cut).length) x10.2) ((Qal p.ops cut).map oc) 98 23]:=hs
 refine Qaa (Qad (V:=.slice x10.1 ((Qal p.ops cut).length) x10.2) rfl (Qaf (Qag (Qab (Qaa (Qad (V:=.slice none 0 0) rfl (Qaf (Qag (Qab (Qaa (Qae Qd8 rfl (Qaa (Qae QcW rfl (Qaa (QaE (V:=.slice a2 p.base.ticks.length c2) QfK hs 0 rfl rfl rfl (Qaa (Qad (V:=.slice a2 p.base.ticks.length c2) rfl (Qaf (Qag (Qag (Qab (Qaa (Qad (V:=I6 0) rfl (Qaf (Qam ?_)))))))))))))))))))))))))
 have hr0:=(Qec c8).1
 obtain ⟨hopsC,hrb⟩:=QcE hr0
 have hul:=Qiy p.ops cut
 replace hs:=hs.more (row (.slice none 0 0) (List.map cec []) 119 7) (Qbg _ _ _ _)
 refine QaA (fun J μ J' w'=>∃ (Jo:Env) (k:Nat) (a7:Option Addr) (cb7:Nat) (L7:List Cen),J'=upd (upd (mix ([8,10,11]++sq 28 23) Jo J) 10 (I6 (k:Int))) 8 (.slice a7 L7.length cb7)/\(k<=p.base.ents.length)/\(L7=(p.base.ents.take k).filter (QcP (Qal p.ops cut)))/\(L7.length<=k)/\μ=p.base.ents.length-k/\Own w no w' [blk b1 (((vc p.base.known)++[(.slice a1 p.base.ents.length c1:Value),(.slice a2 p.base.ticks.length c2:Value) ])++[(.slice a3 p.ops.length c3:Value) ]++(vc p.known)) 31,blk b3 (vc cut) 24,blk b5 ((vc vzero)++[(.slice none 0 0:Value),(.slice none 0 0:Value) ]) 28,row (.slice x10.1 ((Qal p.ops cut).length) x10.2) ((Qal p.ops cut).map oc) 98 23,row (.slice a7 L7.length cb7) (L7.map cec) 119 7]) ?_ ?_
 ·exact ⟨_,_,0,none,0,[],Qai (Qai (Qao (ds:=([8,10,11]++sq 28 23)) (Agr.refl _ _)) rfl) rfl,(by omega),rfl,(Nat.le_refl _),rfl,hs⟩
 rintro μ J' w12 ⟨Jo,k,a7,cb7,L7,rfl,hk,hL7,hn7,rfl,hs⟩
 refine Qag (Qag (Qab (Qaa (Qac (V:=I6 (k:Int)) rfl (Qaa (Qae Qd8 rfl (Qaa (Qae Qb1 rfl (Qaa (QaE (V:=.slice a1 p.base.ents.length c1) QdM hs 0 rfl rfl rfl (Qaa (Qa2 (n:=p.base.ents.length) Qc4 (Rd.own' hr1 hs) (by simp) rfl (Qaa (QaQ rfl rfl (Qaf (Qan (t:=decide ((k:Int)<((p.base.ents.length:Nat):Int))) rfl (fun c13=>?_) (fun c13=>?_)))))))))))))))))
 ·
  replace c13:=QQ1 c13
  refine Qap (Qag (Qam (Qag ?_)))
  have hdk:=(hokb.2.1 _ (QbK (l:=p.base.ents) (i:=k) (by omega))).2.2.2.2.1
  refine Qab (Qaa (Qae Qd8 rfl (Qaa (Qae Qb1 rfl (Qaa (QaE (V:=.slice a1 p.base.ents.length c1) QdM hs 0 rfl rfl rfl (Qaa (Qac (V:=I6 (k:Int)) rfl (Qaa (Qaw Qc4 Qbu.1 (Rd.own' hr1 hs) rfl rfl (by omega) (by rw [QQ6];omega) (Qaa (Qa1 (j:=0) (vs:=cec (gd p.base.ents k)) k Qbu (Rd.own' hr1 hs) (QaT (by omega)) rfl rfl rfl (by omega) (Qaa (QaM (cs:=cec (⟨0,0,0,0,(⟨0,0⟩:Dot),0⟩:Cen)) QmZ rfl hs fun b14 w15 hs=>(Qaa (QcK (V:=.agg (cec (gd p.base.ents k)).toArray) (vs:=cec (gd p.base.ents k)) (cs':=cec (gd p.base.ents k)) Qbu.1 hs 5 rfl rfl rfl rfl rfl (QQ8 rfl) (Qa8 _) (QaB rfl) fun w16 hs=>(Qaf (Qag (Qab (Qaa (Qac (V:=.slice x10.1 ((Qal p.ops cut).length) x10.2) rfl (Qaa (QaG (cs:=cec (gd p.base.ents k)) Qbu hs 5 rfl rfl rfl (Qaa (Qat (vs:=[.agg (cec (gd p.base.ents k)).toArray]) (V:=.agg (oc (Qbm (gd p.base.ents k))).toArray) Qvo rfl rfl ?hc hs fun w17 hs=>?_)))))))))))))))))))))))))
  case hc=>exact (Qpw _ (gd p.base.ents k))
  refine Qaa (Qat (vs:=[.slice x10.1 ((Qal p.ops cut).length) x10.2,.agg (oc (Qbm (gd p.base.ents k))).toArray]) (V:=.bool ((Qal p.ops cut).any fun x=>QaV x (Qbm (gd p.base.ents k)))) Quj rfl rfl ?hc hs fun w18 hs=>?_)
  case hc=>exact (Qki _ x10.1 x10.2 (Qal p.ops cut) (Qbm (gd p.base.ents k)) (by assumption) (hs.rd 3 rfl))
  refine Qaa (Qbz rfl (Qaf (Qan (t:=!((Qal p.ops cut).any fun x=>QaV x (Qbm (gd p.base.ents k)))) rfl (fun c19=>?_) (fun c19=>?_))))
  ·
   replace c19:=Qbn c19
   refine Qab (Qaa (Qac (V:=.slice a7 L7.length cb7) rfl (Qaa (QaG (cs:=cec (gd p.base.ents k)) Qbu hs 5 rfl rfl rfl (Qaa (QeQ (vals:=[.agg (cec (gd p.base.ents k)).toArray]) (ls:=List.map cec ([gd p.base.ents k]:List Cen)) QgU rfl rfl rfl (Qbe (enc:=cec) (fun _=>rfl) _) (QaJ Qa8 _) (QQ8 rfl) hs fun b20 w21 hs=>(Qaa (QbN (ls':=(L7++[gd p.base.ents k]).map cec) (n:=(L7++[gd p.base.ents k]).length) QgU hs 4 rfl rfl rfl (hs.rd 6 rfl) (QaJ Qa8 _) (by simp only [QQ6,QQ7,List.length_cons,List.length_nil];omega) (by simp) (by simp) fun a22 c22 w23 hs=>?_))))))))
   replace hs:Own w no w23 [blk b1 (((vc p.base.known)++[(.slice a1 p.base.ents.length c1:Value),(.slice a2 p.base.ticks.length c2:Value) ])++[(.slice a3 p.ops.length c3:Value) ]++(vc p.known)) 31,blk b3 (vc cut) 24,blk b5 ((vc vzero)++[(.slice none 0 0:Value),(.slice none 0 0:Value) ]) 28,row (.slice x10.1 ((Qal p.ops cut).length) x10.2) ((Qal p.ops cut).map oc) 98 23,row (.slice a22 ((L7++[gd p.base.ents k]).length) c22) ((L7++[gd p.base.ents k]).map cec) 119 7,blk b14 (cec (gd p.base.ents k)) 119,row (.slice (some ⟨b20,0,none⟩) 1 1) ([gd p.base.ents k].map cec) 119 7]:=hs
   refine Qaa (Qad (V:=.slice a22 ((L7++[gd p.base.ents k]).length) c22) rfl (Qaf (Qab (Qaa (Qac (V:=I6 (k:Int)) rfl (Qaa (QaD (a:=(k:Int)) (b:=1) (c:=((k+1:Nat):Int)) rfl rfl (Qak (by omega) (by omega)) (Qaa (Qad (V:=I6 ((k+1:Nat):Int)) rfl (Qaf ?_))))))))))
   refine ⟨_,?_,_,k+1,a22,c22,L7++[gd p.base.ents k],Qai (Qai (Qao (ds:=([8,10,11]++sq 28 23)) (by repeat (first|exact Agr.refl _ _|refine Agr.upd ?_ rfl|refine Agr.mix ?_ rfl))) rfl) rfl,(by omega),(Qff hL7 (by omega) (by rw [Qh9,c19];rfl)),(by rw [QQ7,List.length_singleton];omega),rfl,hs.take 5⟩
   omega
  replace c19:=Qbf c19
  refine Qap (Qab (Qaa (Qac (V:=I6 (k:Int)) rfl (Qaa (QaD (a:=(k:Int)) (b:=1) (c:=((k+1:Nat):Int)) rfl rfl (Qak (by omega) (by omega)) (Qaa (Qad (V:=I6 ((k+1:Nat):Int)) rfl (Qaf ?_))))))))
  refine ⟨_,?_,_,k+1,a7,cb7,L7,Qai (Qai (Qao (ds:=([8,10,11]++sq 28 23)) (by repeat (first|exact Agr.refl _ _|refine Agr.upd ?_ rfl|refine Agr.mix ?_ rfl))) rfl) rfl,(by omega),(QdY hL7 (by omega) (by rw [Qh9,c19];rfl)),(by omega),rfl,hs.take 5⟩
  omega
 replace c13:=QQ2 c13
 refine QaF (Qag (Qag (Qab (Qaa (Qad (V:=I6 0) rfl (Qaf (Qam ?_)))))))
 have hL70:L7=p.base.ents.filter (QcP (Qal p.ops cut)):=by rw [hL7,Qb6 (by omega)]
 replace hs:=hs.more emp trivial
 refine QaA (fun J μ J' w'=>∃ (Jo:Env) (k2:Nat) (a6:Option Addr) (cb6:Nat) (L6:List Cen) (z:Bool) (a9:Option Addr) (cb9:Nat) (T9:List Lst),J'=upd (upd (upd (mix ([8,9,12,13]++sq 51 39) Jo J) 12 (I6 (k2:Int))) 8 (.slice a6 L6.length cb6)) 9 (.slice a9 T9.length cb9)/\(k2<=(Qal p.ops cut).length)/\(L6=Qcg ((QbC p.base.ents ((Qal p.ops cut).take k2)).filter (QcP (Qal p.ops cut))))/\(T9=QbS p.base.ticks ((Qal p.ops cut).take k2))/\(z=true->((a9,cb9)=(a2,c2)/\T9=p.base.ticks))/\(L6.length<=p.base.ents.length+k2)/\μ=(Qal p.ops cut).length-k2/\Own w no w' [blk b1 (((vc p.base.known)++[(.slice a1 p.base.ents.length c1:Value),(.slice a2 p.base.ticks.length c2:Value) ])++[(.slice a3 p.ops.length c3:Value) ]++(vc p.known)) 31,blk b3 (vc cut) 24,blk b5 ((vc vzero)++[(.slice none 0 0:Value),(.slice none 0 0:Value) ]) 28,row (.slice x10.1 ((Qal p.ops cut).length) x10.2) ((Qal p.ops cut).map oc) 98 23,row (.slice a6 L6.length cb6) (L6.map cec) 119 7,cond z emp (row (.slice a9 T9.length cb9) (T9.map lsc) 125 2)]) ?_ ?_
 ·exact ⟨_,_,0,a7,cb7,L7,true,a2,c2,p.base.ticks,Qai (Qai (Qai (Qao (ds:=([8,9,12,13]++sq 51 39)) (Agr.refl _ _)) rfl) rfl) rfl,(by omega),(QnC hr0 _ hL70),rfl,(fun _=>⟨rfl,rfl⟩),(by omega),rfl,hs⟩
 rintro μ J' w24 ⟨Jo,k2,a6,cb6,L6,z,a9,cb9,T9,rfl,hk2,hL6,hT9,hz9,hn6,rfl,hs⟩
 have hrz:z=true->Rd w (.slice a9 T9.length cb9) 2 (T9.map lsc):=fun h=>by
  obtain ⟨e1,e2⟩:=hz9 h
  rw [Prod.mk.injEq] at e1
  rw [e1.1,e1.2,e2];exact hr2
 have hT8:QdS T9:=by rw [hT9];exact QcF hrb.rt _
 have hl9:T9.length<=3000:=by have:=Qhe (s:=p.base.ticks) ((Qal p.ops cut).take k2);rw [← hT9,List.length_take] at this;omega
 refine Qag (Qag (Qab (Qaa (Qac (V:=I6 (k2:Int)) rfl (Qaa (Qac (V:=.slice x10.1 ((Qal p.ops cut).length) x10.2) rfl (Qaa (Qa2 (n:=(Qal p.ops cut).length) QdK (hs.rd 3 rfl) (by simp) rfl (Qaa (QaQ rfl rfl (Qaf (Qan (t:=decide ((k2:Int)<(((Qal p.ops cut).length:Nat):Int))) rfl (fun c25=>?_) (fun c25=>?_)))))))))))))
 ·
  replace c25:=QQ1 c25
  refine Qap (Qag (Qam (Qag ?_)))
  have hOk:=hoko _ (QdH (QbK (l:=(Qal p.ops cut)) (i:=k2) (by omega)))
  have hdk:=hOk.1
  have hxk:=hOk.2.2.2.2.2.2
  refine Qab (Qaa (Qac (V:=.slice x10.1 ((Qal p.ops cut).length) x10.2) rfl (Qaa (Qac (V:=I6 (k2:Int)) rfl (Qaa (Qaw QdK Qb5.1 (hs.rd 3 rfl) rfl rfl (by omega) (by rw [QQ6];omega) (Qaa (Qa1 (j:=0) (vs:=oc (gd (Qal p.ops cut) k2)) k2 Qb5 (hs.rd 3 rfl) (QaT (by omega)) rfl rfl rfl (by omega) (Qaa (QaM (cs:=oc (⟨(⟨0,0⟩:Dot),0,0,0,0,0,vzero⟩:Opn)) QnV rfl hs fun b26 w27 hs=>(Qaa (QcK (V:=.agg (oc (gd (Qal p.ops cut) k2)).toArray) (vs:=oc (gd (Qal p.ops cut) k2)) (cs':=oc (gd (Qal p.ops cut) k2)) Qb5.1 hs 6 rfl rfl rfl rfl rfl (QQ8 rfl) (Qey _) (QaB rfl) fun w28 hs=>(Qaf (Qag (Qab (Qaa (Qac (V:=.slice a9 T9.length cb9) rfl (Qaa (Qae QdI rfl (Qaa (QaE (V:=I7 ((gd (Qal p.ops cut) k2).cart)) Qar hs 6 rfl rfl rfl (Qaa (Qae QhH rfl (Qaa (QaE (V:=.int .u32 ((gd (Qal p.ops cut) k2).tick)) Qa6 hs 6 rfl rfl rfl (Qaa (Qbh (vs:=[.slice a9 T9.length cb9,I7 ((gd (Qal p.ops cut) k2).cart),.int .u32 ((gd (Qal p.ops cut) k2).tick)]) (V:=fun x:Option Addr × Nat=>.slice x.1 (Qdd ((gd (Qal p.ops cut) k2).cart) ((gd (Qal p.ops cut) k2).tick) T9).length x.2) QvA rfl rfl (Qlg _ a9 cb9 T9 ((gd (Qal p.ops cut) k2).cart) ((gd (Qal p.ops cut) k2).tick) (by omega) hT8 (hs.rdC 5 rfl hrz)) hs fun x29 w30 hs _=>(Qaa (Qad (V:=.slice x29.1 ((Qdd ((gd (Qal p.ops cut) k2).cart) ((gd (Qal p.ops cut) k2).tick) T9).length) x29.2) rfl (Qaf (Qag (Qbj [some 67,some 68,some 69,some 70,some 71,some 72,some 73,some 74] [] [0,1,3,7,7,31,63,127] [pv (.agg (oc (gd (Qal p.ops cut) k2)).toArray),pv (.bool (Qa0 (gd (Qal p.ops cut) k2))),pv (.bool (Qa0 (gd (Qal p.ops cut) k2))),pg ((Qa0 (gd (Qal p.ops cut) k2)) == true) (.slice x10.1 ((Qal p.ops cut).length) x10.2),pg ((Qa0 (gd (Qal p.ops cut) k2)) == true) (.agg (oc (gd (Qal p.ops cut) k2)).toArray),pg ((Qa0 (gd (Qal p.ops cut) k2)) == true) (.bool ((Qal p.ops cut).any fun x=>QaV x (gd (Qal p.ops cut) k2))),pg ((Qa0 (gd (Qal p.ops cut) k2)) == true) (.bool (!((Qal p.ops cut).any fun x=>QaV x (gd (Qal p.ops cut) k2)))),pv (.bool ((Qa0 (gd (Qal p.ops cut) k2))&&(!((Qal p.ops cut).any fun x=>QaV x (gd (Qal p.ops cut) k2)))))] (fun _ _=>_) [7] (by kernel_rfl) hs ⟨?_,?_,?_,?_,?_,?_,?_,?_,trivial⟩ ?_))))))))))))))))))))))))))))))))
  ·exact oa [] fun D J w hs=>QaG (cs:=oc (gd (Qal p.ops cut) k2)) Qb5 hs 6 rfl rfl rfl (Zz hs)
  ·exact oa [0] fun D J w hs=>Qat (vs:=[.agg (oc (gd (Qal p.ops cut) k2)).toArray]) (V:=.bool (Qa0 (gd (Qal p.ops cut) k2))) QtR rfl rfl (QkL _ (gd (Qal p.ops cut) k2)) hs fun _ hs=>Zz hs
  ·exact oa [1] fun D J w hs=>Qac (V:=.bool (Qa0 (gd (Qal p.ops cut) k2))) rfl (Zz hs)
  ·exact og [2] fun D J w hG hs=>Qac (V:=.slice x10.1 ((Qal p.ops cut).length) x10.2) rfl (Zz hs)
  ·exact og [2] fun D J w hG hs=>QaG (cs:=oc (gd (Qal p.ops cut) k2)) Qb5 hs 6 rfl rfl rfl (Zz hs)
  ·exact oy [2,3,4] [3,4] fun D J w hG hs=>Qat (vs:=[.slice x10.1 ((Qal p.ops cut).length) x10.2,.agg (oc (gd (Qal p.ops cut) k2)).toArray]) (V:=.bool ((Qal p.ops cut).any fun x=>QaV x (gd (Qal p.ops cut) k2))) Quj rfl rfl (Qki _ x10.1 x10.2 (Qal p.ops cut) (gd (Qal p.ops cut) k2) (by assumption) (hs.rd 3 rfl)) hs fun _ hs=>Zz hs
  ·exact oy [2,5] [5] fun D J w hG hs=>Qbz rfl (Zz hs)
  ·exact oa [2,6] fun D J w hs=>Qa4 (h':=!((Qal p.ops cut).any fun x=>QaV x (gd (Qal p.ops cut) k2))) rfl rfl rfl (Zz hs)
  rintro J1 w33 J2 hJ hs
  replace hJ:J2=upd (mix (sq 67 8) J1 _) 74 (.bool ((Qa0 (gd (Qal p.ops cut) k2))&&(!((Qal p.ops cut).any fun x=>QaV x (gd (Qal p.ops cut) k2))))):=hJ
  subst hJ
  refine Qan (t:=(Qa0 (gd (Qal p.ops cut) k2))&&(!((Qal p.ops cut).any fun x=>QaV x (gd (Qal p.ops cut) k2)))) rfl (fun c34=>?_) (fun c34=>?_)
  ·
   have c34r:=QbF c34
   replace c34:=QbD c34
   replace c34r:=Qbn c34r
   replace hs:=hs.more emp trivial
   refine QaI HM [some 75,some 76,some 77,some 78,some 79,some 80,some 81,some 82,some 83,some 84,some 85,some 86,some 87,some 88,some 89,some 8] [[],[],[],[],[],[],[],[],[],[],[],[],[],[],[89],[89]] [0,0,2,0,8,0,32,0,128,0,512,0,2048,8190,16383,32767] [pv (.slice a6 L6.length cb6),pv (Pq b26 (0+3)),pv (I7 ((gd (Qal p.ops cut) k2).cart)),pv (Pq b26 (0+4)),pv (I7 ((gd (Qal p.ops cut) k2).item)),pv (Pq b26 (0+5)),pv (I7 ((gd (Qal p.ops cut) k2).qty)),pv (Pq b26 (0+2)),pv (.int .u8 ((gd (Qal p.ops cut) k2).kind)),pv (Pq b26 (0+0)),pv (.agg (dc ((gd (Qal p.ops cut) k2).dot)).toArray),pv (.agg (oc (gd (Qal p.ops cut) k2)).toArray),pv (.int .u64 (QcV (gd (Qal p.ops cut) k2))),pv (.agg (cec (⟨(gd (Qal p.ops cut) k2).cart,(gd (Qal p.ops cut) k2).item,(gd (Qal p.ops cut) k2).qty,(gd (Qal p.ops cut) k2).kind,(gd (Qal p.ops cut) k2).dot,QcV (gd (Qal p.ops cut) k2)⟩:Cen)).toArray),(true,fun J=>.slice (aOf (J 89)) ((QdN (⟨(gd (Qal p.ops cut) k2).cart,(gd (Qal p.ops cut) k2).item,(gd (Qal p.ops cut) k2).qty,(gd (Qal p.ops cut) k2).kind,(gd (Qal p.ops cut) k2).dot,QcV (gd (Qal p.ops cut) k2)⟩:Cen) L6).length) (cOf (J 89))),(true,fun J=>.slice (aOf (J 89)) ((QdN (⟨(gd (Qal p.ops cut) k2).cart,(gd (Qal p.ops cut) k2).item,(gd (Qal p.ops cut) k2).qty,(gd (Qal p.ops cut) k2).kind,(gd (Qal p.ops cut) k2).dot,QcV (gd (Qal p.ops cut) k2)⟩:Cen) L6).length) (cOf (J 89)))] (fun D J=>[blk b1 (((vc p.base.known)++[(.slice a1 p.base.ents.length c1:Value),(.slice a2 p.base.ticks.length c2:Value) ])++[(.slice a3 p.ops.length c3:Value) ]++(vc p.known)) 31,blk b3 (vc cut) 24,blk b5 ((vc vzero)++[(.slice none 0 0:Value),(.slice none 0 0:Value) ]) 28,row (.slice x10.1 ((Qal p.ops cut).length) x10.2) ((Qal p.ops cut).map oc) 98 23,row (.slice a6 L6.length cb6) (L6.map cec) 119 7,cond z emp (row (.slice a9 T9.length cb9) (T9.map lsc) 125 2),blk b26 (oc (gd (Qal p.ops cut) k2)) 98,row (.slice x29.1 ((Qdd ((gd (Qal p.ops cut) k2).cart) ((gd (Qal p.ops cut) k2).tick) T9).length) x29.2) ((Qdd ((gd (Qal p.ops cut) k2).cart) ((gd (Qal p.ops cut) k2).tick) T9).map lsc) 125 2,cond (D 14) (row (.slice (aOf (J 89)) ((QdN (⟨(gd (Qal p.ops cut) k2).cart,(gd (Qal p.ops cut) k2).item,(gd (Qal p.ops cut) k2).qty,(gd (Qal p.ops cut) k2).kind,(gd (Qal p.ops cut) k2).dot,QcV (gd (Qal p.ops cut) k2)⟩:Cen) L6).length) (cOf (J 89))) ((QdN (⟨(gd (Qal p.ops cut) k2).cart,(gd (Qal p.ops cut) k2).item,(gd (Qal p.ops cut) k2).qty,(gd (Qal p.ops cut) k2).kind,(gd (Qal p.ops cut) k2).dot,QcV (gd (Qal p.ops cut) k2)⟩:Cen) L6).map cec) 119 7) (emp)]) [15] (by kernel_rfl) hs ⟨?_,?_,?_,?_,?_,?_,?_,?_,?_,?_,?_,?_,?_,?_,?_,?_,trivial⟩ ?_
   ·exact ob [] [15] rfl rfl fun D J w hs=>Qac (V:=.slice a6 L6.length cb6) rfl (Zz hs)
   ·exact oa [] fun D J w hs=>Qae QdI rfl (Zz hs)
   ·exact oa [1] fun D J w hs=>QaE (V:=.int .u16 ((gd (Qal p.ops cut) k2).cart)) Qar hs 6 rfl rfl rfl (Zz hs)
   ·exact oa [] fun D J w hs=>Qae QcU rfl (Zz hs)
   ·exact oa [3] fun D J w hs=>QaE (V:=.int .u16 ((gd (Qal p.ops cut) k2).item)) Qar hs 6 rfl rfl rfl (Zz hs)
   ·exact oa [] fun D J w hs=>Qae Qdt rfl (Zz hs)
   ·exact oa [5] fun D J w hs=>QaE (V:=.int .u16 ((gd (Qal p.ops cut) k2).qty)) Qar hs 6 rfl rfl rfl (Zz hs)
   ·exact oa [] fun D J w hs=>Qae QbR rfl (Zz hs)
   ·exact oa [7] fun D J w hs=>QaE (V:=.int .u8 ((gd (Qal p.ops cut) k2).kind)) QcN hs 6 rfl rfl rfl (Zz hs)
   ·exact oa [] fun D J w hs=>Qae Qb3 rfl (Zz hs)
   ·exact oa [9] fun D J w hs=>Qb0 (vs:=dc ((gd (Qal p.ops cut) k2).dot)) QcR hs 6 rfl rfl rfl rfl (Zz hs)
   ·exact oa [] fun D J w hs=>QaG (cs:=oc (gd (Qal p.ops cut) k2)) Qb5 hs 6 rfl rfl rfl (Zz hs)
   ·exact oa [11] fun D J w hs=>Qat (vs:=[.agg (oc (gd (Qal p.ops cut) k2)).toArray]) (V:=.int .u64 (QcV (gd (Qal p.ops cut) k2))) Qvg rfl rfl (Qlm _ (gd (Qal p.ops cut) k2) hxk) hs fun _ hs=>Zz hs
   ·exact oa [2,4,6,8,10,12] fun D J w hs=>Qbw (vs:=[(0,.int .u16 ((gd (Qal p.ops cut) k2).cart)),(1,.int .u16 ((gd (Qal p.ops cut) k2).item)),(2,.int .u16 ((gd (Qal p.ops cut) k2).qty)),(3,.int .u8 ((gd (Qal p.ops cut) k2).kind)),(4,.agg (dc ((gd (Qal p.ops cut) k2).dot)).toArray),(5,.int .u64 (QcV (gd (Qal p.ops cut) k2)))]) (cs:=cec (⟨(gd (Qal p.ops cut) k2).cart,(gd (Qal p.ops cut) k2).item,(gd (Qal p.ops cut) k2).qty,(gd (Qal p.ops cut) k2).kind,(gd (Qal p.ops cut) k2).dot,QcV (gd (Qal p.ops cut) k2)⟩:Cen)) QtW (rfl) rfl (Zz hs)
   ·exact oa [0,13] fun D J w hs=>Qbh (vs:=[.slice a6 L6.length cb6,.agg (cec (⟨(gd (Qal p.ops cut) k2).cart,(gd (Qal p.ops cut) k2).item,(gd (Qal p.ops cut) k2).qty,(gd (Qal p.ops cut) k2).kind,(gd (Qal p.ops cut) k2).dot,QcV (gd (Qal p.ops cut) k2)⟩:Cen)).toArray]) (V:=fun x:Option Addr × Nat=>.slice x.1 (QdN (⟨(gd (Qal p.ops cut) k2).cart,(gd (Qal p.ops cut) k2).item,(gd (Qal p.ops cut) k2).qty,(gd (Qal p.ops cut) k2).kind,(gd (Qal p.ops cut) k2).dot,QcV (gd (Qal p.ops cut) k2)⟩:Cen) L6).length x.2) Qwb rfl rfl (QrI _ a6 cb6 L6 (⟨(gd (Qal p.ops cut) k2).cart,(gd (Qal p.ops cut) k2).item,(gd (Qal p.ops cut) k2).qty,(gd (Qal p.ops cut) k2).kind,(gd (Qal p.ops cut) k2).dot,QcV (gd (Qal p.ops cut) k2)⟩:Cen) (by omega) (hs.rd 4 rfl)) hs fun _ _ hs _=>⟨rfl,hs.put 8 (QQ8 rfl)⟩
   ·exact oa [14] fun D J w hs=>Qad (V:=.slice (aOf (J 89)) ((QdN (⟨(gd (Qal p.ops cut) k2).cart,(gd (Qal p.ops cut) k2).item,(gd (Qal p.ops cut) k2).qty,(gd (Qal p.ops cut) k2).kind,(gd (Qal p.ops cut) k2).dot,QcV (gd (Qal p.ops cut) k2)⟩:Cen) L6).length) (cOf (J 89))) rfl (Zz hs)
   rintro J1 w37 J2 hJ hs
   replace hJ:J2=upd (mix (sq 75 15++[8]) J1 _) 8 (.slice (aOf (J1 89)) ((QdN (⟨(gd (Qal p.ops cut) k2).cart,(gd (Qal p.ops cut) k2).item,(gd (Qal p.ops cut) k2).qty,(gd (Qal p.ops cut) k2).kind,(gd (Qal p.ops cut) k2).dot,QcV (gd (Qal p.ops cut) k2)⟩:Cen) L6).length) (cOf (J1 89))):=hJ
   replace hs:Own w no w37 [blk b1 (((vc p.base.known)++[(.slice a1 p.base.ents.length c1:Value),(.slice a2 p.base.ticks.length c2:Value) ])++[(.slice a3 p.ops.length c3:Value) ]++(vc p.known)) 31,blk b3 (vc cut) 24,blk b5 ((vc vzero)++[(.slice none 0 0:Value),(.slice none 0 0:Value) ]) 28,row (.slice x10.1 ((Qal p.ops cut).length) x10.2) ((Qal p.ops cut).map oc) 98 23,row (.slice a6 L6.length cb6) (L6.map cec) 119 7,cond z emp (row (.slice a9 T9.length cb9) (T9.map lsc) 125 2),blk b26 (oc (gd (Qal p.ops cut) k2)) 98,row (.slice x29.1 ((Qdd ((gd (Qal p.ops cut) k2).cart) ((gd (Qal p.ops cut) k2).tick) T9).length) x29.2) ((Qdd ((gd (Qal p.ops cut) k2).cart) ((gd (Qal p.ops cut) k2).tick) T9).map lsc) 125 2,row (.slice (aOf (J1 89)) ((QdN (⟨(gd (Qal p.ops cut) k2).cart,(gd (Qal p.ops cut) k2).item,(gd (Qal p.ops cut) k2).qty,(gd (Qal p.ops cut) k2).kind,(gd (Qal p.ops cut) k2).dot,QcV (gd (Qal p.ops cut) k2)⟩:Cen) L6).length) (cOf (J1 89))) ((QdN (⟨(gd (Qal p.ops cut) k2).cart,(gd (Qal p.ops cut) k2).item,(gd (Qal p.ops cut) k2).qty,(gd (Qal p.ops cut) k2).kind,(gd (Qal p.ops cut) k2).dot,QcV (gd (Qal p.ops cut) k2)⟩:Cen) L6).map cec) 119 7]:=hs
   generalize (aOf (J1 89))=a38 at hJ hs
   generalize (cOf (J1 89))=c39 at hJ hs
   subst hJ
   refine Qab (Qaa (Qac (V:=I6 (k2:Int)) rfl (Qaa (QaD (a:=(k2:Int)) (b:=1) (c:=((k2+1:Nat):Int)) rfl rfl (Qak (by omega) (by omega)) (Qaa (Qad (V:=I6 ((k2+1:Nat):Int)) rfl (Qaf ?_)))))))
   have ho:=hs.sel [0,1,2,3,8,7] (L':=[blk b1 (((vc p.base.known)++[(.slice a1 p.base.ents.length c1:Value),(.slice a2 p.base.ticks.length c2:Value) ])++[(.slice a3 p.ops.length c3:Value) ]++(vc p.known)) 31,blk b3 (vc cut) 24,blk b5 ((vc vzero)++[(.slice none 0 0:Value),(.slice none 0 0:Value) ]) 28,row (.slice x10.1 ((Qal p.ops cut).length) x10.2) ((Qal p.ops cut).map oc) 98 23,row (.slice a38 ((QdN (⟨(gd (Qal p.ops cut) k2).cart,(gd (Qal p.ops cut) k2).item,(gd (Qal p.ops cut) k2).qty,(gd (Qal p.ops cut) k2).kind,(gd (Qal p.ops cut) k2).dot,QcV (gd (Qal p.ops cut) k2)⟩:Cen) L6).length) c39) ((QdN (⟨(gd (Qal p.ops cut) k2).cart,(gd (Qal p.ops cut) k2).item,(gd (Qal p.ops cut) k2).qty,(gd (Qal p.ops cut) k2).kind,(gd (Qal p.ops cut) k2).dot,QcV (gd (Qal p.ops cut) k2)⟩:Cen) L6).map cec) 119 7,row (.slice x29.1 ((Qdd ((gd (Qal p.ops cut) k2).cart) ((gd (Qal p.ops cut) k2).tick) T9).length) x29.2) ((Qdd ((gd (Qal p.ops cut) k2).cart) ((gd (Qal p.ops cut) k2).tick) T9).map lsc) 125 2]) (by decide) rfl
   replace hs:=ho
   refine ⟨_,?_,_,k2+1,a38,c39,QdN (⟨(gd (Qal p.ops cut) k2).cart,(gd (Qal p.ops cut) k2).item,(gd (Qal p.ops cut) k2).qty,(gd (Qal p.ops cut) k2).kind,(gd (Qal p.ops cut) k2).dot,QcV (gd (Qal p.ops cut) k2)⟩:Cen) L6,false,x29.1,x29.2,Qdd ((gd (Qal p.ops cut) k2).cart) ((gd (Qal p.ops cut) k2).tick) T9,Qai (Qai (Qai (Qao (ds:=([8,9,12,13]++sq 51 39)) (by repeat (first|exact Agr.refl _ _|refine Agr.upd ?_ rfl|refine Agr.mix ?_ rfl))) rfl) rfl) rfl,(by omega),(Qrt hL6 (by omega) c34 c34r),(QiC hT9 (by omega)),(fun h=>nomatch h),(by rw [Qh3];omega),rfl,hs.take 6⟩
   omega
  refine Qap (Qab (Qaa (Qac (V:=I6 (k2:Int)) rfl (Qaa (QaD (a:=(k2:Int)) (b:=1) (c:=((k2+1:Nat):Int)) rfl rfl (Qak (by omega) (by omega)) (Qaa (Qad (V:=I6 ((k2+1:Nat):Int)) rfl (Qaf ?_))))))))
  have ho:=hs.sel [0,1,2,3,4,7] (L':=[blk b1 (((vc p.base.known)++[(.slice a1 p.base.ents.length c1:Value),(.slice a2 p.base.ticks.length c2:Value) ])++[(.slice a3 p.ops.length c3:Value) ]++(vc p.known)) 31,blk b3 (vc cut) 24,blk b5 ((vc vzero)++[(.slice none 0 0:Value),(.slice none 0 0:Value) ]) 28,row (.slice x10.1 ((Qal p.ops cut).length) x10.2) ((Qal p.ops cut).map oc) 98 23,row (.slice a6 L6.length cb6) (L6.map cec) 119 7,row (.slice x29.1 ((Qdd ((gd (Qal p.ops cut) k2).cart) ((gd (Qal p.ops cut) k2).tick) T9).length) x29.2) ((Qdd ((gd (Qal p.ops cut) k2).cart) ((gd (Qal p.ops cut) k2).tick) T9).map lsc) 125 2]) (by decide) rfl
  replace hs:=ho
  refine ⟨_,?_,_,k2+1,a6,cb6,L6,false,x29.1,x29.2,Qdd ((gd (Qal p.ops cut) k2).cart) ((gd (Qal p.ops cut) k2).tick) T9,Qai (Qai (Qai (Qao (ds:=([8,9,12,13]++sq 51 39)) (by repeat (first|exact Agr.refl _ _|refine Agr.upd ?_ rfl|refine Agr.mix ?_ rfl))) rfl) rfl) rfl,(by omega),(Qol hL6 (by omega) c34),(QiC hT9 (by omega)),(fun h=>nomatch h),(by omega),rfl,hs.take 6⟩
  omega
 replace c25:=QQ2 c25
 refine QaF (Qag (Qab (Qaa (QaG (cs:=vc cut) QbA hs 1 rfl rfl rfl (Qaa (Qac (V:=.slice a6 L6.length cb6) rfl (Qaa (Qac (V:=.slice a9 T9.length cb9) rfl (Qaa (QcI (vs:=[(0,.agg (vc cut).toArray),(1,.slice a6 L6.length cb6),(2,.slice a9 T9.length cb9)]) (cs:=(vc cut)++[(.slice a6 L6.length cb6:Value),(.slice a9 T9.length cb9:Value) ]) [vc vzero,[(.slice none 0 0:Value)],[(.slice none 0 0:Value)]] [vc cut,[(.slice a6 L6.length cb6:Value)],[(.slice a9 T9.length cb9:Value)]] Qup rfl (rfl) rfl rfl (Qaa (QcK (V:=.agg ((vc cut)++[(.slice a6 L6.length cb6:Value),(.slice a9 T9.length cb9:Value) ]).toArray) (vs:=(vc cut)++[(.slice a6 L6.length cb6:Value),(.slice a9 T9.length cb9:Value) ]) (cs':=(vc cut)++[(.slice a6 L6.length cb6:Value),(.slice a9 T9.length cb9:Value) ]) Qd9.1 hs 2 rfl rfl rfl rfl rfl (QQ8 rfl) (QbT (QcB _) (Qav rfl (Qav rfl Qbk))) (QaB rfl) fun w40 hs=>(Qaa (Qad (V:=I6 0) rfl (Qaf (Qau ?_))))))))))))))))
 refine ⟨_,Qdy (cs:=(vc cut)++[(.slice a6 L6.length cb6:Value),(.slice a9 T9.length cb9:Value) ]) (V:=I6 0) Tryz.results14 Qd9 hs 2 rfl rfl rfl rfl,?_⟩
 have hmz:=c8
 have hX:=Qmj hmz (by omega) hL6 hT9
 rw [hX,hmz]
 have ho:=hs.two 4 5 (by decide) rfl rfl
 exact ⟨(((a6,cb6),(a9,cb9)),z),rfl,ho,hz9⟩
end Tt
end Go.Proofs
namespace Go.Proofs
open Go Go.Vx Go.RowKit
namespace Tt
theorem QeM (w:World) (va:Int) (la:List Line) (ao:Bool) (at_:Int) (aa:Option Addr) (ca:Nat) (vb:Int) (lb:List Line) (bo:Bool) (bt:Int) (ab:Option Addr) (cb:Nat) (last:Int) (hla:-1<=last) (hna:la.length<=100000) (hnb:lb.length<=100000) (hit:∀ x∈la++lb,0<=x.item/\x.item<65536) (hqa:Rd w (.slice aa la.length ca) 2 (la.map lc)) (hqb:Rd w (.slice ab lb.length cb) 2 (lb.map lc)):Calls Tryz.prog 107 #[.agg #[.int .u16 va,.slice aa la.length ca,.bool ao,.int .u32 at_],.agg #[.int .u16 vb,.slice ab lb.length cb,.bool bo,.int .u32 bt],.int .i64 last] w (fun e w'=>e = .returned (.int .i64 (Qbx last ((la++lb).map (·.item))))/\Own w no w' []):=by
 refine Qaj (n:=45) Tryz.func107 rfl Tryz.ntmps107 rfl ?_
 have hs:=Own.start w
 have hlab:(la++lb).length<=200000:=by rw [QQ7];omega
 refine Qag (Qab (Qaa (QaN (V:=.agg #[I7 va,.slice aa la.length ca,.bool ao,.int .u32 at_]) (cs:=[I7 va,.slice aa la.length ca,.bool ao,.int .u32 at_]) rfl rfl hs fun b1 w2 hs=>(Qaa (QaN (V:=.agg #[I7 vb,.slice ab lb.length cb,.bool bo,.int .u32 bt]) (cs:=[I7 vb,.slice ab lb.length cb,.bool bo,.int .u32 bt]) rfl rfl hs fun b3 w4 hs=>(Qaa (Qad (V:=I6 0) rfl (Qaf (Qag (Qab (Qaa (Qad (V:=I6 (-1)) rfl (Qaf (Qag (Qab (Qaa (QeQ (vals:=[]) (ls:=List.map lc ([]:List Line)) Qjw rfl rfl rfl (Qbe (enc:=lc) (fun _=>rfl) _) (QaJ QfB _) (QQ8 rfl) hs fun b5 w6 hs=>(Qaa (Qae QcS rfl (Qaa (QaE (V:=.slice aa la.length ca) QfL hs 0 rfl rfl rfl (Qaa (QbN (ls':=la.map lc) (n:=la.length) Qjw hs 2 rfl rfl rfl (Rd.own' hqa hs) (QaJ QfB _) (by simp only [QQ6,QQ7,List.length_cons,List.length_nil];omega) (by simp) (by simp) fun a7 c7 w8 hs=>?_)))))))))))))))))))))))
 replace hs:Own w no w8 [blk b1 [I7 va,.slice aa la.length ca,.bool ao,.int .u32 at_] 49,blk b3 [I7 vb,.slice ab lb.length cb,.bool bo,.int .u32 bt] 49,row (.slice a7 la.length c7) (la.map lc) 127 2]:=hs
 refine Qaa (Qad (V:=.slice a7 la.length c7) rfl (Qaf (Qag (Qab (Qaa (Qac (V:=.slice a7 la.length c7) rfl (Qaa (Qae QcS rfl (Qaa (QaE (V:=.slice ab lb.length cb) QfL hs 1 rfl rfl rfl (Qaa (QbN (ls':=(la++lb).map lc) (n:=(la++lb).length) Qjw hs 2 rfl rfl rfl (Rd.own' hqb hs) (QaJ QfB _) (by simp only [QQ6,QQ7,List.length_cons,List.length_nil];omega) (by simp) (by simp) fun a9 c9 w10 hs=>(Qaa (Qad (V:=.slice a9 ((la++lb).length) c9) rfl (Qaf (Qag (Qag (Qab (Qaa (Qad (V:=I6 0) rfl (Qaf (Qam (QaA (fun J μ J' w'=>∃ (Jo:Env) (k:Nat) (nx:Int),J'=upd (upd (mix ([7,9,10]++sq 19 25) Jo J) 9 (I6 (k:Int))) 7 (I6 nx)/\(k<=(la++lb).length)/\(nx=Qbx last (((la++lb).take k).map (·.item)))/\(-1<=nx/\nx<65536)/\μ=(la++lb).length-k/\Own w no w' [blk b1 [I7 va,.slice aa la.length ca,.bool ao,.int .u32 at_] 49,blk b3 [I7 vb,.slice ab lb.length cb,.bool bo,.int .u32 bt] 49,row (.slice a9 ((la++lb).length) c9) ((la++lb).map lc) 127 2]) ?_ ?_)))))))))))))))))))))))
 ·exact ⟨_,_,0,-1,Qai (Qai (Qao (ds:=([7,9,10]++sq 19 25)) (Agr.refl _ _)) rfl) rfl,(by omega),rfl,(by omega),rfl,hs⟩
 rintro μ J' w11 ⟨Jo,k,nx,rfl,hk,hmin,hnx,rfl,hs⟩
 refine Qag (Qag (Qab (Qaa (Qac (V:=I6 (k:Int)) rfl (Qaa (Qac (V:=.slice a9 ((la++lb).length) c9) rfl (Qaa (Qa2 (n:=(la++lb).length) Qdc (hs.rd 2 rfl) (by simp) rfl (Qaa (QaQ rfl rfl (Qaf (Qan (t:=decide ((k:Int)<(((la++lb).length:Nat):Int))) rfl (fun c12=>?_) (fun c12=>?_)))))))))))))
 ·
  replace c12:=QQ1 c12
  refine Qap (Qag (Qam (Qag ?_)))
  have ⟨hi1,hi2⟩:=hit _ (QbK (l:=la++lb) (i:=k) (by omega))
  refine Qab (Qaa (Qac (V:=.slice a9 ((la++lb).length) c9) rfl (Qaa (Qac (V:=I6 (k:Int)) rfl (Qaa (Qaw Qdc Qcs.1 (hs.rd 2 rfl) rfl rfl (by omega) (by rw [QQ6];omega) (Qaa (Qae Qc2 rfl (Qaa (QaR (j:=0) (V:=I7 ((gd (la++lb) k).item)) k Qar (hs.rd 2 rfl) (QaT (by omega)) rfl rfl (by omega) (Qaa (QbU QgQ Qg2 rfl (QbH (by omega) (by omega)) (Qaa (Qad (V:=I6 ((gd (la++lb) k).item)) rfl (Qaf (Qag (Qbj [some 31,some 32,some 33,some 34,some 35,some 36,some 37,some 38,some 39,some 40,some 41,some 42] [] [0,0,3,7,15,31,63,127,127,511,1023,2047] [pv (I6 ((gd (la++lb) k).item)),pv (I6 last),pv (.bool (decide (last<(gd (la++lb) k).item))),pv (.bool (decide (last<(gd (la++lb) k).item))),pg ((decide (last<(gd (la++lb) k).item)) == true) (I6 nx),pg ((decide (last<(gd (la++lb) k).item)) == true) (.bool (decide (nx<0))),pg ((decide (last<(gd (la++lb) k).item)) == true) (.bool (decide (nx<0))),pg (((decide (last<(gd (la++lb) k).item)) == true)&&((decide (nx<0)) == false)) (I6 ((gd (la++lb) k).item)),pg (((decide (last<(gd (la++lb) k).item)) == true)&&((decide (nx<0)) == false)) (I6 nx),pg (((decide (last<(gd (la++lb) k).item)) == true)&&((decide (nx<0)) == false)) (.bool (decide ((gd (la++lb) k).item<nx))),pg ((decide (last<(gd (la++lb) k).item)) == true) (.bool ((decide (nx<0))||(decide ((gd (la++lb) k).item<nx)))),pv (.bool ((decide (last<(gd (la++lb) k).item))&&((decide (nx<0))||(decide ((gd (la++lb) k).item<nx)))))] (fun _ _=>_) [11] (by kernel_rfl) hs ⟨?_,?_,?_,?_,?_,?_,?_,?_,?_,?_,?_,?_,trivial⟩ ?_)))))))))))))))))
  ·exact oa [] fun D J w hs=>Qac (V:=.int .i64 ((gd (la++lb) k).item)) rfl (Zz hs)
  ·exact oa [] fun D J w hs=>Qac (V:=.int .i64 last) rfl (Zz hs)
  ·exact oa [0,1] fun D J w hs=>QbY rfl rfl (Zz hs)
  ·exact oa [2] fun D J w hs=>Qac (V:=.bool (decide (last<(gd (la++lb) k).item))) rfl (Zz hs)
  ·exact og [3] fun D J w hG hs=>Qac (V:=.int .i64 nx) rfl (Zz hs)
  ·exact oy [3,4] [4] fun D J w hG hs=>QaQ rfl rfl (Zz hs)
  ·exact oy [3,5] [5] fun D J w hG hs=>Qac (V:=.bool (decide (nx<0))) rfl (Zz hs)
  ·exact og [6] fun D J w hG hs=>Qac (V:=.int .i64 ((gd (la++lb) k).item)) rfl (Zz hs)
  ·exact og [6] fun D J w hG hs=>Qac (V:=.int .i64 nx) rfl (Zz hs)
  ·exact oy [6,7,8] [7,8] fun D J w hG hs=>QaQ rfl rfl (Zz hs)
  ·exact oy [3,6,9] [6] fun D J w hG hs=>QtF (h':=decide ((gd (la++lb) k).item<nx)) (G:=((decide (last<(gd (la++lb) k).item)) == true)) hG rfl rfl rfl (Zz hs)
  ·exact oa [3,10] fun D J w hs=>Qa4 (h':=(decide (nx<0))||(decide ((gd (la++lb) k).item<nx))) rfl rfl rfl (Zz hs)
  rintro J1 w13 J2 hJ hs
  replace hJ:J2=upd (mix (sq 31 12) J1 _) 42 (.bool ((decide (last<(gd (la++lb) k).item))&&((decide (nx<0))||(decide ((gd (la++lb) k).item<nx))))):=hJ
  subst hJ
  refine Qan (t:=(decide (last<(gd (la++lb) k).item))&&((decide (nx<0))||(decide ((gd (la++lb) k).item<nx)))) rfl (fun c14=>?_) (fun c14=>?_)
  ·
   have c14r:=QbF c14
   replace c14:=QbD c14
   replace c14:=QQ1 c14
   refine Qab (Qaa (Qac (V:=I6 ((gd (la++lb) k).item)) rfl (Qaa (Qad (V:=I6 ((gd (la++lb) k).item)) rfl (Qaf (Qab (Qaa (Qac (V:=I6 (k:Int)) rfl (Qaa (QaD (a:=(k:Int)) (b:=1) (c:=((k+1:Nat):Int)) rfl rfl (Qak (by omega) (by omega)) (Qaa (Qad (V:=I6 ((k+1:Nat):Int)) rfl (Qaf ?_)))))))))))))
   refine ⟨_,?_,_,k+1,(gd (la++lb) k).item,Qai (Qai (Qao (ds:=([7,9,10]++sq 19 25)) (by repeat (first|exact Agr.refl _ _|refine Agr.upd ?_ rfl|refine Agr.mix ?_ rfl))) rfl) rfl,(by omega),(Qk5 (f:=fun x:Line=>x.item) hmin (by omega) c14 (by have:=c14r;simp at this;omega)),(by omega),rfl,hs.take 3⟩
   omega
  refine Qap (Qab (Qaa (Qac (V:=I6 (k:Int)) rfl (Qaa (QaD (a:=(k:Int)) (b:=1) (c:=((k+1:Nat):Int)) rfl rfl (Qak (by omega) (by omega)) (Qaa (Qad (V:=I6 ((k+1:Nat):Int)) rfl (Qaf ?_))))))))
  refine ⟨_,?_,_,k+1,nx,Qai (Qai (Qao (ds:=([7,9,10]++sq 19 25)) (by repeat (first|exact Agr.refl _ _|refine Agr.upd ?_ rfl|refine Agr.mix ?_ rfl))) rfl) rfl,(by omega),(Qnv (f:=fun x:Line=>x.item) hmin (by omega) (by intro ⟨h1,h2⟩;have:=c14;simp [h1,h2] at this;omega)),(by omega),rfl,hs.take 3⟩
  omega
 replace c12:=QQ2 c12
 refine QaF (Qag (Qab (Qaa (Qac (V:=I6 nx) rfl (Qaa (Qad (V:=I6 nx) rfl (Qaf (Qau ?_))))))))
 refine ⟨_,Qaq (V:=I6 nx) Tryz.results107 rfl,(Zr hs ?_)⟩
 rw [hmin,Qb6 (by omega)]
theorem Qml (w:World) (va:Int) (la:List Line) (ao:Bool) (at_:Int) (aa:Option Addr) (ca:Nat)  (n:Int) (hit:∀ x∈la,0<=x.item/\x.item<65536) (hqa:Rd w (.slice aa la.length ca) 2 (la.map lc)):Calls Tryz.prog 108 #[.agg #[.int .u16 va,.slice aa la.length ca,.bool ao,.int .u32 at_],.int .i64 n] w (fun e w'=>e = .returned (.int .u32 (qL la n))/\Own w no w' []):=by
 refine Qaj (n:=28) Tryz.func108 rfl Tryz.ntmps108 rfl ?_
 have hs:=Own.start w
 have hn1:=hqa.sml
 refine Qag (Qab (Qaa (QaN (V:=.agg #[I7 va,.slice aa la.length ca,.bool ao,.int .u32 at_]) (cs:=[I7 va,.slice aa la.length ca,.bool ao,.int .u32 at_]) rfl rfl hs fun b1 w2 hs=>(Qaa (Qad (V:=.int .u32 0) rfl (Qaf (Qag (Qag (Qab (Qaa (Qad (V:=I6 0) rfl (Qaf (Qam (QaA (fun J μ J' w'=>∃ (Jo:Env) (k:Nat),J'=upd (mix (sq 4 24) Jo J) 5 (I6 (k:Int))/\(k<=la.length)/\(∀ j:Nat,j<k->decide ((gd la j).item=n)=false)/\μ=la.length-k/\Own w no w' [blk b1 [I7 va,.slice aa la.length ca,.bool ao,.int .u32 at_] 49]) ?_ ?_))))))))))))))
 ·exact ⟨_,_,0,Qai (Qao (ds:=(sq 4 24)) (Agr.refl _ _)) rfl,(by omega),(fun j hj=>absurd hj (Nat.not_lt_zero j)),rfl,hs⟩
 rintro μ J' w3 ⟨Jo,k,rfl,hk,hno,rfl,hs⟩
 refine Qag (Qag (Qab (Qaa (Qac (V:=I6 (k:Int)) rfl (Qaa (Qae QcS rfl (Qaa (QaE (V:=.slice aa la.length ca) QfL hs 0 rfl rfl rfl (Qaa (Qa2 (n:=la.length) Qdc (Rd.own' hqa hs) (by simp) rfl (Qaa (QaQ rfl rfl (Qaf (Qan (t:=decide ((k:Int)<((la.length:Nat):Int))) rfl (fun c4=>?_) (fun c4=>?_)))))))))))))))
 ·
  replace c4:=QQ1 c4
  refine Qap (Qag (Qam (Qag ?_)))
  have ⟨hi1,hi2⟩:=hit _ (QbK (l:=la) (i:=k) (by omega))
  refine Qab (Qaa (Qae QcS rfl (Qaa (QaE (V:=.slice aa la.length ca) QfL hs 0 rfl rfl rfl (Qaa (Qac (V:=I6 (k:Int)) rfl (Qaa (Qaw Qdc Qcs.1 (Rd.own' hqa hs) rfl rfl (by omega) (by rw [QQ6];omega) (Qaa (Qae Qc2 rfl (Qaa (QaR (j:=0) (V:=I7 ((gd la k).item)) k Qar (Rd.own' hqa hs) (QaT (by omega)) rfl rfl (by omega) (Qaa (QbU QgQ Qg2 rfl (QbH (by omega) (by omega)) (Qaa (Qac (V:=I6 n) rfl (Qaa (QaS rfl rfl (Qaf (Qan (t:=decide ((gd la k).item=n)) rfl (fun c5=>?_) (fun c5=>?_)))))))))))))))))))))
  ·
   replace c5:=QQ1 c5
   refine Qag (Qab (Qaa (Qae QcS rfl (Qaa (QaE (V:=.slice aa la.length ca) QfL hs 0 rfl rfl rfl (Qaa (Qac (V:=I6 (k:Int)) rfl (Qaa (Qaw Qdc Qcs.1 (Rd.own' hqa hs) rfl rfl (by omega) (by rw [QQ6];omega) (Qaa (Qae Qe4 rfl (Qaa (QaR (j:=1) (V:=.int .u32 ((gd la k).qty)) k Qa6 (Rd.own' hqa hs) (QaT (by omega)) rfl rfl (by omega) (Qaa (Qad (V:=.int .u32 ((gd la k).qty)) rfl (Qaf (Qau ?_)))))))))))))))))
   refine ⟨_,Qaq (V:=.int .u32 ((gd la k).qty)) Tryz.results108 rfl,(Zr hs ?_)⟩
   rw [QoE hno (by omega) c5]
  replace c5:=QQ2 c5
  refine Qap (Qab (Qaa (Qac (V:=I6 (k:Int)) rfl (Qaa (QaD (a:=(k:Int)) (b:=1) (c:=((k+1:Nat):Int)) rfl rfl (Qak (by omega) (by omega)) (Qaa (Qad (V:=I6 ((k+1:Nat):Int)) rfl (Qaf ?_))))))))
  refine ⟨_,?_,_,k+1,Qai (Qao (ds:=(sq 4 24)) (by repeat (first|exact Agr.refl _ _|refine Agr.upd ?_ rfl|refine Agr.mix ?_ rfl))) rfl,(by omega),(Qb8 hno (QQ4 c5)),rfl,hs.take 1⟩
  omega
 replace c4:=QQ2 c4
 refine QaF (Qag (Qab (Qaa (Qad (V:=.int .u32 0) rfl (Qaf (Qau ?_))))))
 refine ⟨_,Qaq (V:=.int .u32 0) Tryz.results108 rfl,(Zr hs ?_)⟩
 rw [QuZ fun j hj=>hno j (by omega)]
theorem QkD (w:World) (va:Int) (ao:Bool) (at_:Int) (v1:Value) :Calls Tryz.prog 109 #[.agg #[.int .u16 va,v1,.bool ao,.int .u32 at_]] w (fun e w'=>e = .returned (.int .u32 (QbW ao))/\Own w no w' []):=by
 refine Qaj (n:=5) Tryz.func109 rfl Tryz.ntmps109 rfl ?_
 have hs:=Own.start w
 refine Qag (Qab (Qaa (QaN (V:=.agg #[I7 va,v1,.bool ao,.int .u32 at_]) (cs:=[I7 va,v1,.bool ao,.int .u32 at_]) rfl rfl hs fun b1 w2 hs=>(Qaa (Qad (V:=.int .u32 0) rfl (Qaf (Qag (Qag (Qab (Qaa (Qae Qdb rfl (Qaa (QaE (V:=.bool ao) Qmh hs 0 rfl rfl rfl (Qaf (Qan (t:=ao) rfl (fun c3=>?_) (fun c3=>?_))))))))))))))))
 ·
  refine Qag (Qab (Qaa (Qad (V:=.int .u32 1) rfl (Qaf (Qau ?_)))))
  refine ⟨_,Qaq (V:=.int .u32 1) Tryz.results109 rfl,(Zr hs ?_)⟩
  simp_all [QbW]
 refine Qap (Qag (Qab (Qaa (Qad (V:=.int .u32 0) rfl (Qaf (Qau ?_))))))
 refine ⟨_,Qaq (V:=.int .u32 0) Tryz.results109 rfl,(Zr hs ?_)⟩
 simp_all [QbW]
end Tt
end Go.Proofs
namespace Go.Proofs
open Go Go.Vx Go.RowKit
namespace Tt
theorem QkX (w:World) (va:Int) (la:List Line) (ao:Bool) (at_:Int) (aa:Option Addr) (ca:Nat) (vb:Int) (lb:List Line) (bo:Bool) (bt:Int) (ab:Option Addr) (cb:Nat) (hna:la.length<=100000) (hnb:lb.length<=100000) (hit:∀ x∈la++lb,0<=x.item/\x.item<65536) (hqa:Rd w (.slice aa la.length ca) 2 (la.map lc)) (hqb:Rd w (.slice ab lb.length cb) 2 (lb.map lc)):Calls Tryz.prog 66 #[.agg #[.int .u16 va,.slice aa la.length ca,.bool ao,.int .u32 at_],.agg #[.int .u16 vb,.slice ab lb.length cb,.bool bo,.int .u32 bt]] w (fun e w'=>∃ x:Option Addr × Nat,e = .returned (.slice x.1 (Qde (⟨va,la,ao,at_⟩:Vw) (⟨vb,lb,bo,bt⟩:Vw)).length x.2)/\Own w no w' [row (.slice x.1 (Qde (⟨va,la,ao,at_⟩:Vw) (⟨vb,lb,bo,bt⟩:Vw)).length x.2) ((Qde (⟨va,la,ao,at_⟩:Vw) (⟨vb,lb,bo,bt⟩:Vw)).map dfc) 132 5]/\True):=by
 refine Qaj (n:=53) Tryz.func66 rfl Tryz.ntmps66 rfl ?_
 have hs:=Own.start w
 have hita:∀ x∈la,0<=x.item/\x.item<65536:=fun x hx=>hit x (List.mem_append_left _ hx)
 have hitb:∀ x∈lb,0<=x.item/\x.item<65536:=fun x hx=>hit x (List.mem_append_right _ hx)
 refine Qag (Qab (Qaa (QaN (V:=.agg #[I7 va,.slice aa la.length ca,.bool ao,.int .u32 at_]) (cs:=[I7 va,.slice aa la.length ca,.bool ao,.int .u32 at_]) rfl rfl hs fun b1 w2 hs=>(Qaa (QaN (V:=.agg #[I7 vb,.slice ab lb.length cb,.bool bo,.int .u32 bt]) (cs:=[I7 vb,.slice ab lb.length cb,.bool bo,.int .u32 bt]) rfl rfl hs fun b3 w4 hs=>(Qaa (Qad (V:=.slice none 0 0) rfl (Qaf (Qag (Qab (Qaa (Qad (V:=.slice none 0 0) rfl (Qaf (Qag (Qag (Qab (Qaa (QaG (cs:=[I7 va,.slice aa la.length ca,.bool ao,.int .u32 at_]) Qcn hs 0 rfl rfl rfl (Qaa (QaG (cs:=[I7 vb,.slice ab lb.length cb,.bool bo,.int .u32 bt]) Qcn hs 1 rfl rfl rfl (Qaa (Qat (vs:=[.agg #[I7 va,.slice aa la.length ca,.bool ao,.int .u32 at_],.agg #[I7 vb,.slice ab lb.length cb,.bool bo,.int .u32 bt],I6 (-1)]) (V:=I6 (Qbx (-1) ((la++lb).map (·.item)))) QlM rfl rfl ?hc hs fun w5 hs=>?_))))))))))))))))))))))
 case hc=>exact (QeM _ va la ao at_ aa ca vb lb bo bt ab cb (-1) (by omega) hna hnb hit (Rd.own' hqa hs) (Rd.own' hqb hs))
 refine Qaa (Qad (V:=I6 (Qbx (-1) ((la++lb).map (·.item)))) rfl (Qaf (Qam ?_)))
 replace hs:=hs.more (row (.slice none 0 0) (List.map dfc []) 132 5) (Qbg _ _ _ _)
 have hb0:=Qj9 hit (-1) (by omega)
 refine QaA (fun J μ J' w'=>∃ (Jo:Env) (last:Int) (nx:Int) (I:List Int) (an6:Option Addr) (cn6:Nat) (out:List Dif),J'=upd (upd (mix ([5,6,7,8]++sq 12 25) Jo J) 6 (I6 nx)) 5 (.slice an6 out.length cn6)/\(-1<=last/\last<65536)/\(nx=Qbx last ((la++lb).map (·.item)))/\(((out.length:Nat):Int)<=last+1)/\(UpTo ((la++lb).map (·.item)) last I)/\(out=I.flatMap (QgP vb la lb))/\μ=(65536-last).toNat/\Own w no w' [blk b1 [I7 va,.slice aa la.length ca,.bool ao,.int .u32 at_] 49,blk b3 [I7 vb,.slice ab lb.length cb,.bool bo,.int .u32 bt] 49,row (.slice an6 out.length cn6) (out.map dfc) 132 5]) ?_ ?_
 ·exact ⟨_,_,-1,Qbx (-1) ((la++lb).map (·.item)),[],none,0,[],Qai (Qai (Qao (ds:=([5,6,7,8]++sq 12 25)) (Agr.refl _ _)) rfl) rfl,(by omega),rfl,(by simp),(Qko fun c hc=>by obtain ⟨x,hx,rfl⟩:=List.mem_map.1 hc;exact (hit x hx).1),rfl,rfl,hs⟩
 rintro μ J' w6 ⟨Jo,last,nx,I,an6,cn6,out,rfl,hla,hnx,hll,hup,hout,rfl,hs⟩
 have hib:=Qj9 hit last hla.1
 rw [← hnx] at hib
 refine Qag (Qag (Qab (Qaa (Qac (V:=I6 nx) rfl (Qaa (Qcz rfl rfl (Qaf (Qan (t:=decide (0<=nx)) rfl (fun c7=>?_) (fun c7=>?_)))))))))
 ·
  replace c7:=QQ1 c7
  refine Qap (Qag (Qam (Qag (QaI HM [some 18,some 19,some 20,some 21,some 22,some 23,some 7,some 8] [] [0,0,3,0,0,31,63,127] [pv (.agg #[I7 va,.slice aa la.length ca,.bool ao,.int .u32 at_]),pv (I6 nx),pv (.int .u32 (qL la nx)),pv (.agg #[I7 vb,.slice ab lb.length cb,.bool bo,.int .u32 bt]),pv (I6 nx),pv (.int .u32 (qL lb nx)),pv (.int .u32 (qL la nx)),pv (.int .u32 (qL lb nx))] (fun _ _=>_) [7,6] (by kernel_rfl) hs ⟨?_,?_,?_,?_,?_,?_,?_,?_,trivial⟩ ?_))))
  ·exact oa [] fun D J w hs=>QaG (cs:=[.int .u16 va,.slice aa la.length ca,.bool ao,.int .u32 at_]) Qcn hs 0 rfl rfl rfl (Zz hs)
  ·exact oa [] fun D J w hs=>Qac (V:=.int .i64 nx) rfl (Zz hs)
  ·exact oa [0,1] fun D J w hs=>Qat (vs:=[.agg #[.int .u16 va,.slice aa la.length ca,.bool ao,.int .u32 at_],.int .i64 nx]) (V:=.int .u32 (qL la nx)) Qqb rfl rfl (Qml _ va la ao at_ aa ca nx hita (Rd.own' hqa hs)) hs fun _ hs=>Zz hs
  ·exact oa [] fun D J w hs=>QaG (cs:=[.int .u16 vb,.slice ab lb.length cb,.bool bo,.int .u32 bt]) Qcn hs 1 rfl rfl rfl (Zz hs)
  ·exact oa [] fun D J w hs=>Qac (V:=.int .i64 nx) rfl (Zz hs)
  ·exact oa [3,4] fun D J w hs=>Qat (vs:=[.agg #[.int .u16 vb,.slice ab lb.length cb,.bool bo,.int .u32 bt],.int .i64 nx]) (V:=.int .u32 (qL lb nx)) Qqb rfl rfl (Qml _ vb lb bo bt ab cb nx hitb (Rd.own' hqb hs)) hs fun _ hs=>Zz hs
  ·exact oa [2] fun D J w hs=>Qad (V:=.int .u32 (qL la nx)) rfl (Zz hs)
  ·exact oa [5] fun D J w hs=>Qad (V:=.int .u32 (qL lb nx)) rfl (Zz hs)
  rintro J1 w10 J2 hJ hs
  replace hJ:J2=upd (upd (mix (sq 18 6++[7,8]) J1 _) 7 (.int .u32 (qL la nx))) 8 (.int .u32 (qL lb nx)):=hJ
  subst hJ
  refine Qag (Qab (Qaa (Qac (V:=.int .u32 (qL la nx)) rfl (Qaa (Qac (V:=.int .u32 (qL lb nx)) rfl (Qaa (Qch rfl rfl (Qaf (Qan (t:=!decide (qL la nx=qL lb nx)) rfl (fun c11=>?_) (fun c11=>?_))))))))))
  ·
   replace c11:=Qbn c11
   replace c11:=QQ2 c11
   refine Qab (Qaa (Qac (V:=.slice an6 out.length cn6) rfl (Qaa (Qae QhQ rfl (Qaa (QaE (V:=I7 vb) Qar hs 1 rfl rfl rfl (Qaa (Qac (V:=I6 nx) rfl (Qaa (QbU Qg2 QgQ rfl (QqA (by omega) (by omega)) (Qaa (Qac (V:=.int .u32 (qL la nx)) rfl (Qaa (Qac (V:=.int .u32 (qL lb nx)) rfl (Qaa (Qbw (vs:=[(0,I7 vb),(1,I7 nx),(3,.int .u32 (qL la nx)),(4,.int .u32 (qL lb nx))]) (cs:=dfc (⟨vb,nx,false,qL la nx,qL lb nx⟩:Dif)) Qqz (rfl) rfl (Qaa (QeQ (vals:=[.agg (dfc (⟨vb,nx,false,qL la nx,qL lb nx⟩:Dif)).toArray]) (ls:=List.map dfc ([(⟨vb,nx,false,qL la nx,qL lb nx⟩:Dif)]:List Dif)) Ql7 rfl rfl rfl (Qbe (enc:=dfc) (fun _=>rfl) _) (QaJ QdJ _) (QQ8 rfl) hs fun b12 w13 hs=>(Qaa (QbN (ls':=(out++[(⟨vb,nx,false,qL la nx,qL lb nx⟩:Dif)]).map dfc) (n:=(out++[(⟨vb,nx,false,qL la nx,qL lb nx⟩:Dif)]).length) Ql7 hs 2 rfl rfl rfl (hs.rd 3 rfl) (QaJ QdJ _) (by simp only [QQ6,QQ7,List.length_cons,List.length_nil];omega) (by simp) (by simp) fun a14 c14 w15 hs=>?_))))))))))))))))))))
   replace hs:Own w no w15 [blk b1 [I7 va,.slice aa la.length ca,.bool ao,.int .u32 at_] 49,blk b3 [I7 vb,.slice ab lb.length cb,.bool bo,.int .u32 bt] 49,row (.slice a14 ((out++[(⟨vb,nx,false,qL la nx,qL lb nx⟩:Dif)]).length) c14) ((out++[(⟨vb,nx,false,qL la nx,qL lb nx⟩:Dif)]).map dfc) 132 5,row (.slice (some ⟨b12,0,none⟩) 1 1) ([(⟨vb,nx,false,qL la nx,qL lb nx⟩:Dif)].map dfc) 132 5]:=hs
   refine Qaa (Qad (V:=.slice a14 ((out++[(⟨vb,nx,false,qL la nx,qL lb nx⟩:Dif)]).length) c14) rfl (Qaf ?_))
   have ⟨hup2,hgt2⟩:=Qky hit hup hla.1 hnx c7
   have hib2:=Qj9 hit nx (by omega)
   refine Qab (Qaa (QaG (cs:=[I7 va,.slice aa la.length ca,.bool ao,.int .u32 at_]) Qcn hs 0 rfl rfl rfl (Qaa (QaG (cs:=[I7 vb,.slice ab lb.length cb,.bool bo,.int .u32 bt]) Qcn hs 1 rfl rfl rfl (Qaa (Qac (V:=I6 nx) rfl (Qaa (Qat (vs:=[.agg #[I7 va,.slice aa la.length ca,.bool ao,.int .u32 at_],.agg #[I7 vb,.slice ab lb.length cb,.bool bo,.int .u32 bt],I6 nx]) (V:=I6 (Qbx nx ((la++lb).map (·.item)))) QlM rfl rfl ?hc hs fun w16 hs=>?_))))))))
   case hc=>exact (QeM _ va la ao at_ aa ca vb lb bo bt ab cb nx (by omega) hna hnb hit (Rd.own' hqa hs) (Rd.own' hqb hs))
   refine Qaa (Qad (V:=I6 (Qbx nx ((la++lb).map (·.item)))) rfl (Qaf ?_))
   refine ⟨_,?_,_,nx,Qbx nx ((la++lb).map (·.item)),I++[nx],a14,c14,out++[(⟨vb,nx,false,qL la nx,qL lb nx⟩:Dif)],Qai (Qai (Qao (ds:=([5,6,7,8]++sq 12 25)) (by repeat (first|exact Agr.refl _ _|refine Agr.upd ?_ rfl|refine Agr.mix ?_ rfl))) rfl) rfl,(by omega),rfl,(by simp only [QQ7,List.length_singleton];omega),hup2,(QpE hout c11),rfl,hs.take 3⟩
   omega
  replace c11:=Qbf c11
  replace c11:=QQ1 c11
  refine Qap ?_
  have ⟨hup2,hgt2⟩:=Qky hit hup hla.1 hnx c7
  have hib2:=Qj9 hit nx (by omega)
  refine Qab (Qaa (QaG (cs:=[I7 va,.slice aa la.length ca,.bool ao,.int .u32 at_]) Qcn hs 0 rfl rfl rfl (Qaa (QaG (cs:=[I7 vb,.slice ab lb.length cb,.bool bo,.int .u32 bt]) Qcn hs 1 rfl rfl rfl (Qaa (Qac (V:=I6 nx) rfl (Qaa (Qat (vs:=[.agg #[I7 va,.slice aa la.length ca,.bool ao,.int .u32 at_],.agg #[I7 vb,.slice ab lb.length cb,.bool bo,.int .u32 bt],I6 nx]) (V:=I6 (Qbx nx ((la++lb).map (·.item)))) QlM rfl rfl ?hc hs fun w17 hs=>?_))))))))
  case hc=>exact (QeM _ va la ao at_ aa ca vb lb bo bt ab cb nx (by omega) hna hnb hit (Rd.own' hqa hs) (Rd.own' hqb hs))
  refine Qaa (Qad (V:=I6 (Qbx nx ((la++lb).map (·.item)))) rfl (Qaf ?_))
  refine ⟨_,?_,_,nx,Qbx nx ((la++lb).map (·.item)),I++[nx],an6,cn6,out,Qai (Qai (Qao (ds:=([5,6,7,8]++sq 12 25)) (by repeat (first|exact Agr.refl _ _|refine Agr.upd ?_ rfl|refine Agr.mix ?_ rfl))) rfl) rfl,(by omega),rfl,(by omega),hup2,(Qsc hout c11),rfl,hs.take 3⟩
  omega
 replace c7:=QQ2 c7
 refine QaF (Qag (Qag (Qab (Qaa (Qae Qdb rfl (Qaa (QaE (V:=.bool ao) Qmh hs 0 rfl rfl rfl (Qaa (Qae Qdb rfl (Qaa (QaE (V:=.bool bo) Qmh hs 1 rfl rfl rfl (Qaa (Qud Qtm rfl rfl (Qaf (Qan (t:=!(ao == bo)) rfl (fun c18=>?_) (fun c18=>?_))))))))))))))))
 ·
  replace c18:=Qbn c18
  replace hs:=hs.more emp trivial
  refine QaI HM [some 42,some 43,some 44,some 45,some 46,some 47,some 48,some 49,some 50,some 51,some 5] [[],[],[],[],[],[],[],[],[50],[51],[51]] [0,0,2,0,8,0,56,126,254,511,1023] [pv (.slice an6 out.length cn6),pv (Pq b3 (0+0)),pv (I7 vb),pv (.agg #[I7 va,.slice aa la.length ca,.bool ao,.int .u32 at_]),pv (.int .u32 (QbW ao)),pv (.agg #[I7 vb,.slice ab lb.length cb,.bool bo,.int .u32 bt]),pv (.int .u32 (QbW bo)),pv (.agg (dfc (⟨vb,0,true,QbW ao,QbW bo⟩:Dif)).toArray),(true,fun J=>.slice (some ⟨(bOf (J 50)),0,none⟩) 1 1),(true,fun J=>.slice (aOf (J 51)) ((out++[(⟨vb,0,true,QbW ao,QbW bo⟩:Dif)]).length) (cOf (J 51))),(true,fun J=>.slice (aOf (J 51)) ((out++[(⟨vb,0,true,QbW ao,QbW bo⟩:Dif)]).length) (cOf (J 51)))] (fun D J=>[blk b1 [I7 va,.slice aa la.length ca,.bool ao,.int .u32 at_] 49,blk b3 [I7 vb,.slice ab lb.length cb,.bool bo,.int .u32 bt] 49,cond (D 9) (row (.slice (aOf (J 51)) ((out++[(⟨vb,0,true,QbW ao,QbW bo⟩:Dif)]).length) (cOf (J 51))) ((out++[(⟨vb,0,true,QbW ao,QbW bo⟩:Dif)]).map dfc) 132 5) (row (.slice an6 out.length cn6) (out.map dfc) 132 5),cond (D 8) (row (.slice (some ⟨(bOf (J 50)),0,none⟩) 1 1) ([(⟨vb,0,true,QbW ao,QbW bo⟩:Dif)].map dfc) 132 5) (emp)]) [10] (by kernel_rfl) hs ⟨?_,?_,?_,?_,?_,?_,?_,?_,?_,?_,?_,trivial⟩ ?_
  ·exact ob [] [10] rfl rfl fun D J w hs=>Qac (V:=.slice an6 out.length cn6) rfl (Zz hs)
  ·exact oa [] fun D J w hs=>Qae QhQ rfl (Zz hs)
  ·exact oa [1] fun D J w hs=>QaE (V:=.int .u16 vb) Qar hs 1 rfl rfl rfl (Zz hs)
  ·exact oa [] fun D J w hs=>QaG (cs:=[.int .u16 va,.slice aa la.length ca,.bool ao,.int .u32 at_]) Qcn hs 0 rfl rfl rfl (Zz hs)
  ·exact oa [3] fun D J w hs=>Qat (vs:=[.agg #[.int .u16 va,.slice aa la.length ca,.bool ao,.int .u32 at_]]) (V:=.int .u32 (QbW ao)) QpX rfl rfl (QkD _ va ao at_ (.slice aa la.length ca)) hs fun _ hs=>Zz hs
  ·exact oa [] fun D J w hs=>QaG (cs:=[.int .u16 vb,.slice ab lb.length cb,.bool bo,.int .u32 bt]) Qcn hs 1 rfl rfl rfl (Zz hs)
  ·exact oa [5] fun D J w hs=>Qat (vs:=[.agg #[.int .u16 vb,.slice ab lb.length cb,.bool bo,.int .u32 bt]]) (V:=.int .u32 (QbW bo)) QpX rfl rfl (QkD _ vb bo bt (.slice ab lb.length cb)) hs fun _ hs=>Zz hs
  ·exact oa [2,4,6] fun D J w hs=>Qbw (vs:=[(0,.int .u16 vb),(2,.bool true),(3,.int .u32 (QbW ao)),(4,.int .u32 (QbW bo))]) (cs:=dfc (⟨vb,0,true,QbW ao,QbW bo⟩:Dif)) Qqz (rfl) rfl (Zz hs)
  ·exact oa [7] fun D J w hs=>QeQ (vals:=[.agg (dfc (⟨vb,0,true,QbW ao,QbW bo⟩:Dif)).toArray]) (ls:=List.map dfc ([(⟨vb,0,true,QbW ao,QbW bo⟩:Dif)]:List Dif)) Ql7 rfl rfl rfl (Qbe (enc:=dfc) (fun _=>rfl) _) (QaJ QdJ _) (QQ8 rfl) hs fun _ _ hs=>⟨rfl,hs.put 3 (QQ8 rfl)⟩
  ·exact oa [0,8] fun D J w hs=>QbN (ls':=(out++[(⟨vb,0,true,QbW ao,QbW bo⟩:Dif)]).map dfc) (n:=(out++[(⟨vb,0,true,QbW ao,QbW bo⟩:Dif)]).length) Ql7 hs 2 rfl rfl rfl (hs.rd 3 rfl) (QaJ QdJ _) (by simp only [QQ6,QQ7,List.length_cons,List.length_nil];omega) (by simp) (by simp) fun _ _ _ hs=>⟨rfl,hs⟩
  ·exact oa [9] fun D J w hs=>Qad (V:=.slice (aOf (J 51)) ((out++[(⟨vb,0,true,QbW ao,QbW bo⟩:Dif)]).length) (cOf (J 51))) rfl (Zz hs)
  rintro J1 w23 J2 hJ hs
  replace hJ:J2=upd (mix (sq 42 10++[5]) J1 _) 5 (.slice (aOf (J1 51)) ((out++[(⟨vb,0,true,QbW ao,QbW bo⟩:Dif)]).length) (cOf (J1 51))):=hJ
  replace hs:Own w no w23 [blk b1 [I7 va,.slice aa la.length ca,.bool ao,.int .u32 at_] 49,blk b3 [I7 vb,.slice ab lb.length cb,.bool bo,.int .u32 bt] 49,row (.slice (aOf (J1 51)) ((out++[(⟨vb,0,true,QbW ao,QbW bo⟩:Dif)]).length) (cOf (J1 51))) ((out++[(⟨vb,0,true,QbW ao,QbW bo⟩:Dif)]).map dfc) 132 5,row (.slice (some ⟨(bOf (J1 50)),0,none⟩) 1 1) ([(⟨vb,0,true,QbW ao,QbW bo⟩:Dif)].map dfc) 132 5]:=hs
  generalize (bOf (J1 50))=b24 at hs
  generalize (aOf (J1 51))=a25 at hJ hs
  generalize (cOf (J1 51))=c26 at hJ hs
  subst hJ
  refine Qag (Qab (Qaa (Qac (V:=.slice a25 ((out++[(⟨vb,0,true,QbW ao,QbW bo⟩:Dif)]).length) c26) rfl (Qaa (Qad (V:=.slice a25 ((out++[(⟨vb,0,true,QbW ao,QbW bo⟩:Dif)]).length) c26) rfl (Qaf (Qau ?_)))))))
  refine ⟨_,Qaq (V:=.slice a25 ((out++[(⟨vb,0,true,QbW ao,QbW bo⟩:Dif)]).length) c26) Tryz.results66 rfl,?_⟩
  have hof:=QiZ hit hup hla.1 hnx c7 hout
  have hX:out++[(⟨vb,0,true,QbW ao,QbW bo⟩:Dif)]=Qde (⟨va,la,ao,at_⟩:Vw) (⟨vb,lb,bo,bt⟩:Vw):=by
   have h9:=Qir (L:=[]) (va:=va) (at_:=at_) (bt:=bt) (ao:=ao) (bo:=bo) hof (fun e=>by subst e;simp at c18)
   rw [List.nil_append] at h9;exact h9
  have hlx:(out++[(⟨vb,0,true,QbW ao,QbW bo⟩:Dif)]).length=(Qde (⟨va,la,ao,at_⟩:Vw) (⟨vb,lb,bo,bt⟩:Vw)).length:=by rw [hX]
  rw [hX] at hs
  exact ⟨(a25,c26),by rw [← hX],hs.only 2 rfl,trivial⟩
 replace c18:=Qbf c18
 refine Qap (Qag (Qab (Qaa (Qac (V:=.slice an6 out.length cn6) rfl (Qaa (Qad (V:=.slice an6 out.length cn6) rfl (Qaf (Qau ?_))))))))
 refine ⟨_,Qaq (V:=.slice an6 out.length cn6) Tryz.results66 rfl,?_⟩
 have hof:=QiZ hit hup hla.1 hnx c7 hout
 have hX:out=Qde (⟨va,la,ao,at_⟩:Vw) (⟨vb,lb,bo,bt⟩:Vw):=by
  have h9:=Qiv (L:=[]) (va:=va) (at_:=at_) (bt:=bt) (ao:=ao) (bo:=bo) hof (eq_of_beq c18)
  rw [List.nil_append] at h9;exact h9
 have hlx:(out).length=(Qde (⟨va,la,ao,at_⟩:Vw) (⟨vb,lb,bo,bt⟩:Vw)).length:=by rw [hX]
 rw [hX] at hs
 exact ⟨(an6,cn6),by rw [← hX],hs.only 2 rfl,trivial⟩
end Tt
end Go.Proofs
