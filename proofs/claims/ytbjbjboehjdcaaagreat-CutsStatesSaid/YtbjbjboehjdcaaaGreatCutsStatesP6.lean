/- A part of a proof: what functions of the program compute, and plain facts on that. -/
import Derived.Test.YtbjbjboehjdcaaaGreatCutsStatesP5
set_option linter.unusedVariables false
set_option linter.unusedSimpArgs false
set_option maxHeartbeats 4000000
set_option maxRecDepth 100000
namespace Go.Proofs
open Go Go.Vx Go.RowKit
namespace Tt
theorem Qte (w:World) (S:Nat->Prop) (a:Option Addr) (N c:Nat) (l:List Cen) (hz:l.length=N) (hN:N<=1152921504606846975) (g:Nat) (hg:En Tryz.prog g) (cf:Cen->Cen->Int) (hc:CmpO cf) (hcmp:∀ (w:World) (x y:Cen),Calls Tryz.prog g #[.agg (cec x).toArray,.agg (cec y).toArray] w (fun e w'=>e = .returned (.int .i64 (cf x y))/\Own w no w' [])) (hR:(row (.slice a N c) (l.map cec) 106 7).holds w S) (hlt:∀ b,S b->b<w.heap.size):Calls Tryz.prog 126 #[.slice a N c,.int .i64 (N:Int),.func (.func g) #[] #[]] w (fun e w'=>∃ x:List Cen,e = .returned (.tuple #[])/\Own w S w' [row (.slice a N c) (x.map cec) 106 7]/\(x.length=N/\x.Perm l/\Qle cf x)):=by
 refine Qaj (n:=63) Tryz.func126 rfl Tryz.ntmps126 rfl ?_
 have hN0:=hN
 replace hN:N<=2305843009213693951:=by omega
 have hs:=Own.lent hR hlt
 refine Qag (Qab (Qaa (Qad (V:=I6 20) rfl (Qaf (Qag (Qab (Qaa (Qac (V:=I6 20) rfl (Qaa (Qad (V:=I6 0) rfl (Qaa (Qad (V:=I6 20) rfl (Qaf (Qag (Qam (QaA (fun J μ J' w'=>∃ (Jo:Env) (t:Nat) (m:List Cen),J'=upd (upd (mix ([7,8]++sq 11 12) Jo J) 7 (I6 ((t*20:Nat):Int))) 8 (I6 ((t*20+20:Nat):Int))/\(t*20<=N)/\(m.length=N)/\(Qbh l m 0 N)/\(Blk cf m 20 (t*20))/\μ=N-t*20/\Own w S w' [row (.slice a N c) (m.map cec) 106 7]) ?_ ?_))))))))))))))))
 ·exact ⟨_,_,0,l,Qai (Qai (Qao (ds:=([7,8]++sq 11 12)) (Agr.refl _ _)) rfl) rfl,(by omega),hz,(Qbh.refl l (Nat.zero_le _) (by omega)),QoK,rfl,hs⟩
 rintro μ J' w1 ⟨Jo,t,m,rfl,ht,hz1,hpm,hbl,rfl,hs⟩
 refine Qag (Qag (Qab (Qaa (Qac (V:=I6 ((t*20+20:Nat):Int)) rfl (Qaa (Qac (V:=I6 (N:Int)) rfl (Qaa (Qdn rfl rfl (Qaf (Qan (t:=decide (((t*20+20:Nat):Int)<=(N:Int))) rfl (fun c2=>?_) (fun c2=>?_)))))))))))
 ·
  replace c2:=QQ1 c2
  refine Qap (Qam (Qag (Qab (Qaa (Qac (V:=.slice a N c) rfl (Qaa (Qac (V:=I6 ((t*20:Nat):Int)) rfl (Qaa (Qac (V:=I6 ((t*20+20:Nat):Int)) rfl (Qaa (Qac (V:=.func (.func g) #[] #[]) rfl (Qaa (Qbu (α:=List Cen) (vs:=[.slice a N c,I6 ((t*20:Nat):Int),I6 ((t*20+20:Nat):Int),.func (.func g) #[] #[]]) (V:=fun _=>.tuple #[]) (R:=row (.slice a N c) (m.map cec) 106 7) (R':=fun x=>row (.slice a N c) (x.map cec) 106 7) (Lo:=fun _=>[]) (F:=fun x _=>x.length=N/\Merged cf m x (t*20) (t*20+20)) QpR rfl rfl hs 0 rfl (fun S hS hlt=>QpV _ S a N c m hz1 hN (t*20) (t*20+20) (by omega) (by omega) g hg cf hc hcmp hS hlt) fun mz3 w4 hs hF5=>(Qaf (Qag (Qab (Qaa (Qac (V:=I6 ((t*20+20:Nat):Int)) rfl (Qaa (Qad (V:=I6 ((t*20+20:Nat):Int)) rfl (Qaf (Qab (Qaa (Qac (V:=I6 ((t*20+20:Nat):Int)) rfl (Qaa (Qac (V:=I6 20) rfl (Qaa (QaD (a:=((t*20+20:Nat):Int)) (b:=20) (c:=(((t*20+20)+20:Nat):Int)) rfl rfl (Qak (by omega) (by omega)) (Qaa (Qad (V:=I6 (((t*20+20)+20:Nat):Int)) rfl (Qaf ?_)))))))))))))))))))))))))))))))
  refine ⟨_,?_,_,t+1,mz3,Qai (Qai (Qao (ds:=([7,8]++sq 11 12)) (by repeat (first|exact Agr.refl _ _|refine Agr.upd ?_ rfl|refine Agr.mix ?_ rfl))) (congrArg (Value.int .i64) (by omega))) (congrArg (Value.int .i64) (by omega)),(by omega),hF5.1,(hpm.trans (hF5.2.1.wide (by omega) (by omega) (by omega))),(by rw [show (t+1)*20=t*20+20 by omega];exact Qkk hbl hF5.2.1 hF5.2.2 (Nat.le_refl _)),rfl,hs.take 1⟩
  omega
 replace c2:=QQ2 c2
 refine QaH (Qag (Qab (Qaa (Qac (V:=.slice a N c) rfl (Qaa (Qac (V:=I6 ((t*20:Nat):Int)) rfl (Qaa (Qac (V:=I6 (N:Int)) rfl (Qaa (Qac (V:=.func (.func g) #[] #[]) rfl (Qaa (Qbu (α:=List Cen) (vs:=[.slice a N c,I6 ((t*20:Nat):Int),I6 (N:Int),.func (.func g) #[] #[]]) (V:=fun _=>.tuple #[]) (R:=row (.slice a N c) (m.map cec) 106 7) (R':=fun x=>row (.slice a N c) (x.map cec) 106 7) (Lo:=fun _=>[]) (F:=fun x _=>x.length=N/\Merged cf m x (t*20) N) QpR rfl rfl hs 0 rfl (fun S hS hlt=>QpV _ S a N c m hz1 hN (t*20) N (by omega) (by omega) g hg cf hc hcmp hS hlt) fun mz6 w7 hs hF8=>(Qaf (Qam ?_))))))))))))))
 have hb0:Blk cf mz6 20 N:=Qkk hbl hF8.2.1 hF8.2.2 (by omega)
 have hp0:=hpm.trans (hF8.2.1.wide (by omega) (by omega) (by omega))
 refine QaA (fun J μ J' w'=>∃ (Jo:Env) (s:Nat) (m2:List Cen),J'=upd (mix ([6,7,8,9]++sq 28 35) Jo J) 6 (I6 (s:Int))/\(0<s)/\(s<=2*N+20)/\(m2.length=N)/\(Qbh l m2 0 N)/\(Blk cf m2 s N)/\μ=N-s/\Own w S w' [row (.slice a N c) (m2.map cec) 106 7]) ?_ ?_
 ·exact ⟨_,_,20,mz6,Qai (Qao (ds:=([6,7,8,9]++sq 28 35)) (Agr.refl _ _)) rfl,(by omega),(by omega),hF8.1,hp0,hb0,rfl,hs⟩
 rintro μ J' w9 ⟨Jo,s,m2,rfl,hs0,hsN,hz2,hpm2,hb2,rfl,hs⟩
 refine Qag (Qag (Qab (Qaa (Qac (V:=I6 (s:Int)) rfl (Qaa (Qac (V:=I6 (N:Int)) rfl (Qaa (QaS rfl rfl (Qaf (Qan (t:=decide ((s:Int)<(N:Int))) rfl (fun c10=>?_) (fun c10=>?_)))))))))))
 ·
  replace c10:=QQ1 c10
  refine Qap (Qam (Qag (Qab (Qaa (Qac (V:=I6 (s:Int)) rfl (Qaa (QgP (a:=2) (b:=(s:Int)) (c:=((2*s:Nat):Int)) rfl rfl (Qak (by omega) (by omega)) (Qaa (Qad (V:=I6 0) rfl (Qaa (Qad (V:=I6 ((2*s:Nat):Int)) rfl (Qaf (Qag (Qam (QaA (fun J μ J' w'=>∃ (Jo:Env) (t:Nat) (A:Nat) (m3:List Cen),J'=upd (upd (mix ([7,8]++sq 33 16) Jo J) 7 (I6 (A:Int))) 8 (I6 ((A+2*s:Nat):Int))/\(A=t*(2*s))/\(A<=N)/\(m3.length=N)/\(Qbh l m3 0 N)/\(Mrg cf m3 s t N)/\μ=N-A/\Own w S w' [row (.slice a N c) (m3.map cec) 106 7]) ?_ ?_)))))))))))))))
  ·exact ⟨_,_,0,0,m2,Qai (Qai (Qao (ds:=([7,8]++sq 33 16)) (Agr.refl _ _)) rfl) (congrArg (Value.int .i64) (by omega)),(by rw [Nat.zero_mul]),(by omega),hz2,hpm2,(Qnq hb2),rfl,hs⟩
  rintro μ J' w11 ⟨Jo,t,A,m3,rfl,hA,hAN,hz3,hpm3,hmr,rfl,hs⟩
  refine Qag (Qag (Qab (Qaa (Qac (V:=I6 ((A+2*s:Nat):Int)) rfl (Qaa (Qac (V:=I6 (N:Int)) rfl (Qaa (Qdn rfl rfl (Qaf (Qan (t:=decide (((A+2*s:Nat):Int)<=(N:Int))) rfl (fun c12=>?_) (fun c12=>?_)))))))))))
  ·
   replace c12:=QQ1 c12
   refine Qap (Qam (Qag ?_))
   have hpp:=QfW hmr
   rw [← hA] at hpp
   have hp1:=hpp.1.sub (Nat.le_refl _) (show A+s<=min (A+s) N by omega)
   have hp2:=hpp.2.sub (Nat.le_refl _) (show A+2*s<=min (A+2*s) N by omega)
   refine Qab (Qaa (Qac (V:=.slice a N c) rfl (Qaa (Qac (V:=I6 (A:Int)) rfl (Qaa (Qac (V:=I6 (A:Int)) rfl (Qaa (Qac (V:=I6 (s:Int)) rfl (Qaa (QaD (a:=(A:Int)) (b:=(s:Int)) (c:=((A+s:Nat):Int)) rfl rfl (Qak (by omega) (by omega)) (Qaa (Qac (V:=I6 ((A+2*s:Nat):Int)) rfl (Qaa (Qac (V:=.func (.func g) #[] #[]) rfl (Qaa (Qbu (α:=List Cen) (vs:=[.slice a N c,I6 (A:Int),I6 ((A+s:Nat):Int),I6 ((A+2*s:Nat):Int),.func (.func g) #[] #[]]) (V:=fun _=>.tuple #[]) (R:=row (.slice a N c) (m3.map cec) 106 7) (R':=fun x=>row (.slice a N c) (x.map cec) 106 7) (Lo:=fun _=>[]) (F:=fun x _=>x.length=N/\Merged cf m3 x A (A+2*s)) Qjz rfl rfl hs 0 rfl (fun S hS hlt=>Qkf g hg cf hc hcmp N _ S a N c m3 A (A+s) (A+2*s) hz3 hN (by omega) (by omega) (by omega) (by omega) hp1 hp2 hS hlt) fun mz13 w14 hs hF15=>(Qaf (Qag (Qab (Qaa (Qac (V:=I6 ((A+2*s:Nat):Int)) rfl (Qaa (Qad (V:=I6 ((A+2*s:Nat):Int)) rfl (Qaf (Qab (Qaa (Qac (V:=I6 ((A+2*s:Nat):Int)) rfl (Qaa (Qac (V:=I6 (s:Int)) rfl (Qaa (QgP (a:=2) (b:=(s:Int)) (c:=((2*s:Nat):Int)) rfl rfl (Qak (by omega) (by omega)) (Qaa (QaD (a:=((A+2*s:Nat):Int)) (b:=((2*s:Nat):Int)) (c:=(((A+2*s)+(2*s):Nat):Int)) rfl rfl (Qak (by omega) (by omega)) (Qaa (Qad (V:=I6 (((A+2*s)+(2*s):Nat):Int)) rfl (Qaf ?_))))))))))))))))))))))))))))))))))))
   refine ⟨_,?_,_,t+1,A+2*s,mz13,Qai (Qai (Qao (ds:=([7,8]++sq 33 16)) (by repeat (first|exact Agr.refl _ _|refine Agr.upd ?_ rfl|refine Agr.mix ?_ rfl))) rfl) (congrArg (Value.int .i64) (by omega)),(by rw [hA,Nat.add_mul,Nat.one_mul]),(by omega),hF15.1,(hpm3.trans (hF15.2.1.wide (by omega) (by omega) (by omega))),(Qj0 hmr (by rw [← hA];exact hF15.2.1) (by rw [← hA];exact hF15.2.2) (by omega)),rfl,hs.take 1⟩
   omega
  replace c12:=QQ2 c12
  refine QaH (Qag (Qag (Qab (Qaa (Qac (V:=I6 (A:Int)) rfl (Qaa (Qac (V:=I6 (s:Int)) rfl (Qaa (QaD (a:=(A:Int)) (b:=(s:Int)) (c:=((A+s:Nat):Int)) rfl rfl (Qak (by omega) (by omega)) (Qaa (Qad (V:=I6 ((A+s:Nat):Int)) rfl (Qaf (Qag (Qab (Qaa (Qac (V:=I6 ((A+s:Nat):Int)) rfl (Qaa (Qac (V:=I6 (N:Int)) rfl (Qaa (QaS rfl rfl (Qaf (Qan (t:=decide (((A+s:Nat):Int)<(N:Int))) rfl (fun c16=>?_) (fun c16=>?_)))))))))))))))))))))))
  ·
   replace c16:=QQ1 c16
   have hpp:=QfW hmr
   rw [← hA] at hpp
   have hp1:=hpp.1.sub (Nat.le_refl _) (show A+s<=min (A+s) N by omega)
   have hp2:=hpp.2.sub (Nat.le_refl _) (show N<=min (A+2*s) N by omega)
   refine Qab (Qaa (Qac (V:=.slice a N c) rfl (Qaa (Qac (V:=I6 (A:Int)) rfl (Qaa (Qac (V:=I6 ((A+s:Nat):Int)) rfl (Qaa (Qac (V:=I6 (N:Int)) rfl (Qaa (Qac (V:=.func (.func g) #[] #[]) rfl (Qaa (Qbu (α:=List Cen) (vs:=[.slice a N c,I6 (A:Int),I6 ((A+s:Nat):Int),I6 (N:Int),.func (.func g) #[] #[]]) (V:=fun _=>.tuple #[]) (R:=row (.slice a N c) (m3.map cec) 106 7) (R':=fun x=>row (.slice a N c) (x.map cec) 106 7) (Lo:=fun _=>[]) (F:=fun x _=>x.length=N/\Merged cf m3 x A N) Qjz rfl rfl hs 0 rfl (fun S hS hlt=>Qkf g hg cf hc hcmp N _ S a N c m3 A (A+s) N hz3 hN (by omega) (by omega) (by omega) (by omega) hp1 hp2 hS hlt) fun mz17 w18 hs hF19=>(Qaf (Qab (Qaa (Qac (V:=I6 (s:Int)) rfl (Qaa (QgP (a:=(s:Int)) (b:=2) (c:=((s*2:Nat):Int)) rfl rfl (Qak (by omega) (by omega)) (Qaa (Qad (V:=I6 ((s*2:Nat):Int)) rfl (Qaf ?_)))))))))))))))))))))
   refine ⟨_,?_,_,s*2,mz17,Qai (Qao (ds:=([6,7,8,9]++sq 28 35)) (by repeat (first|exact Agr.refl _ _|refine Agr.upd ?_ rfl|refine Agr.mix ?_ rfl))) rfl,(by omega),(by omega),hF19.1,(hpm3.trans (hF19.2.1.wide (by omega) (by omega) (by omega))),(by
 have hq:=Qj0 hmr (by rw [← hA];exact hF19.2.1) (by rw [← hA];exact hF19.2.2) (by omega)
 have hq2:=Qrr hq (by rw [Nat.add_mul,Nat.one_mul,← hA];omega)
 rw [Nat.mul_comm s 2];exact hq2),rfl,hs.take 1⟩
   omega
  replace c16:=QQ2 c16
  refine Qap (Qab (Qaa (Qac (V:=I6 (s:Int)) rfl (Qaa (QgP (a:=(s:Int)) (b:=2) (c:=((s*2:Nat):Int)) rfl rfl (Qak (by omega) (by omega)) (Qaa (Qad (V:=I6 ((s*2:Nat):Int)) rfl (Qaf ?_))))))))
  refine ⟨_,?_,_,s*2,m3,Qai (Qao (ds:=([6,7,8,9]++sq 28 35)) (by repeat (first|exact Agr.refl _ _|refine Agr.upd ?_ rfl|refine Agr.mix ?_ rfl))) rfl,(by omega),(by omega),hz3,hpm3,(by rw [Nat.mul_comm s 2];exact Qoz hmr (by omega)),rfl,hs.take 1⟩
  omega
 replace c10:=QQ2 c10
 refine QaH ?_
 refine ⟨_,Qbr Tryz.results126,?_⟩
 exact ⟨m2,rfl,hs.take 1,hz2,hpm2.perm,QrO (Qqh hb2 (by omega)) (by omega)⟩
theorem QtL (w:World) (S:Nat->Prop) (a:Option Addr) (N c:Nat) (l:List Cen) (hz:l.length=N) (hN:N<=1152921504606846975) (g:Nat) (hg:En Tryz.prog g) (cf:Cen->Cen->Int) (hc:CmpO cf) (hcmp:∀ (w:World) (x y:Cen),Calls Tryz.prog g #[.agg (cec x).toArray,.agg (cec y).toArray] w (fun e w'=>e = .returned (.int .i64 (cf x y))/\Own w no w' [])) (hR:(row (.slice a N c) (l.map cec) 106 7).holds w S) (hlt:∀ b,S b->b<w.heap.size):Calls Tryz.prog 75 #[.slice a N c,.func (.func g) #[] #[]] w (fun e w'=>∃ x:List Cen,e = .returned (.tuple #[])/\Own w S w' [row (.slice a N c) (x.map cec) 106 7]/\(x.length=N/\x.Perm l/\Qle cf x)):=by
 refine Qaj (n:=9) Tryz.func75 rfl Tryz.ntmps75 rfl ?_
 have hs:=Own.lent hR hlt
 refine Qab (Qaa (Qac (V:=.slice a N c) rfl (Qaa (Qac (V:=.slice a N c) rfl (Qaa (QaX (n:=N) QbI (hs.rd 0 rfl) (by simp [hz]) rfl (Qaa (Qac (V:=.func (.func g) #[] #[]) rfl (Qaa (Qbu (α:=List Cen) (vs:=[.slice a N c,I6 (N:Int),.func (.func g) #[] #[]]) (V:=fun _=>.tuple #[]) (R:=row (.slice a N c) (l.map cec) 106 7) (R':=fun x=>row (.slice a N c) (x.map cec) 106 7) (Lo:=fun _=>[]) (F:=fun x _=>x.length=N/\x.Perm l/\Qle cf x) QsA rfl rfl hs 0 rfl (fun S hS hlt=>Qte _ S a N c l hz hN g hg cf hc hcmp hS hlt) fun mz1 w2 hs hF3=>(Qaf ?_)))))))))))
 refine ⟨_,Qbr Tryz.results75,?_⟩
 exact ⟨mz1,rfl,hs.take 1,hF3⟩
end Tt
end Go.Proofs
namespace Go.Proofs
open Go Go.Vx Go.RowKit
namespace Tt
theorem Qo2 (w:World) (s:Sta) (a1:Option Addr) (c1:Nat) (a2:Option Addr) (c2:Nat) (n:Int) (hok:QdI s) (hle:s.ents.length<=1000) (hlt:s.ticks.length<=1000) (hr1:Rd w (.slice a1 s.ents.length c1) 7 (s.ents.map cec)) (hr2:Rd w (.slice a2 s.ticks.length c2) 2 (s.ticks.map lsc)):Calls Tryz.prog 33 #[.agg ((vc s.known)++[(.slice a1 s.ents.length c1:Value),(.slice a2 s.ticks.length c2:Value) ]).toArray,.int .u16 n] w (fun e w'=>∃ x:Option Addr × Nat,e = .returned (.agg [.int .u16 (QaE s n (Qas s)).cart,.slice x.1 (QaE s n (Qas s)).lines.length x.2,.bool (QaE s n (Qas s)).out,.int .u32 (QaE s n (Qas s)).tick].toArray)/\Own w no w' [row (.slice x.1 (QaE s n (Qas s)).lines.length x.2) ((QaE s n (Qas s)).lines.map lc) 127 2]/\True):=by
 refine Qaj (n:=94) Tryz.func33 rfl Tryz.ntmps33 rfl ?_
 have hs:=Own.start w
 have ⟨hv0,hE0,hT0⟩:=hok
 refine Qag (Qab (Qaa (QaR (V:=.agg ((vc s.known)++[(.slice a1 s.ents.length c1:Value),(.slice a2 s.ticks.length c2:Value) ]).toArray) (cs:=(vc s.known)++[(.slice a1 s.ents.length c1:Value),(.slice a2 s.ticks.length c2:Value) ]) rfl rfl hs fun b1 w2 hs=>(Qaa (QaK (cs:=[I7 0,.slice none 0 0,.bool false,.int .u32 0]) Qgl rfl hs fun b3 w4 hs=>(Qaf (Qag (Qab (Qaa (Qac (V:=I7 n) rfl (Qaa (Qby (vs:=[(0,I7 n)]) (cs:=[I7 n,.slice none 0 0,.bool false,.int .u32 0]) Qo4 (rfl) rfl (Qaa (QaK (cs:=[I7 0,.slice none 0 0,.bool false,.int .u32 0]) Qgl rfl hs fun b5 w6 hs=>(Qaa (Qcq (V:=.agg #[I7 n,.slice none 0 0,.bool false,.int .u32 0]) (vs:=[I7 n,.slice none 0 0,.bool false,.int .u32 0]) (cs':=[I7 n,.slice none 0 0,.bool false,.int .u32 0]) Qcr.1 hs 2 rfl rfl rfl rfl rfl (QQ8 rfl) (Qat rfl (Qat rfl (Qat rfl (Qat rfl Qa9)))) (Qay rfl) fun w7 hs=>?_))))))))))))))))
 replace hs:Own w no w7 [blk b1 ((vc s.known)++[(.slice a1 s.ents.length c1:Value),(.slice a2 s.ticks.length c2:Value) ]) 38,blk b3 [I7 0,.slice none 0 0,.bool false,.int .u32 0] 49,blk b5 [I7 n,.slice none 0 0,.bool false,.int .u32 0] 49]:=hs
 refine Qaf (Qag (Qag (Qab (Qaa (QaI (cs:=(vc s.known)++[(.slice a1 s.ents.length c1:Value),(.slice a2 s.ticks.length c2:Value) ]) QcD hs 0 rfl rfl rfl (Qaa (Qau (vs:=[.agg ((vc s.known)++[(.slice a1 s.ents.length c1:Value),(.slice a2 s.ticks.length c2:Value) ]).toArray]) (V:=.bool (Qas s)) Qq7 rfl rfl ?hc hs fun w8 hs=>?_)))))))
 case hc=>exact (Qf7 _ s a1 c1 a2 c2 hok (by omega) (by omega) (Rd.own' hr1 hs) (Rd.own' hr2 hs))
 refine Qaa (Qbx rfl (Qaf (Qan (t:=!(Qas s)) rfl (fun c9=>?_) (fun c9=>?_))))
 ·
  replace c9:=Qbs c9
  refine Qag (Qab (Qaa (QaI (cs:=[I7 n,.slice none 0 0,.bool false,.int .u32 0]) Qcr hs 2 rfl rfl rfl (Qaa (Qcq (V:=.agg #[I7 n,.slice none 0 0,.bool false,.int .u32 0]) (vs:=[I7 n,.slice none 0 0,.bool false,.int .u32 0]) (cs':=[I7 n,.slice none 0 0,.bool false,.int .u32 0]) Qcr.1 hs 1 rfl rfl rfl rfl rfl (QQ8 rfl) (Qat rfl (Qat rfl (Qat rfl (Qat rfl Qa9)))) (Qay rfl) fun w10 hs=>(Qaf (Qaw ?_)))))))
  refine ⟨_,QcB (cs:=[I7 n,.slice none 0 0,.bool false,.int .u32 0]) Tryz.results33 Qcr hs 1 rfl rfl rfl,?_⟩
  rw [c9]
  exact ⟨(none,0),rfl,(hs.take 0).more _ (Qbo _ _ 127 2),trivial⟩
 replace c9:=Qbd c9
 refine Qap (Qag (Qag ?_))
 have hrc:=Qfe.1 c9
 refine Qab (Qaa (QaI (cs:=(vc s.known)++[(.slice a1 s.ents.length c1:Value),(.slice a2 s.ticks.length c2:Value) ]) QcD hs 0 rfl rfl rfl (Qaa (Qac (V:=I7 n) rfl (Qaa (Qau (vs:=[.agg ((vc s.known)++[(.slice a1 s.ents.length c1:Value),(.slice a2 s.ticks.length c2:Value) ]).toArray,I7 n]) (V:=.tuple #[I6 ((Qen s.ticks n:Nat):Int),.bool ((QaC s.ticks n).isSome)]) Qtd rfl rfl ?hc hs fun w11 hs=>?_))))))
 case hc=>exact (Qkg _ s.known (.slice a1 s.ents.length c1) a2 c2 s.ticks n (by omega) hrc.rt (Rd.own' hr2 hs))
 refine Qaa (Qac (V:=.tuple #[I6 ((Qen s.ticks n:Nat):Int),.bool ((QaC s.ticks n).isSome)]) rfl (Qaa (Qaz (V:=I6 ((Qen s.ticks n:Nat):Int)) rfl rfl (Qaa (Qaz (V:=.bool ((QaC s.ticks n).isSome)) rfl rfl (Qaa (Qad (V:=I6 ((Qen s.ticks n:Nat):Int)) rfl (Qaa (Qad (V:=.bool ((QaC s.ticks n).isSome)) rfl (Qaf (Qag (Qab (Qaa (Qac (V:=.bool ((QaC s.ticks n).isSome)) rfl (Qaf (Qf4 (fun J J' w'=>∃ (Jo:Env) (tk:Int),J'=mix (sq 25 7) Jo J/\(tk=(QaC s.ticks n).getD 0)/\Own w no w' [blk b1 ((vc s.known)++[(.slice a1 s.ents.length c1:Value),(.slice a2 s.ticks.length c2:Value) ]) 38,blk b3 [I7 0,.slice none 0 0,.bool false,.int .u32 0] 49,blk b5 [I7 n,.slice none 0 0,.bool false,.int .u32 tk] 49]) ?_ ?_))))))))))))))))
 ·
  refine Qan (t:=(QaC s.ticks n).isSome) rfl (fun c12=>?_) (fun c12=>?_)
  ·
   have hfa:=(Qmw hrc.rt c12).1
   refine Qab (Qaa (Qae Qc5 rfl (Qaa (QaF (V:=.slice a2 s.ticks.length c2) Qgy hs 0 rfl rfl rfl (Qaa (Qac (V:=I6 ((Qen s.ticks n:Nat):Int)) rfl (Qaa (Qax Qfi Qcz.1 (Rd.own' hr2 hs) rfl rfl (by omega) (by rw [QQ6];omega) (Qaa (Qae QhL rfl (Qaa (QaU (j:=1) (V:=.int .u32 ((gd s.ticks (Qen s.ticks n)).tick)) (Qen s.ticks n) Qa8 (Rd.own' hr2 hs) (QaW (by omega)) rfl rfl (by omega) (Qaa (Qae Qga rfl (Qaa (QcR (V:=.int .u32 ((gd s.ticks (Qen s.ticks n)).tick)) (cs':=[I7 n,.slice none 0 0,.bool false,.int .u32 ((gd s.ticks (Qen s.ticks n)).tick)]) Qa8 hs 2 rfl rfl rfl rfl (QQ8 rfl) rfl fun w13 hs=>(Qaf ?_)))))))))))))))))
   exact ⟨_,(gd s.ticks (Qen s.ticks n)).tick,Qao (ds:=(sq 25 7)) (by repeat (first|exact Agr.refl _ _|refine Agr.upd ?_ rfl|refine Agr.mix ?_ rfl)),(by rw [(Qmw hrc.rt c12).2.2];rfl),hs.take 3⟩
  refine Qap ?_
  exact ⟨_,0,Qao (ds:=(sq 25 7)) (by repeat (first|exact Agr.refl _ _|refine Agr.upd ?_ rfl|refine Agr.mix ?_ rfl)),(Qqi c12),hs.take 3⟩
 rintro J' w14 ⟨Jo,tk,rfl,htk,hs⟩
 refine Qag (Qab (Qaa (Qad (V:=.slice none 0 0) rfl (Qaf (Qag (Qag (Qab (Qaa (Qae QdR rfl (Qaa (QaF (V:=.slice a1 s.ents.length c1) Qit hs 0 rfl rfl rfl (Qaa (QaX (n:=s.ents.length) QbI (Rd.own' hr1 hs) (by simp) rfl (Qaa (Qac (V:=I6 0) rfl (Qaf (Qam ?_)))))))))))))))))
 replace hs:=hs.more (row (.slice none 0 0) (List.map cec []) 106 7) (Qbo _ _ _ _)
 refine QaA (fun J μ J' w'=>∃ (Jo:Env) (k:Nat) (an9:Option Addr) (cn9:Nat) (L9:List Cen) (ou:Bool),J'=upd (upd (mix ([8,10]++sq 35 19) Jo J) 35 (I6 (k:Int))) 8 (.slice an9 L9.length cn9)/\(k<=s.ents.length)/\(L9=(s.ents.take k).filter (fun e:Cen=>decide (e.cart=n)&&!decide (e.kind=4)))/\(ou=(s.ents.take k).any (fun e:Cen=>decide (e.cart=n)&&decide (e.kind=4)))/\(L9.length<=k)/\μ=s.ents.length-k/\Own w no w' [blk b1 ((vc s.known)++[(.slice a1 s.ents.length c1:Value),(.slice a2 s.ticks.length c2:Value) ]) 38,blk b3 [I7 0,.slice none 0 0,.bool false,.int .u32 0] 49,blk b5 [I7 n,.slice none 0 0,.bool ou,.int .u32 tk] 49,row (.slice an9 L9.length cn9) (L9.map cec) 106 7]) ?_ ?_
 ·exact ⟨_,_,0,none,0,[],false,Qai (Qai (Qao (ds:=([8,10]++sq 35 19)) (Agr.refl _ _)) rfl) rfl,(by omega),rfl,rfl,(Nat.le_refl _),rfl,hs⟩
 rintro μ J' w15 ⟨Jo,k,an9,cn9,L9,ou,rfl,hk,hL9,hob,hl9,rfl,hs⟩
 refine Qag (Qab (Qaa (QaS rfl rfl (Qaf (Qag (Qan (t:=decide ((k:Int)<((s.ents.length:Nat):Int))) rfl (fun c16=>?_) (fun c16=>?_)))))))
 ·
  replace c16:=QQ1 c16
  refine Qap (Qag (Qam (Qag (Qab (Qaa (Qax QbI QaG.1 (Rd.own' hr1 hs) rfl rfl (by omega) (by rw [QQ6];omega) (Qaa (QaV (j:=0) (vs:=cec (gd s.ents k)) k QaG (Rd.own' hr1 hs) (QaW (by omega)) rfl rfl rfl (by omega) (Qaa (QaK (cs:=cec (⟨0,0,0,0,(⟨0,0⟩:Dot),0⟩:Cen)) Qf5 rfl hs fun b17 w18 hs=>(Qaa (Qcq (V:=.agg (cec (gd s.ents k)).toArray) (vs:=cec (gd s.ents k)) (cs':=cec (gd s.ents k)) QaG.1 hs 4 rfl rfl rfl rfl rfl (QQ8 rfl) (Qa6 _) (Qay rfl) fun w19 hs=>(Qaf (Qam (Qag (Qab (Qaa (Qae QdM rfl (Qaa (QaF (V:=I7 ((gd s.ents k).cart)) Qar hs 4 rfl rfl rfl (Qaa (Qac (V:=I7 n) rfl (Qaa (Qb7 rfl rfl (Qaa (Qad (V:=.bool (!decide ((gd s.ents k).cart=n))) rfl (Qaf (Qan (t:=!decide ((gd s.ents k).cart=n)) rfl (fun c20=>?_) (fun c20=>?_)))))))))))))))))))))))))))))
  ·
   replace c20:=Qbs c20
   replace c20:=QQ2 c20
   refine Qap (Qab (Qaa (QaD (a:=(k:Int)) (b:=1) (c:=((k+1:Nat):Int)) rfl rfl (Qak (by omega) (by omega)) (Qaa (Qac (V:=I6 ((k+1:Nat):Int)) rfl (Qaf ?_))))))
   refine ⟨_,?_,_,k+1,an9,cn9,L9,ou,Qai (Qai (Qao (ds:=([8,10]++sq 35 19)) (by repeat (first|exact Agr.refl _ _|refine Agr.upd ?_ rfl|refine Agr.mix ?_ rfl))) rfl) rfl,(by omega),(Qd3 (p:=(fun e:Cen=>decide (e.cart=n)&&!decide (e.kind=4))) hL9 (by omega) (by simp [c20])),(by rw [← QcP (p:=(fun e:Cen=>decide (e.cart=n)&&decide (e.kind=4))) hob (by omega)];simp [c20]),(by omega),rfl,hs.take 4⟩
   omega
  replace c20:=Qbd c20
  replace c20:=QQ1 c20
  refine Qag (Qab (Qaa (Qae QeU rfl (Qaa (QaF (V:=.int .u8 ((gd s.ents k).kind)) QcJ hs 4 rfl rfl rfl (Qaa (QaT rfl rfl (Qaa (Qad (V:=.bool (decide ((gd s.ents k).kind=4))) rfl (Qaf (Qan (t:=decide ((gd s.ents k).kind=4)) rfl (fun c21=>?_) (fun c21=>?_))))))))))))
  ·
   replace c21:=QQ1 c21
   refine Qab (Qaa (Qae Qdi rfl (Qaa (QcR (V:=.bool true) (cs':=[I7 n,.slice none 0 0,.bool true,.int .u32 tk]) Qnt hs 2 rfl rfl rfl rfl (QQ8 rfl) rfl fun w22 hs=>(Qaf (Qab (Qaa (QaD (a:=(k:Int)) (b:=1) (c:=((k+1:Nat):Int)) rfl rfl (Qak (by omega) (by omega)) (Qaa (Qac (V:=I6 ((k+1:Nat):Int)) rfl (Qaf ?_)))))))))))
   refine ⟨_,?_,_,k+1,an9,cn9,L9,true,Qai (Qai (Qao (ds:=([8,10]++sq 35 19)) (by repeat (first|exact Agr.refl _ _|refine Agr.upd ?_ rfl|refine Agr.mix ?_ rfl))) rfl) rfl,(by omega),(Qd3 (p:=(fun e:Cen=>decide (e.cart=n)&&!decide (e.kind=4))) hL9 (by omega) (by simp [c20,c21])),(by rw [← QcP (p:=(fun e:Cen=>decide (e.cart=n)&&decide (e.kind=4))) hob (by omega)];simp [c20,c21]),(by omega),rfl,hs.take 4⟩
   omega
  replace c21:=QQ2 c21
  refine Qab (Qaa (Qac (V:=.slice an9 L9.length cn9) rfl (Qaa (QaI (cs:=cec (gd s.ents k)) QaG hs 4 rfl rfl rfl (Qaa (QeP (vals:=[.agg (cec (gd s.ents k)).toArray]) (ls:=List.map cec ([gd s.ents k]:List Cen)) QhV rfl rfl rfl (Qbi (enc:=cec) (fun _=>rfl) _) (QaL Qa6 _) (QQ8 rfl) hs fun b23 w24 hs=>(Qaa (QbY (ls':=(L9++[gd s.ents k]).map cec) (n:=(L9++[gd s.ents k]).length) QhV hs 3 rfl rfl rfl (hs.rd 5 rfl) (QaL Qa6 _) (by simp only [QQ6,QQ7,List.length_cons,List.length_nil];omega) (by simp) (by simp) fun a25 c25 w26 hs=>?_))))))))
  replace hs:Own w no w26 [blk b1 ((vc s.known)++[(.slice a1 s.ents.length c1:Value),(.slice a2 s.ticks.length c2:Value) ]) 38,blk b3 [I7 0,.slice none 0 0,.bool false,.int .u32 0] 49,blk b5 [I7 n,.slice none 0 0,.bool ou,.int .u32 tk] 49,row (.slice a25 ((L9++[gd s.ents k]).length) c25) ((L9++[gd s.ents k]).map cec) 106 7,blk b17 (cec (gd s.ents k)) 106,row (.slice (some ⟨b23,0,none⟩) 1 1) ([gd s.ents k].map cec) 106 7]:=hs
  refine Qaa (Qad (V:=.slice a25 ((L9++[gd s.ents k]).length) c25) rfl (Qaf (Qab (Qaa (QaD (a:=(k:Int)) (b:=1) (c:=((k+1:Nat):Int)) rfl rfl (Qak (by omega) (by omega)) (Qaa (Qac (V:=I6 ((k+1:Nat):Int)) rfl (Qaf ?_))))))))
  refine ⟨_,?_,_,k+1,a25,c25,L9++[gd s.ents k],ou,Qai (Qai (Qao (ds:=([8,10]++sq 35 19)) (by repeat (first|exact Agr.refl _ _|refine Agr.upd ?_ rfl|refine Agr.mix ?_ rfl))) rfl) rfl,(by omega),(QeR (p:=(fun e:Cen=>decide (e.cart=n)&&!decide (e.kind=4))) hL9 (by omega) (by simp [c20,c21])),(by rw [← QcP (p:=(fun e:Cen=>decide (e.cart=n)&&decide (e.kind=4))) hob (by omega)];simp [c20,c21]),(by rw [QQ7,List.length_singleton];omega),rfl,hs.take 4⟩
  omega
 replace c16:=QQ2 c16
 refine QaH (Qag (Qab (Qaa (Qac (V:=.slice an9 L9.length cn9) rfl (Qaa (Qbu (α:=List Cen) (vs:=[.slice an9 L9.length cn9,.func (.func 76) #[] #[]]) (V:=fun _=>.tuple #[]) (R:=row (.slice an9 L9.length cn9) (L9.map cec) 106 7) (R':=fun x=>row (.slice an9 L9.length cn9) (x.map cec) 106 7) (Lo:=fun _=>[]) (F:=fun x _=>x.length=L9.length/\x.Perm L9/\Qle (fun x y:Cen=>Qa5 x.item y.item) x) Qvs rfl rfl hs 3 rfl (fun S hS hlt=>QtL _ S an9 L9.length cn9 L9 rfl (by omega) 76 Qvf (fun x y:Cen=>Qa5 x.item y.item) (Qps (fun x:Cen=>x.item)) (fun w x y=>Qom w x y) hS hlt) fun sx28 w27 hs hF29=>(Qaf (Qag (Qam ?_)))))))))
 replace hs:=hs.more (row (.slice none 0 0) (List.map lc []) 127 2) (Qbo _ _ _ _)
 obtain ⟨hQl,hQp,hQs⟩:=hF29
 have hLE:L9=Qji s n:=by rw [hL9,Qck (by omega)];rfl
 rw [hLE] at hQp
 have hobE:=hob
 rw [Qck (by omega)] at hobE
 have hQok:∀ e∈sx28,QeM e/\1<=e.count:=fun e he=>by
  have hq:=QoJ hrc (hQp.mem_iff.1 he)
  exact ⟨hE0 e hq.1,hq.2⟩
 refine QaA (fun J μ J' w'=>∃ (Jo:Env) (R:List Cen) (I:List Int) (an3:Option Addr) (cn3:Nat) (an6:Option Addr) (cn6:Nat) (ol:List Line),J'=upd (mix ([8,11]++sq 56 37) Jo J) 8 (.slice an3 R.length cn3)/\(Grps sx28 R I)/\(ol=I.map (QgO s n))/\(ol.length+R.length<=sx28.length)/\(∀ w':World,Rd w' (.slice an9 L9.length cn9) 7 (sx28.map cec)->Rd w' (.slice an3 R.length cn3) 7 (R.map cec))/\μ=R.length+0/\Own w no w' [blk b1 ((vc s.known)++[(.slice a1 s.ents.length c1:Value),(.slice a2 s.ticks.length c2:Value) ]) 38,blk b3 [I7 0,.slice none 0 0,.bool false,.int .u32 0] 49,blk b5 [I7 n,.slice an6 ol.length cn6,.bool ou,.int .u32 tk] 49,row (.slice an9 L9.length cn9) (sx28.map cec) 106 7,row (.slice an6 ol.length cn6) (ol.map lc) 127 2]) ?_ ?_
 ·exact ⟨_,_,sx28,[],an9,cn9,none,0,[],Qai (Qao (ds:=([8,11]++sq 56 37)) (Agr.refl _ _)) (congrArg (fun n=>Value.slice an9 n cn9) hQl.symm),(QkP _),rfl,(by simp),(fun w' h=>by rw [hQl];exact h),rfl,hs⟩
 rintro μ J' w30 ⟨Jo,R,I,an3,cn3,an6,cn6,ol,rfl,hgr,hol,hll,hvia,rfl,hs⟩
 refine Qag (Qag (Qab (Qaa (Qac (V:=.slice an3 R.length cn3) rfl (Qaa (QaX (n:=R.length) QbI (hvia _ (hs.rd 3 rfl)) (by simp) rfl (Qaa (QbW rfl rfl (Qaf (Qan (t:=decide (0<((R.length:Nat):Int))) rfl (fun c31=>?_) (fun c31=>?_)))))))))))
 ·
  replace c31:=QQ1 c31
  refine Qap (Qam (Qag (Qab (Qaa (Qad (V:=I6 1) rfl (Qaf (Qag (Qam (QaA (fun J μ J' w'=>∃ (Jo:Env) (j:Nat),J'=upd (mix ([11]++sq 59 18) Jo J) 11 (I6 (j:Int))/\(1<=j)/\(j<=R.length)/\(∀ i,i<j->(gd R i).item=(gd R 0).item)/\μ=R.length-j/\Own w no w' [blk b1 ((vc s.known)++[(.slice a1 s.ents.length c1:Value),(.slice a2 s.ticks.length c2:Value) ]) 38,blk b3 [I7 0,.slice none 0 0,.bool false,.int .u32 0] 49,blk b5 [I7 n,.slice an6 ol.length cn6,.bool ou,.int .u32 tk] 49,row (.slice an9 L9.length cn9) (sx28.map cec) 106 7,row (.slice an6 ol.length cn6) (ol.map lc) 127 2]) ?_ ?_)))))))))
  ·exact ⟨_,_,1,Qai (Qao (ds:=([11]++sq 59 18)) (Agr.refl _ _)) rfl,(Nat.le_refl _),(by omega),(fun i hi=>by rw [show i=0 by omega]),rfl,hs⟩
  rintro μ J' w32 ⟨Jo,j,rfl,hj1,hj2,hji,rfl,hs⟩
  refine Qag (Qag (QaJ HM [some 59,some 60,some 61,some 62,some 63,some 64,some 65,some 66,some 67,some 68,some 69,some 70,some 71,some 72,some 73,some 74] [] [0,0,2,7,15,31,31,127,255,511,31,1055,3103,7199,16383,32767] [pv (I6 (j:Int)),pv (.slice an3 R.length cn3),pv (I6 ((R.length:Nat):Int)),pv (.bool (decide ((j:Int)<((R.length:Nat):Int)))),pv (.bool (decide ((j:Int)<((R.length:Nat):Int)))),pg ((decide ((j:Int)<((R.length:Nat):Int))) == true) (.slice an3 R.length cn3),pg ((decide ((j:Int)<((R.length:Nat):Int))) == true) (I6 (j:Int)),pg ((decide ((j:Int)<((R.length:Nat):Int))) == true) (.pointer (some ⟨bkS (.slice an3 R.length cn3),ofS (.slice an3 R.length cn3)+(j:Int).toNat*7,none⟩)),pg ((decide ((j:Int)<((R.length:Nat):Int))) == true) (.pointer (some ⟨bkS (.slice an3 R.length cn3),ofS (.slice an3 R.length cn3)+(j:Int).toNat*7+1,none⟩)),pg ((decide ((j:Int)<((R.length:Nat):Int))) == true) (I7 ((gd R j).item)),pg ((decide ((j:Int)<((R.length:Nat):Int))) == true) (.slice an3 R.length cn3),pg ((decide ((j:Int)<((R.length:Nat):Int))) == true) (.pointer (some ⟨bkS (.slice an3 R.length cn3),ofS (.slice an3 R.length cn3)+(0:Int).toNat*7,none⟩)),pg ((decide ((j:Int)<((R.length:Nat):Int))) == true) (.pointer (some ⟨bkS (.slice an3 R.length cn3),ofS (.slice an3 R.length cn3)+(0:Int).toNat*7+1,none⟩)),pg ((decide ((j:Int)<((R.length:Nat):Int))) == true) (I7 ((gd R 0).item)),pg ((decide ((j:Int)<((R.length:Nat):Int))) == true) (.bool (decide ((gd R j).item=(gd R 0).item))),pv (.bool ((decide ((j:Int)<((R.length:Nat):Int)))&&(decide ((gd R j).item=(gd R 0).item))))] (fun _ _=>_) [15] (by kernel_rfl) hs ⟨?_,?_,?_,?_,?_,?_,?_,?_,?_,?_,?_,?_,?_,?_,?_,?_,trivial⟩ ?_))
  ·exact oa [] fun D J w hs=>Qac (V:=.int .i64 (j:Int)) rfl (Zz hs)
  ·exact oa [] fun D J w hs=>Qac (V:=.slice an3 R.length cn3) rfl (Zz hs)
  ·exact oa [1] fun D J w hs=>QaX (n:=R.length) QbI (hvia _ (hs.rd 3 rfl)) (by simp) rfl (Zz hs)
  ·exact oa [0,2] fun D J w hs=>QaS rfl rfl (Zz hs)
  ·exact oa [3] fun D J w hs=>Qac (V:=.bool (decide ((j:Int)<((R.length:Nat):Int)))) rfl (Zz hs)
  ·exact og [4] fun D J w hG hs=>Qac (V:=.slice an3 R.length cn3) rfl (Zz hs)
  ·exact og [4] fun D J w hG hs=>Qac (V:=.int .i64 (j:Int)) rfl (Zz hs)
  ·refine oy [4,5,6] [5,6] fun D J w hG hs=>?_
   have hgd:=QQ1 (eq_of_beq (hG))
   exact Qax QbI QaG.1 (hvia _ (hs.rd 3 rfl)) rfl rfl (by omega) (by rw [QQ6];omega) (Zz hs)
  ·exact oy [4,7] [7] fun D J w hG hs=>Qae QdK rfl (Zz hs)
  ·refine oy [4,8] [8] fun D J w hG hs=>?_
   have hgd:=QQ1 (eq_of_beq (hG))
   exact QaU (j:=1) (V:=.int .u16 ((gd R j).item)) j Qar (hvia _ (hs.rd 3 rfl)) (QaW (by omega)) rfl rfl (by omega) (Zz hs)
  ·exact og [4] fun D J w hG hs=>Qac (V:=.slice an3 R.length cn3) rfl (Zz hs)
  ·refine oy [4,10] [10] fun D J w hG hs=>?_
   have hgd:=QQ1 (eq_of_beq (hG))
   exact Qax QbI QaG.1 (hvia _ (hs.rd 3 rfl)) rfl rfl (by decide) (by rw [QQ6];omega) (Zz hs)
  ·exact oy [4,11] [11] fun D J w hG hs=>Qae QdK rfl (Zz hs)
  ·refine oy [4,12] [12] fun D J w hG hs=>?_
   have hgd:=QQ1 (eq_of_beq (hG))
   exact QaU (j:=1) (V:=.int .u16 ((gd R 0).item)) 0 Qar (hvia _ (hs.rd 3 rfl)) (QaW (by omega)) rfl rfl (by omega) (Zz hs)
  ·exact oy [4,9,13] [9,13] fun D J w hG hs=>QaT rfl rfl (Zz hs)
  ·exact oa [4,14] fun D J w hs=>Qa7 (h':=decide ((gd R j).item=(gd R 0).item)) rfl rfl rfl (Zz hs)
  rintro J1 w33 J2 hJ hs
  replace hJ:J2=upd (mix (sq 59 16) J1 _) 74 (.bool ((decide ((j:Int)<((R.length:Nat):Int)))&&(decide ((gd R j).item=(gd R 0).item)))):=hJ
  subst hJ
  refine Qan (t:=(decide ((j:Int)<((R.length:Nat):Int)))&&(decide ((gd R j).item=(gd R 0).item))) rfl (fun c34=>?_) (fun c34=>?_)
  ·
   have c34r:=QbG c34
   replace c34:=QbC c34
   replace c34:=QQ1 c34
   replace c34r:=QQ1 c34r
   refine Qap (Qam (Qab (Qaa (Qac (V:=I6 (j:Int)) rfl (Qaa (QaD (a:=(j:Int)) (b:=1) (c:=((j+1:Nat):Int)) rfl rfl (Qak (by omega) (by omega)) (Qaa (Qad (V:=I6 ((j+1:Nat):Int)) rfl (Qaf ?_)))))))))
   refine ⟨_,?_,_,j+1,Qai (Qao (ds:=([11]++sq 59 18)) (by repeat (first|exact Agr.refl _ _|refine Agr.upd ?_ rfl|refine Agr.mix ?_ rfl))) rfl,(by omega),(by omega),(fun i hi=>by
 rcases Nat.lt_or_eq_of_le (Nat.le_of_lt_succ hi) with q|q
 ·exact hji i q
 ·subst q;exact c34r),rfl,hs.take 5⟩
   omega
  refine QaH (Qag ?_)
  have hga:=Qqj hrc hQp hgr hQs hj1 hj2 hji (by
          have ht:=c34
          rcases Nat.lt_or_ge j R.length with q|q
          ·right;intro h;simp [q,h] at ht
          ·left;omega)
  have hGok:∀ e∈R.take j,QeM e/\1<=e.count:=fun e he=>hQok e (QoX hgr e (List.mem_of_mem_take he))
  replace hs:=hs.more emp trivial
  refine QaJ HM [some 77,some 78,some 79,some 80,some 81,some 82,some 83,some 84,some 85,some 86,some 87,some 88,some 89,none] [[],[],[],[],[],[],[],[],[],[],[87],[88]] [0,1,0,4,12,28,0,0,192,508,1020,2047,4095,8191] [pv (Pq b5 (0+1)),pv (.slice an6 ol.length cn6),pv (.slice an3 R.length cn3),pv (.pointer (some ⟨bkS (.slice an3 R.length cn3),ofS (.slice an3 R.length cn3)+(0:Int).toNat*7,none⟩)),pv (.pointer (some ⟨bkS (.slice an3 R.length cn3),ofS (.slice an3 R.length cn3)+(0:Int).toNat*7+1,none⟩)),pv (I7 ((gd R 0).item)),pv (.slice an3 R.length cn3),pv (I6 (j:Int)),pv (.slice (sla an3 0 cn3 7) ((R.take j).length) (cn3-0)),pv (.agg (lc (⟨(gd R 0).item,QcV (R.take j)⟩:Line)).toArray),(true,fun J=>.slice (some ⟨(bOf (J 87)),0,none⟩) 1 1),(true,fun J=>.slice (aOf (J 88)) ((ol++[(⟨(gd R 0).item,QcV (R.take j)⟩:Line)]).length) (cOf (J 88))),pv (Pq b5 (0+1)),pn] (fun D J=>[blk b1 ((vc s.known)++[(.slice a1 s.ents.length c1:Value),(.slice a2 s.ticks.length c2:Value) ]) 38,blk b3 [I7 0,.slice none 0 0,.bool false,.int .u32 0] 49,cond (D 13) (blk b5 [I7 n,.slice (aOf (J 88)) ((ol++[(⟨(gd R 0).item,QcV (R.take j)⟩:Line)]).length) (cOf (J 88)),.bool ou,.int .u32 tk] 49) (blk b5 [I7 n,.slice an6 ol.length cn6,.bool ou,.int .u32 tk] 49),row (.slice an9 L9.length cn9) (sx28.map cec) 106 7,cond (D 11) (row (.slice (aOf (J 88)) ((ol++[(⟨(gd R 0).item,QcV (R.take j)⟩:Line)]).length) (cOf (J 88))) ((ol++[(⟨(gd R 0).item,QcV (R.take j)⟩:Line)]).map lc) 127 2) (row (.slice an6 ol.length cn6) (ol.map lc) 127 2),cond (D 10) (row (.slice (some ⟨(bOf (J 87)),0,none⟩) 1 1) ([(⟨(gd R 0).item,QcV (R.take j)⟩:Line)].map lc) 127 2) (emp)]) [] (by kernel_rfl) hs ⟨?_,?_,?_,?_,?_,?_,?_,?_,?_,?_,?_,?_,?_,?_,trivial⟩ ?_
  ·exact oa [] fun D J w hs=>Qae QcS rfl (Zz hs)
  ·exact ob [0] [13] rfl rfl fun D J w hs=>QaF (V:=.slice an6 ol.length cn6) QfE hs 2 rfl rfl rfl (Zz hs)
  ·exact oa [] fun D J w hs=>Qac (V:=.slice an3 R.length cn3) rfl (Zz hs)
  ·exact oa [2] fun D J w hs=>Qax QbI QaG.1 (hvia _ (hs.rd 3 rfl)) rfl rfl (by decide) (by rw [QQ6];omega) (Zz hs)
  ·exact oa [3] fun D J w hs=>Qae QdK rfl (Zz hs)
  ·exact oa [4] fun D J w hs=>QaU (j:=1) (V:=.int .u16 ((gd R 0).item)) 0 Qar (hvia _ (hs.rd 3 rfl)) (QaW (by omega)) rfl rfl (by omega) (Zz hs)
  ·exact oa [] fun D J w hs=>Qac (V:=.slice an3 R.length cn3) rfl (Zz hs)
  ·exact oa [] fun D J w hs=>Qac (V:=.int .i64 (j:Int)) rfl (Zz hs)
  ·exact oa [6,7] fun D J w hs=>QpM (l:=0) (h:=j) (m:=cn3) (n':=(R.take j).length) Qh6 QaG.1 (hvia _ (hs.rd 3 rfl)) rfl (.inl ⟨rfl,rfl⟩) (.inr ⟨_,_,rfl,rfl⟩) (.inl ⟨rfl,rfl⟩) (by omega) (by omega) (Nat.le_trans (show j<=R.length by omega) (Rd.roomM (hvia _ (hs.rd 3 rfl)))) (Nat.le_refl _) (by simp only [List.length_take,List.length_drop]<;>omega) (Zz hs)
  ·exact oa [5,8] fun D J w hs=>Qau (vs:=[.int .u16 ((gd R 0).item),.slice (sla an3 0 cn3 7) ((R.take j).length) (cn3-0)]) (V:=.agg (lc (⟨(gd R 0).item,QcV (R.take j)⟩:Line)).toArray) QuR rfl rfl (Qqg _ ((gd R 0).item) (sla an3 0 cn3 7) (cn3-0) (R.take j) hGok (Rd.subM (hvia _ (hs.rd 3 rfl)) 0 j cn3 (by omega) (by omega) (Nat.le_trans (show j<=R.length by omega) (Rd.roomM (hvia _ (hs.rd 3 rfl)))) (Nat.le_refl _) _ (by simp only [List.length_take,List.length_drop]<;>omega))) hs fun _ hs=>Zz hs
  ·exact oa [9] fun D J w hs=>QeP (vals:=[.agg (lc (⟨(gd R 0).item,QcV (R.take j)⟩:Line)).toArray]) (ls:=List.map lc ([(⟨(gd R 0).item,QcV (R.take j)⟩:Line)]:List Line)) QnT rfl rfl rfl (Qbi (enc:=lc) (fun _=>rfl) _) (QaL Qis _) (QQ8 rfl) hs fun _ _ hs=>⟨rfl,hs.put 5 (QQ8 rfl)⟩
  ·exact ob [1,10] [13] rfl rfl fun D J w hs=>QbY (ls':=(ol++[(⟨(gd R 0).item,QcV (R.take j)⟩:Line)]).map lc) (n:=(ol++[(⟨(gd R 0).item,QcV (R.take j)⟩:Line)]).length) QnT hs 4 rfl rfl rfl (hs.rd 5 rfl) (QaL Qis _) (by simp only [QQ6,QQ7,List.length_cons,List.length_nil];omega) (by simp) (by simp) fun _ _ _ hs=>⟨rfl,hs⟩
  ·exact oa [] fun D J w hs=>Qae QcS rfl (Zz hs)
  ·exact oa [11,12] fun D J w hs=>QcR (V:=.slice (aOf (J 88)) ((ol++[(⟨(gd R 0).item,QcV (R.take j)⟩:Line)]).length) (cOf (J 88))) (cs':=[.int .u16 n,.slice (aOf (J 88)) ((ol++[(⟨(gd R 0).item,QcV (R.take j)⟩:Line)]).length) (cOf (J 88)),.bool ou,.int .u32 tk]) QfE hs 2 rfl rfl rfl rfl (QQ8 rfl) rfl fun _ hs=>⟨trivial,hs⟩
  rintro J1 w39 J2 hJ hs
  replace hJ:J2=mix (sq 77 13) J1 _:=hJ
  replace hs:Own w no w39 [blk b1 ((vc s.known)++[(.slice a1 s.ents.length c1:Value),(.slice a2 s.ticks.length c2:Value) ]) 38,blk b3 [I7 0,.slice none 0 0,.bool false,.int .u32 0] 49,blk b5 [I7 n,.slice (aOf (J1 88)) ((ol++[(⟨(gd R 0).item,QcV (R.take j)⟩:Line)]).length) (cOf (J1 88)),.bool ou,.int .u32 tk] 49,row (.slice an9 L9.length cn9) (sx28.map cec) 106 7,row (.slice (aOf (J1 88)) ((ol++[(⟨(gd R 0).item,QcV (R.take j)⟩:Line)]).length) (cOf (J1 88))) ((ol++[(⟨(gd R 0).item,QcV (R.take j)⟩:Line)]).map lc) 127 2,row (.slice (some ⟨(bOf (J1 87)),0,none⟩) 1 1) ([(⟨(gd R 0).item,QcV (R.take j)⟩:Line)].map lc) 127 2]:=hs
  generalize (bOf (J1 87))=b40 at hs
  generalize (aOf (J1 88))=a41 at hs
  generalize (cOf (J1 88))=c42 at hs
  subst hJ
  refine Qab (Qaa (Qac (V:=.slice an3 R.length cn3) rfl (Qaa (Qac (V:=I6 (j:Int)) rfl (Qaa (QpM (l:=j) (h:=R.length) (m:=cn3) (n':=(R.drop j).length) Qh6 QaG.1 (hvia _ (hs.rd 3 rfl)) rfl (.inr ⟨_,_,rfl,rfl⟩) (.inl ⟨rfl,rfl⟩) (.inl ⟨rfl,rfl⟩) (by omega) (by omega) (Nat.le_trans (show R.length<=R.length by omega) (Rd.roomM (hvia _ (hs.rd 3 rfl)))) (Nat.le_refl _) (by simp only [List.length_take,List.length_drop]<;>omega) ?_))))))
  refine Qaa (Qad (V:=.slice (sla an3 j cn3 7) ((R.drop j).length) (cn3-j)) rfl (Qaf ?_))
  refine ⟨_,?_,_,R.drop j,I++[(gd R 0).item],(sla an3 j cn3 7),cn3-j,a41,c42,ol++[(⟨(gd R 0).item,QcV (R.take j)⟩:Line)],Qai (Qao (ds:=([8,11]++sq 56 37)) (by repeat (first|exact Agr.refl _ _|refine Agr.upd ?_ rfl|refine Agr.mix ?_ rfl))) rfl,hga.1,(QiF hol hga.2),(by simp only [QQ7,List.length_singleton,List.length_drop];omega),(fun w' h=>Rd.dropM (hvia w' h) j (by omega) _ (by rw [List.length_drop])),rfl,hs.take 5⟩
  (rw [List.length_drop];omega)
 replace c31:=QQ2 c31
 refine QaH (Qag (Qab (Qaa (QaI (cs:=[I7 n,.slice an6 ol.length cn6,.bool ou,.int .u32 tk]) Qcr hs 2 rfl rfl rfl (Qaa (Qcq (V:=.agg #[I7 n,.slice an6 ol.length cn6,.bool ou,.int .u32 tk]) (vs:=[I7 n,.slice an6 ol.length cn6,.bool ou,.int .u32 tk]) (cs':=[I7 n,.slice an6 ol.length cn6,.bool ou,.int .u32 tk]) Qcr.1 hs 1 rfl rfl rfl rfl rfl (QQ8 rfl) (Qat rfl (Qat rfl (Qat rfl (Qat rfl Qa9)))) (Qay rfl) fun w43 hs=>(Qaf (Qaw ?_))))))))
 refine ⟨_,QcB (cs:=[I7 n,.slice an6 ol.length cn6,.bool ou,.int .u32 tk]) Tryz.results33 Qcr hs 1 rfl rfl rfl,?_⟩
 have hV:=Qq2 c9 htk hobE hQp hgr (by omega) hol
 rw [hV]
 exact ⟨(an6,cn6),rfl,hs.only 4 rfl,trivial⟩
end Tt
end Go.Proofs
namespace Go.Proofs
open Go Go.Vx Go.RowKit
namespace Tt
theorem QeL (w:World) (s:Sta) (a1:Option Addr) (c1:Nat) (a2:Option Addr) (c2:Nat) (n:Int) (V:Vw) (hV:QaE s n (Qas s)=V) (hok:QdI s) (hle:s.ents.length<=1000) (hlt:s.ticks.length<=1000) (hr1:Rd w (.slice a1 s.ents.length c1) 7 (s.ents.map cec)) (hr2:Rd w (.slice a2 s.ticks.length c2) 2 (s.ticks.map lsc)):Calls Tryz.prog 33 #[.agg ((vc s.known)++[(.slice a1 s.ents.length c1:Value),(.slice a2 s.ticks.length c2:Value) ]).toArray,.int .u16 n] w (fun e w'=>∃ x:Option Addr × Nat,e = .returned (.agg [.int .u16 (V).cart,.slice x.1 (V).lines.length x.2,.bool (V).out,.int .u32 (V).tick].toArray)/\Own w no w' [row (.slice x.1 (V).lines.length x.2) ((V).lines.map lc) 127 2]/\True):=by
 subst hV;exact Qo2 w s a1 c1 a2 c2 n hok hle hlt hr1 hr2
end Tt
end Go.Proofs
namespace Go.Proofs
open Go Go.Vx Go.RowKit
namespace Tt
theorem Qpd (w:World) (x y:Cen):Calls Tryz.prog 150 #[.agg (cec x).toArray,.agg (cec y).toArray] w (fun e w'=>e = .returned (.bool (Qcp x y))/\Own w no w' []):=by
 refine Qaj (n:=36) Tryz.func150 rfl Tryz.ntmps150 rfl ?_
 have hs:=Own.start w
 refine Qag (Qab (Qaa (QaR (V:=.agg (cec x).toArray) (cs:=cec x) rfl rfl hs fun b1 w2 hs=>(Qaa (QaR (V:=.agg (cec y).toArray) (cs:=cec y) rfl rfl hs fun b3 w4 hs=>(Qaa (Qad (V:=.bool false) rfl (Qaf (Qag (Qag (Qab (Qaa (Qae Qed rfl (Qaa (QaF (V:=.int .u64 x.count) Qer hs 0 rfl rfl rfl (Qaa (Qae Qed rfl (Qaa (QaF (V:=.int .u64 y.count) Qer hs 1 rfl rfl rfl (Qaa (Qb7 rfl rfl (Qaf (Qan (t:=!decide (x.count=y.count)) rfl (fun c5=>?_) (fun c5=>?_))))))))))))))))))))))))
 ·
  replace c5:=Qbs c5
  replace c5:=QQ2 c5
  refine Qag (Qab (Qaa (Qae Qed rfl (Qaa (QaF (V:=.int .u64 x.count) Qer hs 0 rfl rfl rfl (Qaa (Qae Qed rfl (Qaa (QaF (V:=.int .u64 y.count) Qer hs 1 rfl rfl rfl (Qaa (QaS rfl rfl (Qaa (Qad (V:=.bool (decide (x.count<y.count))) rfl (Qaf (Qaw ?_)))))))))))))))
  refine ⟨_,Qaq (V:=.bool (decide (x.count<y.count))) Tryz.results150 rfl,(Zr hs ?_)⟩
  unfold Qcp;rw [if_neg c5]
 replace c5:=Qbd c5
 replace c5:=QQ1 c5
 refine Qap (Qag (Qag (Qab (Qaa (Qae QbN rfl (Qaa (Qae QbH rfl (Qaa (QaF (V:=.int .u8 x.dot.rep) QcJ hs 0 rfl rfl rfl (Qaa (Qae QbN rfl (Qaa (Qae QbH rfl (Qaa (QaF (V:=.int .u8 y.dot.rep) QcJ hs 1 rfl rfl rfl (Qaa (Qb7 rfl rfl (Qaf (Qan (t:=!decide (x.dot.rep=y.dot.rep)) rfl (fun c6=>?_) (fun c6=>?_))))))))))))))))))))
 ·
  replace c6:=Qbs c6
  replace c6:=QQ2 c6
  refine Qag (Qab (Qaa (Qae QbN rfl (Qaa (Qae QbH rfl (Qaa (QaF (V:=.int .u8 x.dot.rep) QcJ hs 0 rfl rfl rfl (Qaa (Qae QbN rfl (Qaa (Qae QbH rfl (Qaa (QaF (V:=.int .u8 y.dot.rep) QcJ hs 1 rfl rfl rfl (Qaa (QaS rfl rfl (Qaa (Qad (V:=.bool (decide (x.dot.rep<y.dot.rep))) rfl (Qaf (Qaw ?_)))))))))))))))))))
  refine ⟨_,Qaq (V:=.bool (decide (x.dot.rep<y.dot.rep))) Tryz.results150 rfl,(Zr hs ?_)⟩
  unfold Qcp;rw [if_pos c5,if_neg c6]
 replace c6:=Qbd c6
 replace c6:=QQ1 c6
 refine Qap (Qag (Qab (Qaa (Qae QbN rfl (Qaa (Qae QbR rfl (Qaa (QaF (V:=.int .u32 x.dot.seq) Qa8 hs 0 rfl rfl rfl (Qaa (Qae QbN rfl (Qaa (Qae QbR rfl (Qaa (QaF (V:=.int .u32 y.dot.seq) Qa8 hs 1 rfl rfl rfl (Qaa (QaS rfl rfl (Qaa (Qad (V:=.bool (decide (x.dot.seq<y.dot.seq))) rfl (Qaf (Qaw ?_))))))))))))))))))))
 refine ⟨_,Qaq (V:=.bool (decide (x.dot.seq<y.dot.seq))) Tryz.results150 rfl,(Zr hs ?_)⟩
 unfold Qcp;rw [if_pos c5,if_pos c6]
theorem QmF (w:World) (s:Sta) (a1:Option Addr) (c1:Nat) (a2:Option Addr) (c2:Nat) (c n:Int) (hE0:∀ e∈s.ents,QeM e) (hr1:Rd w (.slice a1 s.ents.length c1) 7 (s.ents.map cec)) (hr2:Rd w (.slice a2 s.ticks.length c2) 2 (s.ticks.map lsc)):Calls Tryz.prog 102 #[.agg ((vc s.known)++[(.slice a1 s.ents.length c1:Value),(.slice a2 s.ticks.length c2:Value) ]).toArray,.int .u16 c,.int .i64 n] w (fun e w'=>e = .returned (.tuple #[.int .u32 (QcV (QbE s c n)),.bool (QdO s c n)])/\Own w no w' []):=by
 refine Qaj (n:=74) Tryz.func102 rfl Tryz.ntmps102 rfl ?_
 have hs:=Own.start w
 have hn1:=hr1.sml
 refine Qag (Qab (Qaa (QaR (V:=.agg ((vc s.known)++[(.slice a1 s.ents.length c1:Value),(.slice a2 s.ticks.length c2:Value) ]).toArray) (cs:=(vc s.known)++[(.slice a1 s.ents.length c1:Value),(.slice a2 s.ticks.length c2:Value) ]) rfl rfl hs fun b1 w2 hs=>(Qaa (Qad (V:=.int .u32 0) rfl (Qaa (Qad (V:=.bool false) rfl (Qaf (Qag (Qab (Qaa (Qad (V:=.int .u32 0) rfl (Qaa (Qad (V:=I6 (-1)) rfl (Qaa (Qad (V:=.bool false) rfl (Qaf (Qag (Qag (Qab (Qaa (Qad (V:=I6 0) rfl (Qaf (Qam (QaA (fun J μ J' w'=>∃ (Jo:Env) (k:Nat) (sm:Int) (bi:Int) (av:Bool),J'=upd (upd (upd (upd (mix (sq 8 53) Jo J) 11 (I6 (k:Int))) 8 (.int .u32 sm)) 9 (I6 bi)) 10 (.bool av)/\(k<=s.ents.length)/\(sm=QfQ (ofK s c n k))/\(QeN s c n k bi)/\(av=(s.ents.take k).any (itP c n))/\μ=s.ents.length-k/\Own w no w' [blk b1 ((vc s.known)++[(.slice a1 s.ents.length c1:Value),(.slice a2 s.ticks.length c2:Value) ]) 28]) ?_ ?_)))))))))))))))))))))))))
 ·exact ⟨_,_,0,0,-1,false,Qai (Qai (Qai (Qai (Qao (ds:=(sq 8 53)) (Agr.refl _ _)) rfl) rfl) rfl) rfl,(by omega),rfl,(.inl ⟨rfl,rfl⟩),rfl,rfl,hs⟩
 rintro μ J' w3 ⟨Jo,k,sm,bi,av,rfl,hk,hsm,hbi,hav,rfl,hs⟩
 have hbb:=QpF hbi hk
 refine Qag (Qag (Qab (Qaa (Qac (V:=I6 (k:Int)) rfl (Qaa (Qae Qbv rfl (Qaa (QaF (V:=.slice a1 s.ents.length c1) QcL hs 0 rfl rfl rfl (Qaa (QaX (n:=s.ents.length) Qcv (Rd.own' hr1 hs) (by simp) rfl (Qaa (QaS rfl rfl (Qaf (Qan (t:=decide ((k:Int)<((s.ents.length:Nat):Int))) rfl (fun c4=>?_) (fun c4=>?_)))))))))))))))
 ·
  replace c4:=QQ1 c4
  refine Qap (Qag (Qam (Qag (Qab (Qaa (Qae Qbv rfl (Qaa (QaF (V:=.slice a1 s.ents.length c1) QcL hs 0 rfl rfl rfl (Qaa (Qac (V:=I6 (k:Int)) rfl (Qaa (Qax Qcv Qbp.1 (Rd.own' hr1 hs) rfl rfl (by omega) (by rw [QQ6];omega) (Qaa (QaV (j:=0) (vs:=cec (gd s.ents k)) k Qbp (Rd.own' hr1 hs) (QaW (by omega)) rfl rfl rfl (by omega) (Qaa (QaK (cs:=cec (⟨0,0,0,0,(⟨0,0⟩:Dot),0⟩:Cen)) QmP rfl hs fun b5 w6 hs=>(Qaa (Qcq (V:=.agg (cec (gd s.ents k)).toArray) (vs:=cec (gd s.ents k)) (cs':=cec (gd s.ents k)) Qbp.1 hs 1 rfl rfl rfl rfl rfl (QQ8 rfl) (Qa6 _) (Qay rfl) fun w7 hs=>(Qaf (Qag (Qag ?_)))))))))))))))))))))
  have hce:=hE0 _ (QbP (l:=s.ents) (i:=k) (by omega))
  have ⟨_,⟨hi1,hi2⟩,⟨hq1,hq2⟩,_⟩:=hce
  refine Qbm [some 25,some 26,some 27,some 28,some 29,some 30,some 31,some 32,some 33,some 34,some 35,some 36,some 37,some 38,some 39,some 40] [] [0,1,0,7,15,31,63,127,31,511,1023,2047,4095,8191,16383,32767] [pv (Pq b5 (0+0)),pv (I7 ((gd s.ents k).cart)),pv (I7 c),pv (.bool (!decide ((gd s.ents k).cart=c))),pv (.bool (!decide ((gd s.ents k).cart=c))),pg ((!decide ((gd s.ents k).cart=c)) == false) (Pq b5 (0+1)),pg ((!decide ((gd s.ents k).cart=c)) == false) (I7 ((gd s.ents k).item)),pg ((!decide ((gd s.ents k).cart=c)) == false) (I6 ((gd s.ents k).item)),pg ((!decide ((gd s.ents k).cart=c)) == false) (I6 n),pg ((!decide ((gd s.ents k).cart=c)) == false) (.bool (!decide ((gd s.ents k).item=n))),pv (.bool ((!decide ((gd s.ents k).cart=c))||(!decide ((gd s.ents k).item=n)))),pv (.bool ((!decide ((gd s.ents k).cart=c))||(!decide ((gd s.ents k).item=n)))),pg (((!decide ((gd s.ents k).cart=c))||(!decide ((gd s.ents k).item=n))) == false) (Pq b5 (0+3)),pg (((!decide ((gd s.ents k).cart=c))||(!decide ((gd s.ents k).item=n))) == false) (.int .u8 ((gd s.ents k).kind)),pg (((!decide ((gd s.ents k).cart=c))||(!decide ((gd s.ents k).item=n))) == false) (.bool (decide ((gd s.ents k).kind=4))),pv (.bool (((!decide ((gd s.ents k).cart=c))||(!decide ((gd s.ents k).item=n)))||(decide ((gd s.ents k).kind=4))))] (fun _ _=>_) [15] (by kernel_rfl) hs ⟨?_,?_,?_,?_,?_,?_,?_,?_,?_,?_,?_,?_,?_,?_,?_,?_,trivial⟩ ?_
  ·exact oa [] fun D J w hs=>Qae Qda rfl (Zz hs)
  ·exact oa [0] fun D J w hs=>QaF (V:=.int .u16 ((gd s.ents k).cart)) Qar hs 1 rfl rfl rfl (Zz hs)
  ·exact oa [] fun D J w hs=>Qac (V:=.int .u16 c) rfl (Zz hs)
  ·exact oa [1,2] fun D J w hs=>Qb7 rfl rfl (Zz hs)
  ·exact oa [3] fun D J w hs=>Qac (V:=.bool (!decide ((gd s.ents k).cart=c))) rfl (Zz hs)
  ·exact og [4] fun D J w hG hs=>Qae QfJ rfl (Zz hs)
  ·exact oy [4,5] [5] fun D J w hG hs=>QaF (V:=.int .u16 ((gd s.ents k).item)) Qar hs 1 rfl rfl rfl (Zz hs)
  ·exact oy [4,6] [6] fun D J w hG hs=>Qb4 QiZ Qh1 rfl (QbK (by omega) (by omega)) (Zz hs)
  ·exact og [4] fun D J w hG hs=>Qac (V:=.int .i64 n) rfl (Zz hs)
  ·exact oy [4,7,8] [7,8] fun D J w hG hs=>Qb7 rfl rfl (Zz hs)
  ·exact oa [4,9] fun D J w hs=>QbM (h':=!decide ((gd s.ents k).item=n)) rfl rfl rfl (Zz hs)
  ·exact oa [10] fun D J w hs=>Qac (V:=.bool ((!decide ((gd s.ents k).cart=c))||(!decide ((gd s.ents k).item=n)))) rfl (Zz hs)
  ·exact og [11] fun D J w hG hs=>Qae Qeh rfl (Zz hs)
  ·exact oy [11,12] [12] fun D J w hG hs=>QaF (V:=.int .u8 ((gd s.ents k).kind)) QcJ hs 1 rfl rfl rfl (Zz hs)
  ·exact oy [11,13] [13] fun D J w hG hs=>QaT rfl rfl (Zz hs)
  ·exact oa [11,14] fun D J w hs=>QbM (h':=decide ((gd s.ents k).kind=4)) rfl rfl rfl (Zz hs)
  rintro J1 w8 J2 hJ hs
  replace hJ:J2=upd (mix (sq 25 16) J1 _) 40 (.bool (((!decide ((gd s.ents k).cart=c))||(!decide ((gd s.ents k).item=n)))||(decide ((gd s.ents k).kind=4)))):=hJ
  subst hJ
  refine Qan (t:=((!decide ((gd s.ents k).cart=c))||(!decide ((gd s.ents k).item=n)))||(decide ((gd s.ents k).kind=4))) rfl (fun c9=>?_) (fun c9=>?_)
  ·
   refine QaH (Qab (Qaa (Qac (V:=I6 (k:Int)) rfl (Qaa (QaD (a:=(k:Int)) (b:=1) (c:=((k+1:Nat):Int)) rfl rfl (Qak (by omega) (by omega)) (Qaa (Qad (V:=I6 ((k+1:Nat):Int)) rfl (Qaf ?_))))))))
   have hit:itP c n (gd s.ents k)=false:=by
    have hq:=c9
    unfold itP
    revert hq
    cases decide ((gd s.ents k).cart=c)<;>cases decide ((gd s.ents k).item=n)<;>cases decide ((gd s.ents k).kind=4)<;>simp
   refine ⟨_,?_,_,k+1,sm,bi,av,Qai (Qai (Qai (Qai (Qao (ds:=(sq 8 53)) (by repeat (first|exact Agr.refl _ _|refine Agr.upd ?_ rfl|refine Agr.mix ?_ rfl))) rfl) rfl) rfl) rfl,(by omega),(by rw [Qp9 (by omega) hit];exact hsm),(Qmz hbi (by omega) hit),(by rw [← QcP (p:=itP c n) hav (by omega),hit,Bool.or_false]),rfl,hs.take 1⟩
   omega
  have c9r:=Qeo c9
  replace c9:=Qet c9
  have c9rr:=Qeo c9
  replace c9:=Qet c9
  replace c9:=Qbd c9
  replace c9:=QQ1 c9
  replace c9rr:=Qbd c9rr
  replace c9rr:=QQ1 c9rr
  replace c9r:=QQ2 c9r
  refine Qap (Qag (Qab (Qaa (Qad (V:=.bool true) rfl (Qaf (Qag (Qab (Qaa (Qae Qeh rfl (Qaa (QaF (V:=.int .u8 ((gd s.ents k).kind)) QcJ hs 1 rfl rfl rfl (Qaa (QaT rfl rfl (Qaf (Qan (t:=decide ((gd s.ents k).kind=1)) rfl (fun c10=>?_) (fun c10=>?_))))))))))))))))
  ·
   replace c10:=QQ1 c10
   refine Qab (Qaa (Qac (V:=.int .u32 sm) rfl (Qaa (Qae QeY rfl (Qaa (QaF (V:=I7 ((gd s.ents k).qty)) Qar hs 1 rfl rfl rfl (Qaa (Qb4 QiZ QkR rfl (Qgv (by omega) (by omega)) (Qaa (QaD (a:=sm) (b:=(gd s.ents k).qty) (c:=(sm+((gd s.ents k).qty))%4294967296) rfl rfl (Qka _) (Qaa (Qad (V:=.int .u32 ((sm+((gd s.ents k).qty))%4294967296)) rfl (Qaf (Qab (Qaa (Qac (V:=I6 (k:Int)) rfl (Qaa (QaD (a:=(k:Int)) (b:=1) (c:=((k+1:Nat):Int)) rfl rfl (Qak (by omega) (by omega)) (Qaa (Qad (V:=I6 ((k+1:Nat):Int)) rfl (Qaf ?_)))))))))))))))))))))
   have hit:itP c n (gd s.ents k)=true:=by
    unfold itP
    rw [QQ3 c9,QQ3 c9rr,QQ4 c9r];rfl
   refine ⟨_,?_,_,k+1,(sm+((gd s.ents k).qty))%4294967296,bi,true,Qai (Qai (Qai (Qai (Qao (ds:=(sq 8 53)) (by repeat (first|exact Agr.refl _ _|refine Agr.upd ?_ rfl|refine Agr.mix ?_ rfl))) rfl) rfl) rfl) rfl,(by omega),(Qrm hsm (by omega) hit c10),(QoP hbi (by omega) hit c10),(by rw [← QcP (p:=itP c n) hav (by omega),hit,Bool.or_true]),rfl,hs.take 1⟩
   omega
  replace c10:=QQ2 c10
  refine Qag (QaJ HM [some 49,some 50,some 51,some 52,some 53,some 54,some 55,some 56,some 57,some 58,some 59] [] [0,1,3,7,15,7,63,127,7,511,1023] [pv (I6 bi),pv (.bool (decide (bi<0))),pv (.bool (decide (bi<0))),pg ((decide (bi<0)) == false) (Pq b1 (0+16)),pg ((decide (bi<0)) == false) (.slice a1 s.ents.length c1),pg ((decide (bi<0)) == false) (I6 bi),pg ((decide (bi<0)) == false) (.pointer (some ⟨bkS (.slice a1 s.ents.length c1),ofS (.slice a1 s.ents.length c1)+bi.toNat*7,none⟩)),pg ((decide (bi<0)) == false) (.agg (cec (gd s.ents bi.toNat)).toArray),pg ((decide (bi<0)) == false) (.agg (cec (gd s.ents k)).toArray),pg ((decide (bi<0)) == false) (.bool (Qcp (gd s.ents bi.toNat) (gd s.ents k))),pv (.bool ((decide (bi<0))||(Qcp (gd s.ents bi.toNat) (gd s.ents k))))] (fun _ _=>_) [10] (by kernel_rfl) hs ⟨?_,?_,?_,?_,?_,?_,?_,?_,?_,?_,?_,trivial⟩ ?_)
  ·exact oa [] fun D J w hs=>Qac (V:=.int .i64 bi) rfl (Zz hs)
  ·exact oa [0] fun D J w hs=>QaS rfl rfl (Zz hs)
  ·exact oa [1] fun D J w hs=>Qac (V:=.bool (decide (bi<0))) rfl (Zz hs)
  ·exact og [2] fun D J w hG hs=>Qae Qbv rfl (Zz hs)
  ·exact oy [2,3] [3] fun D J w hG hs=>QaF (V:=.slice a1 s.ents.length c1) QcL hs 0 rfl rfl rfl (Zz hs)
  ·exact og [2] fun D J w hG hs=>Qac (V:=.int .i64 bi) rfl (Zz hs)
  ·refine oy [2,4,5] [4,5] fun D J w hG hs=>?_
   have hgd:=QQ2 (eq_of_beq (hG))
   exact Qax Qcv Qbp.1 (Rd.own' hr1 hs) rfl rfl (by omega) (by rw [QQ6];omega) (Zz hs)
  ·refine oy [2,6] [6] fun D J w hG hs=>?_
   have hgd:=QQ2 (eq_of_beq (hG))
   exact QaV (j:=0) (vs:=cec (gd s.ents bi.toNat)) bi.toNat Qbp (Rd.own' hr1 hs) (QaW (by omega)) rfl rfl rfl (by omega) (Zz hs)
  ·exact og [2] fun D J w hG hs=>QaI (cs:=cec (gd s.ents k)) Qbp hs 1 rfl rfl rfl (Zz hs)
  ·exact oy [2,7,8] [7,8] fun D J w hG hs=>Qau (vs:=[.agg (cec (gd s.ents bi.toNat)).toArray,.agg (cec (gd s.ents k)).toArray]) (V:=.bool (Qcp (gd s.ents bi.toNat) (gd s.ents k))) QsL rfl rfl (Qpd _ (gd s.ents bi.toNat) (gd s.ents k)) hs fun _ hs=>Zz hs
  ·exact oa [2,9] fun D J w hs=>QbM (h':=Qcp (gd s.ents bi.toNat) (gd s.ents k)) rfl rfl rfl (Zz hs)
  rintro J1 w12 J2 hJ hs
  replace hJ:J2=upd (mix (sq 49 11) J1 _) 59 (.bool ((decide (bi<0))||(Qcp (gd s.ents bi.toNat) (gd s.ents k)))):=hJ
  subst hJ
  refine Qan (t:=(decide (bi<0))||(Qcp (gd s.ents bi.toNat) (gd s.ents k))) rfl (fun c13=>?_) (fun c13=>?_)
  ·
   refine Qab (Qaa (Qac (V:=I6 (k:Int)) rfl (Qaa (Qad (V:=I6 (k:Int)) rfl (Qaf (Qab (Qaa (Qac (V:=I6 (k:Int)) rfl (Qaa (QaD (a:=(k:Int)) (b:=1) (c:=((k+1:Nat):Int)) rfl rfl (Qak (by omega) (by omega)) (Qaa (Qad (V:=I6 ((k+1:Nat):Int)) rfl (Qaf ?_)))))))))))))
   have hit:itP c n (gd s.ents k)=true:=by
    unfold itP
    rw [QQ3 c9,QQ3 c9rr,QQ4 c9r];rfl
   refine ⟨_,?_,_,k+1,sm,(k:Int),true,Qai (Qai (Qai (Qai (Qao (ds:=(sq 8 53)) (by repeat (first|exact Agr.refl _ _|refine Agr.upd ?_ rfl|refine Agr.mix ?_ rfl))) rfl) rfl) rfl) rfl,(by omega),(QpK hsm (by omega) hit c10),(Qm7 hbi (by omega) hit c10 c13),(by rw [← QcP (p:=itP c n) hav (by omega),hit,Bool.or_true]),rfl,hs.take 1⟩
   omega
  have c13r:=Qeo c13
  replace c13:=Qet c13
  replace c13:=QQ2 c13
  refine Qap (Qab (Qaa (Qac (V:=I6 (k:Int)) rfl (Qaa (QaD (a:=(k:Int)) (b:=1) (c:=((k+1:Nat):Int)) rfl rfl (Qak (by omega) (by omega)) (Qaa (Qad (V:=I6 ((k+1:Nat):Int)) rfl (Qaf ?_))))))))
  have hit:itP c n (gd s.ents k)=true:=by
   unfold itP
   rw [QQ3 c9,QQ3 c9rr,QQ4 c9r];rfl
  refine ⟨_,?_,_,k+1,sm,bi,true,Qai (Qai (Qai (Qai (Qao (ds:=(sq 8 53)) (by repeat (first|exact Agr.refl _ _|refine Agr.upd ?_ rfl|refine Agr.mix ?_ rfl))) rfl) rfl) rfl) rfl,(by omega),(QpK hsm (by omega) hit c10),(QmQ hbi (by omega) hit c10 (by rw [QQ4 c13,c13r];rfl)),(by rw [← QcP (p:=itP c n) hav (by omega),hit,Bool.or_true]),rfl,hs.take 1⟩
  omega
 replace c4:=QQ2 c4
 refine QaH (Qag (Qag ?_))
 have hbb:=QpF hbi hk
 refine Qab (Qaa (Qac (V:=I6 bi) rfl (Qaa (QcC rfl rfl (Qaf (Qan (t:=decide (0<=bi)) rfl (fun c14=>?_) (fun c14=>?_)))))))
 ·
  replace c14:=QQ1 c14
  have ⟨hq1,hq2⟩:=(hE0 _ (QbP (l:=s.ents) (i:=bi.toNat) (by omega))).2.2.1
  refine Qab (Qaa (Qac (V:=.int .u32 sm) rfl (Qaa (Qae Qbv rfl (Qaa (QaF (V:=.slice a1 s.ents.length c1) QcL hs 0 rfl rfl rfl (Qaa (Qac (V:=I6 bi) rfl (Qaa (Qax Qcv Qbp.1 (Rd.own' hr1 hs) rfl rfl (by omega) (by rw [QQ6];omega) (Qaa (Qae QeY rfl (Qaa (QaU (j:=2) (V:=I7 ((gd s.ents bi.toNat).qty)) bi.toNat Qar (Rd.own' hr1 hs) (QaW (by omega)) rfl rfl (by omega) (Qaa (Qb4 QiZ QkR rfl (Qgv (by omega) (by omega)) (Qaa (QaD (a:=sm) (b:=(gd s.ents bi.toNat).qty) (c:=(sm+((gd s.ents bi.toNat).qty))%4294967296) rfl rfl (Qka _) (Qaa (Qad (V:=.int .u32 ((sm+((gd s.ents bi.toNat).qty))%4294967296)) rfl (Qaf (Qag (Qab (Qaa (Qac (V:=.int .u32 ((sm+((gd s.ents bi.toNat).qty))%4294967296)) rfl (Qaa (Qac (V:=.bool av) rfl (Qaa (Qad (V:=.int .u32 ((sm+((gd s.ents bi.toNat).qty))%4294967296)) rfl (Qaa (Qad (V:=.bool av) rfl (Qaf (Qaw ?_)))))))))))))))))))))))))))))))))
  refine ⟨_,Qbw (U:=.int .u32 ((sm+((gd s.ents bi.toNat).qty))%4294967296)) (V:=.bool av) Tryz.results102 rfl rfl,?_⟩
  have hA:av=QdO s c n:=by rw [hav,List.take_of_length_le (by omega)];rfl
  have hQ:=Qpm hsm hbi (by omega) c14
  refine Zr hs ?_
  rw [hQ,hA]
 replace c14:=QQ2 c14
 refine Qap (Qag (Qab (Qaa (Qac (V:=.int .u32 sm) rfl (Qaa (Qac (V:=.bool av) rfl (Qaa (Qad (V:=.int .u32 sm) rfl (Qaa (Qad (V:=.bool av) rfl (Qaf (Qaw ?_))))))))))))
 refine ⟨_,Qbw (U:=.int .u32 sm) (V:=.bool av) Tryz.results102 rfl rfl,?_⟩
 have hA:av=QdO s c n:=by rw [hav,List.take_of_length_le (by omega)];rfl
 have hQ:=QnR hE0 hsm hbi (by omega) c14
 refine Zr hs ?_
 rw [hQ,hA]
end Tt
end Go.Proofs
namespace Go.Proofs
open Go Go.Vx Go.RowKit
namespace Tt
theorem Qne (w:World) (s:Sta) (a1:Option Addr) (c1:Nat) (a2:Option Addr) (c2:Nat) (c:Int) (hok:QdI s) (hr1:Rd w (.slice a1 s.ents.length c1) 7 (s.ents.map cec)) (hr2:Rd w (.slice a2 s.ticks.length c2) 2 (s.ticks.map lsc)):Calls Tryz.prog 58 #[.agg ((vc s.known)++[(.slice a1 s.ents.length c1:Value),(.slice a2 s.ticks.length c2:Value) ]).toArray,.int .u16 c] w (fun e w'=>∃ x:Option Addr × Nat,e = .returned (.agg [.int .u16 (QaE s c (Qas s)).cart,.slice x.1 (QaE s c (Qas s)).lines.length x.2,.bool (QaE s c (Qas s)).out,.int .u32 (QaE s c (Qas s)).tick].toArray)/\Own w no w' [row (.slice x.1 (QaE s c (Qas s)).lines.length x.2) ((QaE s c (Qas s)).lines.map lc) 127 2]/\True):=by
 refine Qaj (n:=118) Tryz.func58 rfl Tryz.ntmps58 rfl ?_
 have hs:=Own.start w
 have ⟨hv0,hE0,hT0⟩:=hok
 have hn1:=hr1.sml
 refine Qag (Qab (Qaa (QaR (V:=.agg ((vc s.known)++[(.slice a1 s.ents.length c1:Value),(.slice a2 s.ticks.length c2:Value) ]).toArray) (cs:=(vc s.known)++[(.slice a1 s.ents.length c1:Value),(.slice a2 s.ticks.length c2:Value) ]) rfl rfl hs fun b1 w2 hs=>(Qaa (QaK (cs:=[I7 0,.slice none 0 0,.bool false,.int .u32 0]) Qgl rfl hs fun b3 w4 hs=>(Qaf (Qag (Qab (Qaa (Qac (V:=I7 c) rfl (Qaa (Qby (vs:=[(0,I7 c)]) (cs:=[I7 c,.slice none 0 0,.bool false,.int .u32 0]) Qo4 (rfl) rfl (Qaa (QaK (cs:=[I7 0,.slice none 0 0,.bool false,.int .u32 0]) Qgl rfl hs fun b5 w6 hs=>(Qaa (Qcq (V:=.agg #[I7 c,.slice none 0 0,.bool false,.int .u32 0]) (vs:=[I7 c,.slice none 0 0,.bool false,.int .u32 0]) (cs':=[I7 c,.slice none 0 0,.bool false,.int .u32 0]) Qcr.1 hs 2 rfl rfl rfl rfl rfl (QQ8 rfl) (Qat rfl (Qat rfl (Qat rfl (Qat rfl Qa9)))) (Qay rfl) fun w7 hs=>?_))))))))))))))))
 replace hs:Own w no w7 [blk b1 ((vc s.known)++[(.slice a1 s.ents.length c1:Value),(.slice a2 s.ticks.length c2:Value) ]) 28,blk b3 [I7 0,.slice none 0 0,.bool false,.int .u32 0] 49,blk b5 [I7 c,.slice none 0 0,.bool false,.int .u32 0] 49]:=hs
 refine Qaf (Qag (Qag (Qab (Qaa (QaI (cs:=(vc s.known)++[(.slice a1 s.ents.length c1:Value),(.slice a2 s.ticks.length c2:Value) ]) Qdj hs 0 rfl rfl rfl (Qaa (Qau (vs:=[.agg ((vc s.known)++[(.slice a1 s.ents.length c1:Value),(.slice a2 s.ticks.length c2:Value) ]).toArray]) (V:=.bool (Qas s)) Qp1 rfl rfl ?hc hs fun w8 hs=>?_)))))))
 case hc=>exact (Qhj _ s a1 c1 a2 c2 hok (Rd.own' hr1 hs) (Rd.own' hr2 hs))
 refine Qaa (Qbx rfl (Qaf (Qan (t:=!(Qas s)) rfl (fun c9=>?_) (fun c9=>?_))))
 ·
  replace c9:=Qbs c9
  refine Qag (Qab (Qaa (QaI (cs:=[I7 c,.slice none 0 0,.bool false,.int .u32 0]) Qcr hs 2 rfl rfl rfl (Qaa (Qcq (V:=.agg #[I7 c,.slice none 0 0,.bool false,.int .u32 0]) (vs:=[I7 c,.slice none 0 0,.bool false,.int .u32 0]) (cs':=[I7 c,.slice none 0 0,.bool false,.int .u32 0]) Qcr.1 hs 1 rfl rfl rfl rfl rfl (QQ8 rfl) (Qat rfl (Qat rfl (Qat rfl (Qat rfl Qa9)))) (Qay rfl) fun w10 hs=>(Qaf (Qaw ?_)))))))
  refine ⟨_,QcB (cs:=[I7 c,.slice none 0 0,.bool false,.int .u32 0]) Tryz.results58 Qcr hs 1 rfl rfl rfl,?_⟩
  rw [c9]
  exact ⟨(none,0),rfl,(hs.take 0).more _ (Qbo _ _ 127 2),trivial⟩
 replace c9:=Qbd c9
 refine Qap (Qag (Qab (Qaa (QaI (cs:=(vc s.known)++[(.slice a1 s.ents.length c1:Value),(.slice a2 s.ticks.length c2:Value) ]) Qdj hs 0 rfl rfl rfl (Qaa (Qac (V:=I7 c) rfl (Qaa (Qau (vs:=[.agg ((vc s.known)++[(.slice a1 s.ents.length c1:Value),(.slice a2 s.ticks.length c2:Value) ]).toArray,I7 c]) (V:=.tuple #[.int .u32 ((QaC s.ticks c).getD 0),.bool ((QaC s.ticks c).isSome)]) QpS rfl rfl ?hc hs fun w11 hs=>?_))))))))
 case hc=>exact (QjI _ s a1 c1 a2 c2 c (Rd.own' hr1 hs) (Rd.own' hr2 hs))
 refine Qaa (Qac (V:=.tuple #[.int .u32 ((QaC s.ticks c).getD 0),.bool ((QaC s.ticks c).isSome)]) rfl (Qaa (Qaz (V:=.int .u32 ((QaC s.ticks c).getD 0)) rfl rfl (Qaa (Qaz (V:=.bool ((QaC s.ticks c).isSome)) rfl rfl (Qaa (Qad (V:=.int .u32 ((QaC s.ticks c).getD 0)) rfl (Qaa (Qad (V:=.bool ((QaC s.ticks c).isSome)) rfl (Qaf (Qag (Qab (Qaa (Qac (V:=.int .u32 ((QaC s.ticks c).getD 0)) rfl (Qaa (Qae Qga rfl (Qaa (QcR (V:=.int .u32 ((QaC s.ticks c).getD 0)) (cs':=[I7 c,.slice none 0 0,.bool false,.int .u32 ((QaC s.ticks c).getD 0)]) Qa8 hs 2 rfl rfl rfl rfl (QQ8 rfl) rfl fun w12 hs=>(Qaf (Qag (Qag (Qab (Qaa (Qad (V:=I6 0) rfl (Qaf (Qam (QaA (fun J μ J' w'=>∃ (Jo:Env) (k:Nat) (ou:Bool),J'=upd (mix ([8]++sq 32 29) Jo J) 8 (I6 (k:Int))/\(k<=s.ents.length)/\(ou=(s.ents.take k).any (fun e:Cen=>decide (e.cart=c)&&decide (e.kind=4)))/\μ=s.ents.length-k/\Own w no w' [blk b1 ((vc s.known)++[(.slice a1 s.ents.length c1:Value),(.slice a2 s.ticks.length c2:Value) ]) 28,blk b3 [I7 0,.slice none 0 0,.bool false,.int .u32 0] 49,blk b5 [I7 c,.slice none 0 0,.bool ou,.int .u32 ((QaC s.ticks c).getD 0)] 49]) ?_ ?_)))))))))))))))))))))))))))
 ·exact ⟨_,_,0,false,Qai (Qao (ds:=([8]++sq 32 29)) (Agr.refl _ _)) rfl,(by omega),rfl,rfl,hs⟩
 rintro μ J' w13 ⟨Jo,k,ou,rfl,hk,hob,rfl,hs⟩
 refine Qag (Qag (Qab (Qaa (Qac (V:=I6 (k:Int)) rfl (Qaa (Qae Qbv rfl (Qaa (QaF (V:=.slice a1 s.ents.length c1) QcL hs 0 rfl rfl rfl (Qaa (QaX (n:=s.ents.length) Qcv (Rd.own' hr1 hs) (by simp) rfl (Qaa (QaS rfl rfl (Qaf (Qan (t:=decide ((k:Int)<((s.ents.length:Nat):Int))) rfl (fun c14=>?_) (fun c14=>?_)))))))))))))))
 ·
  replace c14:=QQ1 c14
  refine Qap (Qag (Qam (Qbm [some 39,some 40,some 41,some 42,some 43,some 44,some 45,some 46,some 47,some 48,some 49,some 50,some 51,some 52,some 53,some 54,some 55,some 56,some 57,some 58,some 59,some 60,none] [] [0,1,3,7,15,7,63,127,255,7,1023,2047,4095,8191,4095,32767,65535,131071,262143,524287,1048575,2097151,4194303] [pv (Pq b5 (0+2)),pv (.bool ou),pv (.bool ou),pg (ou == false) (Pq b1 (0+16)),pg (ou == false) (.slice a1 s.ents.length c1),pg (ou == false) (I6 (k:Int)),pg (ou == false) (.pointer (some ⟨bkS (.slice a1 s.ents.length c1),ofS (.slice a1 s.ents.length c1)+(k:Int).toNat*7,none⟩)),pg (ou == false) (.pointer (some ⟨bkS (.slice a1 s.ents.length c1),ofS (.slice a1 s.ents.length c1)+(k:Int).toNat*7+0,none⟩)),pg (ou == false) (I7 ((gd s.ents k).cart)),pg (ou == false) (I7 c),pg (ou == false) (.bool (decide ((gd s.ents k).cart=c))),pg (ou == false) (.bool (decide ((gd s.ents k).cart=c))),pg ((ou == false)&&((decide ((gd s.ents k).cart=c)) == true)) (Pq b1 (0+16)),pg ((ou == false)&&((decide ((gd s.ents k).cart=c)) == true)) (.slice a1 s.ents.length c1),pg ((ou == false)&&((decide ((gd s.ents k).cart=c)) == true)) (I6 (k:Int)),pg ((ou == false)&&((decide ((gd s.ents k).cart=c)) == true)) (.pointer (some ⟨bkS (.slice a1 s.ents.length c1),ofS (.slice a1 s.ents.length c1)+(k:Int).toNat*7,none⟩)),pg ((ou == false)&&((decide ((gd s.ents k).cart=c)) == true)) (.pointer (some ⟨bkS (.slice a1 s.ents.length c1),ofS (.slice a1 s.ents.length c1)+(k:Int).toNat*7+3,none⟩)),pg ((ou == false)&&((decide ((gd s.ents k).cart=c)) == true)) (.int .u8 ((gd s.ents k).kind)),pg ((ou == false)&&((decide ((gd s.ents k).cart=c)) == true)) (.bool (decide ((gd s.ents k).kind=4))),pg (ou == false) (.bool ((decide ((gd s.ents k).cart=c))&&(decide ((gd s.ents k).kind=4)))),pv (.bool (ou||((decide ((gd s.ents k).cart=c))&&(decide ((gd s.ents k).kind=4))))),pv (Pq b5 (0+2)),pn] (fun D J=>[blk b1 ((vc s.known)++[(.slice a1 s.ents.length c1:Value),(.slice a2 s.ticks.length c2:Value) ]) 28,blk b3 [I7 0,.slice none 0 0,.bool false,.int .u32 0] 49,cond (D 22) (blk b5 [I7 c,.slice none 0 0,.bool (ou||((decide ((gd s.ents k).cart=c))&&(decide ((gd s.ents k).kind=4)))),.int .u32 ((QaC s.ticks c).getD 0)] 49) (blk b5 [I7 c,.slice none 0 0,.bool ou,.int .u32 ((QaC s.ticks c).getD 0)] 49)]) [] (by kernel_rfl) hs ⟨?_,?_,?_,?_,?_,?_,?_,?_,?_,?_,?_,?_,?_,?_,?_,?_,?_,?_,?_,?_,?_,?_,?_,trivial⟩ ?_)))
  ·exact oa [] fun D J w hs=>Qae Qdi rfl (Zz hs)
  ·exact ob [0] [22] rfl rfl fun D J w hs=>QaF (V:=.bool ou) Qnt hs 2 rfl rfl rfl (Zz hs)
  ·exact oa [1] fun D J w hs=>Qac (V:=.bool ou) rfl (Zz hs)
  ·exact og [2] fun D J w hG hs=>Qae Qbv rfl (Zz hs)
  ·exact oy [2,3] [3] fun D J w hG hs=>QaF (V:=.slice a1 s.ents.length c1) QcL hs 0 rfl rfl rfl (Zz hs)
  ·exact og [2] fun D J w hG hs=>Qac (V:=.int .i64 (k:Int)) rfl (Zz hs)
  ·exact oy [2,4,5] [4,5] fun D J w hG hs=>Qax Qcv Qbp.1 (Rd.own' hr1 hs) rfl rfl (by omega) (by rw [QQ6];omega) (Zz hs)
  ·exact oy [2,6] [6] fun D J w hG hs=>Qae Qda rfl (Zz hs)
  ·exact oy [2,7] [7] fun D J w hG hs=>QaU (j:=0) (V:=.int .u16 ((gd s.ents k).cart)) k Qar (Rd.own' hr1 hs) (QaW (by omega)) rfl rfl (by omega) (Zz hs)
  ·exact og [2] fun D J w hG hs=>Qac (V:=.int .u16 c) rfl (Zz hs)
  ·exact oy [2,8,9] [8,9] fun D J w hG hs=>QaT rfl rfl (Zz hs)
  ·exact oy [2,10] [10] fun D J w hG hs=>Qac (V:=.bool (decide ((gd s.ents k).cart=c))) rfl (Zz hs)
  ·exact og [11] fun D J w hG hs=>Qae Qbv rfl (Zz hs)
  ·exact oy [11,12] [12] fun D J w hG hs=>QaF (V:=.slice a1 s.ents.length c1) QcL hs 0 rfl rfl rfl (Zz hs)
  ·exact og [11] fun D J w hG hs=>Qac (V:=.int .i64 (k:Int)) rfl (Zz hs)
  ·refine oy [11,13,14] [13,14] fun D J w hG hs=>?_
   have hgd1:=QQ1 (eq_of_beq (QbG (hG)))
   exact Qax Qcv Qbp.1 (Rd.own' hr1 hs) rfl rfl (by omega) (by rw [QQ6];omega) (Zz hs)
  ·exact oy [11,15] [15] fun D J w hG hs=>Qae Qeh rfl (Zz hs)
  ·refine oy [11,16] [16] fun D J w hG hs=>?_
   have hgd1:=QQ1 (eq_of_beq (QbG (hG)))
   exact QaU (j:=3) (V:=.int .u8 ((gd s.ents k).kind)) k QcJ (Rd.own' hr1 hs) (QaW (by omega)) rfl rfl (by omega) (Zz hs)
  ·exact oy [11,17] [17] fun D J w hG hs=>QaT rfl rfl (Zz hs)
  ·exact oy [2,11,18] [11] fun D J w hG hs=>QfY (h':=decide ((gd s.ents k).kind=4)) (G:=(ou == false)) hG rfl rfl rfl (Zz hs)
  ·exact oa [2,19] fun D J w hs=>QbM (h':=(decide ((gd s.ents k).cart=c))&&(decide ((gd s.ents k).kind=4))) rfl rfl rfl (Zz hs)
  ·exact oa [] fun D J w hs=>Qae Qdi rfl (Zz hs)
  ·exact oa [20,21] fun D J w hs=>QcR (V:=.bool (ou||((decide ((gd s.ents k).cart=c))&&(decide ((gd s.ents k).kind=4))))) (cs':=[.int .u16 c,.slice none 0 0,.bool (ou||((decide ((gd s.ents k).cart=c))&&(decide ((gd s.ents k).kind=4)))),.int .u32 ((QaC s.ticks c).getD 0)]) Qnt hs 2 rfl rfl rfl rfl (QQ8 rfl) rfl fun _ hs=>⟨trivial,hs⟩
  rintro J1 w16 J2 hJ hs
  replace hJ:J2=mix (sq 39 22) J1 _:=hJ
  replace hs:Own w no w16 [blk b1 ((vc s.known)++[(.slice a1 s.ents.length c1:Value),(.slice a2 s.ticks.length c2:Value) ]) 28,blk b3 [I7 0,.slice none 0 0,.bool false,.int .u32 0] 49,blk b5 [I7 c,.slice none 0 0,.bool (ou||((decide ((gd s.ents k).cart=c))&&(decide ((gd s.ents k).kind=4)))),.int .u32 ((QaC s.ticks c).getD 0)] 49]:=hs
  subst hJ
  refine Qab (Qaa (Qac (V:=I6 (k:Int)) rfl (Qaa (QaD (a:=(k:Int)) (b:=1) (c:=((k+1:Nat):Int)) rfl rfl (Qak (by omega) (by omega)) (Qaa (Qad (V:=I6 ((k+1:Nat):Int)) rfl (Qaf ?_)))))))
  refine ⟨_,?_,_,k+1,ou||((decide ((gd s.ents k).cart=c))&&(decide ((gd s.ents k).kind=4))),Qai (Qao (ds:=([8]++sq 32 29)) (by repeat (first|exact Agr.refl _ _|refine Agr.upd ?_ rfl|refine Agr.mix ?_ rfl))) rfl,(by omega),(QcP (p:=(fun e:Cen=>decide (e.cart=c)&&decide (e.kind=4))) hob (by omega)),rfl,hs.take 3⟩
  omega
 replace c14:=QQ2 c14
 refine QaH (Qag (Qab (Qaa (Qad (V:=.slice none 0 0) rfl (Qaf (Qag (Qab (Qaa (Qad (V:=I6 (-1)) rfl (Qaf (Qam ?_)))))))))))
 replace hs:=hs.more (row (.slice none 0 0) (List.map lc []) 127 2) (Qbo _ _ _ _)
 rw [Qck (by omega)] at hob
 have hc0:∀ x∈Qdh s c s.ents.length,0<=x/\x<65536:=fun x hx=>by
  obtain ⟨e,he,e2⟩:=List.mem_map.1 (List.mem_filter.1 hx).1
  rw [← e2];exact (hE0 e (List.mem_of_mem_take he)).2.1
 have hc1:∀ x∈Qdh s c s.ents.length,0<=x:=fun x hx=>(hc0 x hx).1
 refine QaA (fun J μ J' w'=>∃ (Jo:Env) (last:Int) (I:List Int) (an6:Option Addr) (cn6:Nat) (ol:List Line),J'=upd (upd (mix (sq 9 9++sq 61 57) Jo J) 10 (I6 last)) 9 (.slice an6 ol.length cn6)/\(-1<=last/\last<65536)/\(((ol.length:Nat):Int)<=last+1)/\(UpTo (Qdh s c s.ents.length) last I)/\(ol=I.map (QgO s c))/\μ=(65536-last).toNat/\Own w no w' [blk b1 ((vc s.known)++[(.slice a1 s.ents.length c1:Value),(.slice a2 s.ticks.length c2:Value) ]) 28,blk b3 [I7 0,.slice none 0 0,.bool false,.int .u32 0] 49,blk b5 [I7 c,.slice none 0 0,.bool ou,.int .u32 ((QaC s.ticks c).getD 0)] 49,row (.slice an6 ol.length cn6) (ol.map lc) 127 2]) ?_ ?_
 ·exact ⟨_,_,-1,[],none,0,[],Qai (Qai (Qao (ds:=(sq 9 9++sq 61 57)) (Agr.refl _ _)) rfl) rfl,(by omega),(by simp),(Qn0 hc1),rfl,rfl,hs⟩
 rintro μ J' w17 ⟨Jo,last,I,an6,cn6,ol,rfl,hla,hll,hup,hol,rfl,hs⟩
 refine Qam (Qag (Qab (Qaa (Qad (V:=I6 (-1)) rfl (Qaf (Qag (Qag (Qab (Qaa (Qad (V:=I6 0) rfl (Qaf (Qam (QaA (fun J μ J' w'=>∃ (Jo:Env) (k3:Nat) (nx:Int),J'=upd (upd (mix ([11,12,13,14,15]++sq 61 37) Jo J) 12 (I6 (k3:Int))) 11 (I6 nx)/\(k3<=s.ents.length)/\(nx=QcH last (Qdh s c k3))/\(-1<=nx/\nx<65536)/\μ=s.ents.length-k3/\Own w no w' [blk b1 ((vc s.known)++[(.slice a1 s.ents.length c1:Value),(.slice a2 s.ticks.length c2:Value) ]) 28,blk b3 [I7 0,.slice none 0 0,.bool false,.int .u32 0] 49,blk b5 [I7 c,.slice none 0 0,.bool ou,.int .u32 ((QaC s.ticks c).getD 0)] 49,row (.slice an6 ol.length cn6) (ol.map lc) 127 2]) ?_ ?_)))))))))))))
 ·exact ⟨_,_,0,-1,Qai (Qai (Qao (ds:=([11,12,13,14,15]++sq 61 37)) (Agr.refl _ _)) rfl) rfl,(by omega),rfl,(by omega),rfl,hs⟩
 rintro μ J' w18 ⟨Jo,k3,nx,rfl,hk3,hmin,hnx,rfl,hs⟩
 refine Qag (Qag (Qab (Qaa (Qac (V:=I6 (k3:Int)) rfl (Qaa (Qae Qbv rfl (Qaa (QaF (V:=.slice a1 s.ents.length c1) QcL hs 0 rfl rfl rfl (Qaa (QaX (n:=s.ents.length) Qcv (Rd.own' hr1 hs) (by simp) rfl (Qaa (QaS rfl rfl (Qaf (Qan (t:=decide ((k3:Int)<((s.ents.length:Nat):Int))) rfl (fun c19=>?_) (fun c19=>?_)))))))))))))))
 ·
  replace c19:=QQ1 c19
  refine Qap (Qag (Qam (Qag ?_)))
  have ⟨_,⟨hi1,hi2⟩,_⟩:=hE0 _ (QbP (l:=s.ents) (i:=k3) (by omega))
  refine Qab (Qaa (Qae Qbv rfl (Qaa (QaF (V:=.slice a1 s.ents.length c1) QcL hs 0 rfl rfl rfl (Qaa (Qac (V:=I6 (k3:Int)) rfl (Qaa (Qax Qcv Qbp.1 (Rd.own' hr1 hs) rfl rfl (by omega) (by rw [QQ6];omega) (Qaa (Qae QfJ rfl (Qaa (QaU (j:=1) (V:=I7 ((gd s.ents k3).item)) k3 Qar (Rd.own' hr1 hs) (QaW (by omega)) rfl rfl (by omega) (Qaa (Qb4 QiZ Qh1 rfl (QbK (by omega) (by omega)) (Qaa (Qad (V:=I6 ((gd s.ents k3).item)) rfl (Qaf (Qag (Qab (Qaa (QaI (cs:=(vc s.known)++[(.slice a1 s.ents.length c1:Value),(.slice a2 s.ticks.length c2:Value) ]) Qdj hs 0 rfl rfl rfl (Qaa (Qac (V:=I7 c) rfl (Qaa (Qac (V:=I6 ((gd s.ents k3).item)) rfl (Qaa (Qau (vs:=[.agg ((vc s.known)++[(.slice a1 s.ents.length c1:Value),(.slice a2 s.ticks.length c2:Value) ]).toArray,I7 c,I6 ((gd s.ents k3).item)]) (V:=.tuple #[.int .u32 (QcV (QbE s c ((gd s.ents k3).item))),.bool (QdO s c ((gd s.ents k3).item))]) Qqb rfl rfl ?hc hs fun w20 hs=>?_)))))))))))))))))))))))))))
  case hc=>exact (QmF _ s a1 c1 a2 c2 c ((gd s.ents k3).item) hE0 (Rd.own' hr1 hs) (Rd.own' hr2 hs))
  refine Qaa (Qac (V:=.tuple #[.int .u32 (QcV (QbE s c ((gd s.ents k3).item))),.bool (QdO s c ((gd s.ents k3).item))]) rfl (Qaa (Qaz (V:=.int .u32 (QcV (QbE s c ((gd s.ents k3).item)))) rfl rfl (Qaa (Qaz (V:=.bool (QdO s c ((gd s.ents k3).item))) rfl rfl (Qaa (Qad (V:=.int .u32 (QcV (QbE s c ((gd s.ents k3).item)))) rfl (Qaa (Qad (V:=.bool (QdO s c ((gd s.ents k3).item))) rfl (Qaf (Qag (Qbm [some 82,some 83,some 84,some 85,some 86,some 87,some 88,some 89,some 90,some 91,some 92,some 93,some 94,some 95,some 96] [] [0,1,3,3,15,31,63,127,255,511,1023,1023,4095,8191,16383] [pv (.bool (QdO s c ((gd s.ents k3).item))),pv (.bool (QdO s c ((gd s.ents k3).item))),pg ((QdO s c ((gd s.ents k3).item)) == true) (I6 ((gd s.ents k3).item)),pg ((QdO s c ((gd s.ents k3).item)) == true) (I6 last),pg ((QdO s c ((gd s.ents k3).item)) == true) (.bool (decide (last<(gd s.ents k3).item))),pv (.bool ((QdO s c ((gd s.ents k3).item))&&(decide (last<(gd s.ents k3).item)))),pv (.bool ((QdO s c ((gd s.ents k3).item))&&(decide (last<(gd s.ents k3).item)))),pg (((QdO s c ((gd s.ents k3).item))&&(decide (last<(gd s.ents k3).item))) == true) (I6 nx),pg (((QdO s c ((gd s.ents k3).item))&&(decide (last<(gd s.ents k3).item))) == true) (.bool (decide (nx<0))),pg (((QdO s c ((gd s.ents k3).item))&&(decide (last<(gd s.ents k3).item))) == true) (.bool (decide (nx<0))),pg ((((QdO s c ((gd s.ents k3).item))&&(decide (last<(gd s.ents k3).item))) == true)&&((decide (nx<0)) == false)) (I6 ((gd s.ents k3).item)),pg ((((QdO s c ((gd s.ents k3).item))&&(decide (last<(gd s.ents k3).item))) == true)&&((decide (nx<0)) == false)) (I6 nx),pg ((((QdO s c ((gd s.ents k3).item))&&(decide (last<(gd s.ents k3).item))) == true)&&((decide (nx<0)) == false)) (.bool (decide ((gd s.ents k3).item<nx))),pg (((QdO s c ((gd s.ents k3).item))&&(decide (last<(gd s.ents k3).item))) == true) (.bool ((decide (nx<0))||(decide ((gd s.ents k3).item<nx)))),pv (.bool (((QdO s c ((gd s.ents k3).item))&&(decide (last<(gd s.ents k3).item)))&&((decide (nx<0))||(decide ((gd s.ents k3).item<nx)))))] (fun _ _=>_) [14] (by kernel_rfl) hs ⟨?_,?_,?_,?_,?_,?_,?_,?_,?_,?_,?_,?_,?_,?_,?_,trivial⟩ ?_))))))))))))
  ·exact oa [] fun D J w hs=>Qac (V:=.bool (QdO s c ((gd s.ents k3).item))) rfl (Zz hs)
  ·exact oa [0] fun D J w hs=>Qac (V:=.bool (QdO s c ((gd s.ents k3).item))) rfl (Zz hs)
  ·exact og [1] fun D J w hG hs=>Qac (V:=.int .i64 ((gd s.ents k3).item)) rfl (Zz hs)
  ·exact og [1] fun D J w hG hs=>Qac (V:=.int .i64 last) rfl (Zz hs)
  ·exact oy [1,2,3] [2,3] fun D J w hG hs=>QbW rfl rfl (Zz hs)
  ·exact oa [1,4] fun D J w hs=>Qa7 (h':=decide (last<(gd s.ents k3).item)) rfl rfl rfl (Zz hs)
  ·exact oa [5] fun D J w hs=>Qac (V:=.bool ((QdO s c ((gd s.ents k3).item))&&(decide (last<(gd s.ents k3).item)))) rfl (Zz hs)
  ·exact og [6] fun D J w hG hs=>Qac (V:=.int .i64 nx) rfl (Zz hs)
  ·exact oy [6,7] [7] fun D J w hG hs=>QaS rfl rfl (Zz hs)
  ·exact oy [6,8] [8] fun D J w hG hs=>Qac (V:=.bool (decide (nx<0))) rfl (Zz hs)
  ·exact og [9] fun D J w hG hs=>Qac (V:=.int .i64 ((gd s.ents k3).item)) rfl (Zz hs)
  ·exact og [9] fun D J w hG hs=>Qac (V:=.int .i64 nx) rfl (Zz hs)
  ·exact oy [9,10,11] [10,11] fun D J w hG hs=>QaS rfl rfl (Zz hs)
  ·exact oy [6,9,12] [9] fun D J w hG hs=>QuT (h':=decide ((gd s.ents k3).item<nx)) (G:=(((QdO s c ((gd s.ents k3).item))&&(decide (last<(gd s.ents k3).item))) == true)) hG rfl rfl rfl (Zz hs)
  ·exact oa [6,13] fun D J w hs=>Qa7 (h':=(decide (nx<0))||(decide ((gd s.ents k3).item<nx))) rfl rfl rfl (Zz hs)
  rintro J1 w21 J2 hJ hs
  replace hJ:J2=upd (mix (sq 82 15) J1 _) 96 (.bool (((QdO s c ((gd s.ents k3).item))&&(decide (last<(gd s.ents k3).item)))&&((decide (nx<0))||(decide ((gd s.ents k3).item<nx))))):=hJ
  subst hJ
  refine Qan (t:=((QdO s c ((gd s.ents k3).item))&&(decide (last<(gd s.ents k3).item)))&&((decide (nx<0))||(decide ((gd s.ents k3).item<nx)))) rfl (fun c22=>?_) (fun c22=>?_)
  ·
   have c22r:=QbG c22
   replace c22:=QbC c22
   have c22rr:=QbG c22
   replace c22:=QbC c22
   replace c22rr:=QQ1 c22rr
   refine Qab (Qaa (Qac (V:=I6 ((gd s.ents k3).item)) rfl (Qaa (Qad (V:=I6 ((gd s.ents k3).item)) rfl (Qaf (Qab (Qaa (Qac (V:=I6 (k3:Int)) rfl (Qaa (QaD (a:=(k3:Int)) (b:=1) (c:=((k3+1:Nat):Int)) rfl rfl (Qak (by omega) (by omega)) (Qaa (Qad (V:=I6 ((k3+1:Nat):Int)) rfl (Qaf ?_)))))))))))))
   refine ⟨_,?_,_,k3+1,(gd s.ents k3).item,Qai (Qai (Qao (ds:=([11,12,13,14,15]++sq 61 37)) (by repeat (first|exact Agr.refl _ _|refine Agr.upd ?_ rfl|refine Agr.mix ?_ rfl))) rfl) rfl,(by omega),(Qot hmin (by omega) c22 c22rr (by have:=c22r;simp at this;omega)),(by omega),rfl,hs.take 4⟩
   omega
  refine Qap (Qab (Qaa (Qac (V:=I6 (k3:Int)) rfl (Qaa (QaD (a:=(k3:Int)) (b:=1) (c:=((k3+1:Nat):Int)) rfl rfl (Qak (by omega) (by omega)) (Qaa (Qad (V:=I6 ((k3+1:Nat):Int)) rfl (Qaf ?_))))))))
  refine ⟨_,?_,_,k3+1,nx,Qai (Qai (Qao (ds:=([11,12,13,14,15]++sq 61 37)) (by repeat (first|exact Agr.refl _ _|refine Agr.upd ?_ rfl|refine Agr.mix ?_ rfl))) rfl) rfl,(by omega),(QrM hmin (by omega) (by intro ⟨h0,h1,h2⟩;have:=c22;simp [h0,h1,h2] at this;omega)),(by omega),rfl,hs.take 4⟩
  omega
 replace c19:=QQ2 c19
 refine QaH (Qag (Qag ?_))
 rw [show Qdh s c k3=Qdh s c s.ents.length by rw [show k3=s.ents.length by omega]] at hmin
 refine Qab (Qaa (Qac (V:=I6 nx) rfl (Qaa (QaS rfl rfl (Qaf (Qan (t:=decide (nx<0)) rfl (fun c23=>?_) (fun c23=>?_)))))))
 ·
  replace c23:=QQ1 c23
  refine Qag (Qab (Qaa (Qac (V:=.slice an6 ol.length cn6) rfl (Qaa (Qae QcS rfl (Qaa (QcR (V:=.slice an6 ol.length cn6) (cs':=[I7 c,.slice an6 ol.length cn6,.bool ou,.int .u32 ((QaC s.ticks c).getD 0)]) QfE hs 2 rfl rfl rfl rfl (QQ8 rfl) rfl fun w24 hs=>(Qaf (Qag (Qab (Qaa (QaI (cs:=[I7 c,.slice an6 ol.length cn6,.bool ou,.int .u32 ((QaC s.ticks c).getD 0)]) Qcr hs 2 rfl rfl rfl (Qaa (Qcq (V:=.agg #[I7 c,.slice an6 ol.length cn6,.bool ou,.int .u32 ((QaC s.ticks c).getD 0)]) (vs:=[I7 c,.slice an6 ol.length cn6,.bool ou,.int .u32 ((QaC s.ticks c).getD 0)]) (cs':=[I7 c,.slice an6 ol.length cn6,.bool ou,.int .u32 ((QaC s.ticks c).getD 0)]) Qcr.1 hs 1 rfl rfl rfl rfl rfl (QQ8 rfl) (Qat rfl (Qat rfl (Qat rfl (Qat rfl Qa9)))) (Qay rfl) fun w25 hs=>(Qaf (Qaw ?_))))))))))))))))
  refine ⟨_,QcB (cs:=[I7 c,.slice an6 ol.length cn6,.bool ou,.int .u32 ((QaC s.ticks c).getD 0)]) Tryz.results58 Qcr hs 1 rfl rfl rfl,?_⟩
  have hI:=QoC hup hla.1 hc1 (by rw [← hmin];exact c23)
  have hV:=QoZ c9 (tk:=(QaC s.ticks c).getD 0) rfl hob hI hol
  rw [hV]
  exact ⟨(an6,cn6),rfl,hs.only 3 rfl,trivial⟩
 replace c23:=QQ2 c23
 refine Qap (Qag ?_)
 have hgt:=Qrt hla.1 hc1 (by rw [← hmin];exact c23)
 rw [← hmin] at hgt
 have hup2:UpTo (Qdh s c s.ents.length) nx (I++[nx]):=by rw [hmin];exact QmO hup hla.1 hc1 (by rw [← hmin];exact c23)
 refine Qab (Qaa (QaI (cs:=(vc s.known)++[(.slice a1 s.ents.length c1:Value),(.slice a2 s.ticks.length c2:Value) ]) Qdj hs 0 rfl rfl rfl (Qaa (Qac (V:=I7 c) rfl (Qaa (Qac (V:=I6 nx) rfl (Qaa (Qau (vs:=[.agg ((vc s.known)++[(.slice a1 s.ents.length c1:Value),(.slice a2 s.ticks.length c2:Value) ]).toArray,I7 c,I6 nx]) (V:=.tuple #[.int .u32 (QcV (QbE s c nx)),.bool (QdO s c nx)]) Qqb rfl rfl ?hc hs fun w26 hs=>?_))))))))
 case hc=>exact (QmF _ s a1 c1 a2 c2 c nx hE0 (Rd.own' hr1 hs) (Rd.own' hr2 hs))
 refine Qaa (Qac (V:=.tuple #[.int .u32 (QcV (QbE s c nx)),.bool (QdO s c nx)]) rfl (Qaa (Qaz (V:=.int .u32 (QcV (QbE s c nx))) rfl rfl (Qaa (Qaz (V:=.bool (QdO s c nx)) rfl rfl (Qaa (Qad (V:=.int .u32 (QcV (QbE s c nx))) rfl (Qaa (Qad (V:=.bool (QdO s c nx)) rfl (Qaf (Qag (Qab (Qaa (Qac (V:=.slice an6 ol.length cn6) rfl (Qaa (Qac (V:=I6 nx) rfl (Qaa (Qb4 Qh1 QiZ rfl (Qtl (by omega) (by omega)) (Qaa (Qac (V:=.int .u32 (QcV (QbE s c nx))) rfl (Qaa (Qby (vs:=[(0,I7 nx),(1,.int .u32 (QcV (QbE s c nx)))]) (cs:=lc (⟨nx,QcV (QbE s c nx)⟩:Line)) QpU (rfl) rfl (Qaa (QeP (vals:=[.agg (lc (⟨nx,QcV (QbE s c nx)⟩:Line)).toArray]) (ls:=List.map lc ([(⟨nx,QcV (QbE s c nx)⟩:Line)]:List Line)) QnT rfl rfl rfl (Qbi (enc:=lc) (fun _=>rfl) _) (QaL Qis _) (QQ8 rfl) hs fun b27 w28 hs=>(Qaa (QbY (ls':=(ol++[(⟨nx,QcV (QbE s c nx)⟩:Line)]).map lc) (n:=(ol++[(⟨nx,QcV (QbE s c nx)⟩:Line)]).length) QnT hs 3 rfl rfl rfl (hs.rd 4 rfl) (QaL Qis _) (by simp only [QQ6,QQ7,List.length_cons,List.length_nil];omega) (by simp) (by simp) fun a29 c29 w30 hs=>(Qaa (Qad (V:=.slice a29 ((ol++[(⟨nx,QcV (QbE s c nx)⟩:Line)]).length) c29) rfl (Qaf (Qab (Qaa (Qac (V:=I6 nx) rfl (Qaa (Qad (V:=I6 nx) rfl (Qaf ?_)))))))))))))))))))))))))))))))))))
 refine ⟨_,?_,_,nx,I++[nx],a29,c29,ol++[(⟨nx,QcV (QbE s c nx)⟩:Line)],Qai (Qai (Qao (ds:=(sq 9 9++sq 61 57)) (by repeat (first|exact Agr.refl _ _|refine Agr.upd ?_ rfl|refine Agr.mix ?_ rfl))) rfl) rfl,(by omega),(by simp only [QQ7,List.length_singleton];omega),hup2,(QiF hol rfl),rfl,hs.take 4⟩
 omega
end Tt
end Go.Proofs
namespace Go.Proofs
open Go Go.Vx Go.RowKit
namespace Tt
theorem QhW (w:World) (p:Pst) (a1:Option Addr) (c1:Nat) (a2:Option Addr) (c2:Nat) (a3:Option Addr) (c3:Nat) (cut:Vec) (hcut:QbX cut) (n:Int) (hsortE:QgW Tryz.prog 48 49 cec 106 7 QjK) (hsortU:QgX Tryz.prog 134 .u16 32) (hok:Qdw p) (hle:p.base.ents.length<=400) (hlt:p.base.ticks.length<=400) (hlo:p.ops.length<=400) (hr1:Rd w (.slice a1 p.base.ents.length c1) 7 (p.base.ents.map cec)) (hr2:Rd w (.slice a2 p.base.ticks.length c2) 2 (p.base.ticks.map lsc)) (hr3:Rd w (.slice a3 p.ops.length c3) 23 (p.ops.map oc)):Calls Tryz.prog 15 #[.agg (((vc p.base.known)++[(.slice a1 p.base.ents.length c1:Value),(.slice a2 p.base.ticks.length c2:Value) ])++[(.slice a3 p.ops.length c3:Value) ]++(vc p.known)).toArray,.agg (vc cut).toArray,.int .u16 n] w (fun e w'=>∃ x:Option Addr × Nat,e = .returned (.tuple #[.agg [.int .u16 (Qav p cut n).cart,.slice x.1 (Qav p cut n).lines.length x.2,.bool (Qav p cut n).out,.int .u32 (Qav p cut n).tick].toArray,.int .i64 (QaY p cut)])/\Own w no w' [row (.slice x.1 (Qav p cut n).lines.length x.2) ((Qav p cut n).lines.map lc) 127 2]/\True):=by
 refine Qaj (n:=23) Tryz.func15 rfl Tryz.ntmps15 rfl ?_
 have hs:=Own.start w
 have ⟨hokb,hoko,hokk⟩:=hok
 have hsl:=QcG p cut
 have hso:=QdY (cut:=cut) hok hcut
 refine Qag (Qab (Qaa (QaR (V:=.agg (((vc p.base.known)++[(.slice a1 p.base.ents.length c1:Value),(.slice a2 p.base.ticks.length c2:Value) ])++[(.slice a3 p.ops.length c3:Value) ]++(vc p.known)).toArray) (cs:=((vc p.base.known)++[(.slice a1 p.base.ents.length c1:Value),(.slice a2 p.base.ticks.length c2:Value) ])++[(.slice a3 p.ops.length c3:Value) ]++(vc p.known)) rfl rfl hs fun b1 w2 hs=>(Qaa (QaR (V:=.agg (vc cut).toArray) (cs:=vc cut) rfl rfl hs fun b3 w4 hs=>(Qaa (QaK (cs:=[I7 0,.slice none 0 0,.bool false,.int .u32 0]) Qgl rfl hs fun b5 w6 hs=>(Qaa (Qad (V:=I6 0) rfl (Qaf (Qag (Qab (Qaa (QaI (cs:=((vc p.base.known)++[(.slice a1 p.base.ents.length c1:Value),(.slice a2 p.base.ticks.length c2:Value) ])++[(.slice a3 p.ops.length c3:Value) ]++(vc p.known)) QeE hs 0 rfl rfl rfl (Qaa (QaI (cs:=vc cut) Qbt hs 1 rfl rfl rfl (Qaa (Qbf (α:=(Option Addr × Nat) × (Option Addr × Nat)) (vs:=[.agg (((vc p.base.known)++[(.slice a1 p.base.ents.length c1:Value),(.slice a2 p.base.ticks.length c2:Value) ])++[(.slice a3 p.ops.length c3:Value) ]++(vc p.known)).toArray,.agg (vc cut).toArray]) (V:=fun x:(Option Addr × Nat) × (Option Addr × Nat)=>.tuple #[.agg (vc (Qah p cut).known++[(.slice x.1.1 ((Qah p cut).ents).length x.1.2:Value),(.slice x.2.1 ((Qah p cut).ticks).length x.2.2:Value)]).toArray,I6 (QaY p cut)]) (Lo:=fun x=>[row (.slice x.1.1 ((Qah p cut).ents).length x.1.2) (((Qah p cut).ents).map cec) 106 7,row (.slice x.2.1 ((Qah p cut).ticks).length x.2.2) (((Qah p cut).ticks).map lsc) 102 2]) (F:=fun _ _=>True) QkA rfl rfl ?hc hs fun x8 w7 hs _=>?_))))))))))))))))))
 case hc=>exact (Qdx _ p a1 c1 a2 c2 a3 c3 cut hcut hsortE hsortU hok hle hlt hlo (Rd.own' hr1 hs) (Rd.own' hr2 hs) (Rd.own' hr3 hs))
 replace hs:Own w no w7 [blk b1 (((vc p.base.known)++[(.slice a1 p.base.ents.length c1:Value),(.slice a2 p.base.ticks.length c2:Value) ])++[(.slice a3 p.ops.length c3:Value) ]++(vc p.known)) 43,blk b3 (vc cut) 24,blk b5 [I7 0,.slice none 0 0,.bool false,.int .u32 0] 49,row (.slice x8.1.1 (((Qah p cut).ents).length) x8.1.2) (((Qah p cut).ents).map cec) 106 7,row (.slice x8.2.1 (((Qah p cut).ticks).length) x8.2.2) (((Qah p cut).ticks).map lsc) 102 2]:=hs
 refine Qaa (Qac (V:=.tuple #[.agg ((vc ((Qah p cut).known))++[(.slice x8.1.1 (((Qah p cut).ents).length) x8.1.2:Value),(.slice x8.2.1 (((Qah p cut).ticks).length) x8.2.2:Value) ]).toArray,I6 (QaY p cut)]) rfl (Qaa (Qaz (V:=.agg ((vc ((Qah p cut).known))++[(.slice x8.1.1 (((Qah p cut).ents).length) x8.1.2:Value),(.slice x8.2.1 (((Qah p cut).ticks).length) x8.2.2:Value) ]).toArray) rfl rfl (Qaa (Qaz (V:=I6 (QaY p cut)) rfl rfl (Qaa (QaK (cs:=(vc vzero)++[(.slice none 0 0:Value),(.slice none 0 0:Value) ]) QgU rfl hs fun b9 w10 hs=>(Qaa (Qcq (V:=.agg ((vc ((Qah p cut).known))++[(.slice x8.1.1 (((Qah p cut).ents).length) x8.1.2:Value),(.slice x8.2.1 (((Qah p cut).ticks).length) x8.2.2:Value) ]).toArray) (vs:=(vc ((Qah p cut).known))++[(.slice x8.1.1 (((Qah p cut).ents).length) x8.1.2:Value),(.slice x8.2.1 (((Qah p cut).ticks).length) x8.2.2:Value) ]) (cs':=(vc ((Qah p cut).known))++[(.slice x8.1.1 (((Qah p cut).ents).length) x8.1.2:Value),(.slice x8.2.1 (((Qah p cut).ticks).length) x8.2.2:Value) ]) QcD.1 hs 5 rfl rfl rfl rfl rfl (QQ8 rfl) (QbB (Qcd _) (Qat rfl (Qat rfl Qa9))) (Qay rfl) fun w11 hs=>(Qaa (Qad (V:=I6 (QaY p cut)) rfl (Qaf (Qag (Qag (Qab (Qaa (Qac (V:=I6 (QaY p cut)) rfl (Qaa (Qb7 rfl rfl (Qaf (Qan (t:=!decide (QaY p cut=0)) rfl (fun c12=>?_) (fun c12=>?_))))))))))))))))))))))
 ·
  replace c12:=Qbs c12
  replace c12:=QQ2 c12
  refine Qag (Qab (Qaa (Qby (vs:=[]) (cs:=[I7 0,.slice none 0 0,.bool false,.int .u32 0]) Qo4 (rfl) rfl (Qaa (Qac (V:=I6 (QaY p cut)) rfl (Qaa (Qcq (V:=.agg #[I7 0,.slice none 0 0,.bool false,.int .u32 0]) (vs:=[I7 0,.slice none 0 0,.bool false,.int .u32 0]) (cs':=[I7 0,.slice none 0 0,.bool false,.int .u32 0]) Qcr.1 hs 2 rfl rfl rfl rfl rfl (QQ8 rfl) (Qat rfl (Qat rfl (Qat rfl (Qat rfl Qa9)))) (Qay rfl) fun w13 hs=>(Qaa (Qad (V:=I6 (QaY p cut)) rfl (Qaf (Qaw ?_)))))))))))
  refine ⟨_,QcM (cs:=[I7 0,.slice none 0 0,.bool false,.int .u32 0]) (V:=I6 (QaY p cut)) Tryz.results15 Qcr hs 2 rfl rfl rfl rfl,?_⟩
  rw [QjC c12]
  exact ⟨(none,0),rfl,(hs.take 0).more _ (Qbo _ _ 127 2),trivial⟩
 replace c12:=Qbd c12
 replace c12:=QQ1 c12
 refine Qap (Qag (Qab (Qaa (QaI (cs:=(vc ((Qah p cut).known))++[(.slice x8.1.1 (((Qah p cut).ents).length) x8.1.2:Value),(.slice x8.2.1 (((Qah p cut).ticks).length) x8.2.2:Value) ]) QcD hs 5 rfl rfl rfl (Qaa (Qac (V:=I7 n) rfl (Qaa (Qbf (α:=Option Addr × Nat) (vs:=[.agg ((vc ((Qah p cut).known))++[(.slice x8.1.1 (((Qah p cut).ents).length) x8.1.2:Value),(.slice x8.2.1 (((Qah p cut).ticks).length) x8.2.2:Value) ]).toArray,I7 n]) (V:=fun x=>.agg #[I7 ((QaE (Qah p cut) n (Qas (Qah p cut))).cart),.slice x.1 (((QaE (Qah p cut) n (Qas (Qah p cut))).lines).length) x.2,.bool ((QaE (Qah p cut) n (Qas (Qah p cut))).out),.int .u32 ((QaE (Qah p cut) n (Qas (Qah p cut))).tick)]) (Lo:=fun x=>[row (.slice x.1 ((QaE (Qah p cut) n (Qas (Qah p cut))).lines).length x.2) (((QaE (Qah p cut) n (Qas (Qah p cut))).lines).map lc) 127 2]) (F:=fun _ _=>True) QoG rfl rfl ?hc hs fun x15 w14 hs _=>?_))))))))
 case hc=>exact (QeL _ (Qah p cut) x8.1.1 x8.1.2 x8.2.1 x8.2.2 n (QaE (Qah p cut) n (Qas (Qah p cut)):Vw) (rfl) hso (by omega) (by omega) (hs.rd 3 rfl) (hs.rd 4 rfl))
 refine Qaa (Qcq (V:=.agg #[I7 ((QaE (Qah p cut) n (Qas (Qah p cut))).cart),.slice x15.1 (((QaE (Qah p cut) n (Qas (Qah p cut))).lines).length) x15.2,.bool ((QaE (Qah p cut) n (Qas (Qah p cut))).out),.int .u32 ((QaE (Qah p cut) n (Qas (Qah p cut))).tick)]) (vs:=[I7 ((QaE (Qah p cut) n (Qas (Qah p cut))).cart),.slice x15.1 (((QaE (Qah p cut) n (Qas (Qah p cut))).lines).length) x15.2,.bool ((QaE (Qah p cut) n (Qas (Qah p cut))).out),.int .u32 ((QaE (Qah p cut) n (Qas (Qah p cut))).tick)]) (cs':=[I7 ((QaE (Qah p cut) n (Qas (Qah p cut))).cart),.slice x15.1 (((QaE (Qah p cut) n (Qas (Qah p cut))).lines).length) x15.2,.bool ((QaE (Qah p cut) n (Qas (Qah p cut))).out),.int .u32 ((QaE (Qah p cut) n (Qas (Qah p cut))).tick)]) Qcr.1 hs 2 rfl rfl rfl rfl rfl (QQ8 rfl) (Qat rfl (Qat rfl (Qat rfl (Qat rfl Qa9)))) (Qay rfl) fun w16 hs=>?_)
 replace hs:Own w no w16 [blk b1 (((vc p.base.known)++[(.slice a1 p.base.ents.length c1:Value),(.slice a2 p.base.ticks.length c2:Value) ])++[(.slice a3 p.ops.length c3:Value) ]++(vc p.known)) 43,blk b3 (vc cut) 24,blk b5 [I7 ((QaE (Qah p cut) n (Qas (Qah p cut))).cart),.slice x15.1 (((QaE (Qah p cut) n (Qas (Qah p cut))).lines).length) x15.2,.bool ((QaE (Qah p cut) n (Qas (Qah p cut))).out),.int .u32 ((QaE (Qah p cut) n (Qas (Qah p cut))).tick)] 49,row (.slice x8.1.1 (((Qah p cut).ents).length) x8.1.2) (((Qah p cut).ents).map cec) 106 7,row (.slice x8.2.1 (((Qah p cut).ticks).length) x8.2.2) (((Qah p cut).ticks).map lsc) 102 2,blk b9 ((vc ((Qah p cut).known))++[(.slice x8.1.1 (((Qah p cut).ents).length) x8.1.2:Value),(.slice x8.2.1 (((Qah p cut).ticks).length) x8.2.2:Value) ]) 38,row (.slice x15.1 (((QaE (Qah p cut) n (Qas (Qah p cut))).lines).length) x15.2) (((QaE (Qah p cut) n (Qas (Qah p cut))).lines).map lc) 127 2]:=hs
 refine Qaa (Qad (V:=I6 0) rfl (Qaf (Qaw ?_)))
 refine ⟨_,QcM (cs:=[I7 ((QaE (Qah p cut) n (Qas (Qah p cut))).cart),.slice x15.1 (((QaE (Qah p cut) n (Qas (Qah p cut))).lines).length) x15.2,.bool ((QaE (Qah p cut) n (Qas (Qah p cut))).out),.int .u32 ((QaE (Qah p cut) n (Qas (Qah p cut))).tick)]) (V:=I6 0) Tryz.results15 Qcr hs 2 rfl rfl rfl rfl,?_⟩
 rw [Qf6 c12,c12]
 exact ⟨(x15.1,x15.2),rfl,hs.only 6 rfl,trivial⟩
theorem Qo3 (w:World) (p:Pst) (a1:Option Addr) (c1:Nat) (a2:Option Addr) (c2:Nat) (a3:Option Addr) (c3:Nat) (cut:Vec) (hcut:QbX cut) (n:Int) (hok:Qdw p) (hle:p.base.ents.length<=400) (hlt:p.base.ticks.length<=400) (hlo:p.ops.length<=400) (hr1:Rd w (.slice a1 p.base.ents.length c1) 7 (p.base.ents.map cec)) (hr2:Rd w (.slice a2 p.base.ticks.length c2) 2 (p.base.ticks.map lsc)) (hr3:Rd w (.slice a3 p.ops.length c3) 23 (p.ops.map oc)):Calls Tryz.prog 16 #[.agg (((vc p.base.known)++[(.slice a1 p.base.ents.length c1:Value),(.slice a2 p.base.ticks.length c2:Value) ])++[(.slice a3 p.ops.length c3:Value) ]++(vc p.known)).toArray,.agg (vc cut).toArray,.int .u16 n] w (fun e w'=>∃ x:Option Addr × Nat,e = .returned (.tuple #[.agg [.int .u16 (Qav p cut n).cart,.slice x.1 (Qav p cut n).lines.length x.2,.bool (Qav p cut n).out,.int .u32 (Qav p cut n).tick].toArray,.int .i64 (QaY p cut)])/\Own w no w' [row (.slice x.1 (Qav p cut n).lines.length x.2) ((Qav p cut n).lines.map lc) 127 2]/\True):=by
 refine Qaj (n:=23) Tryz.func16 rfl Tryz.ntmps16 rfl ?_
 have hs:=Own.start w
 have ⟨hokb,hoko,hokk⟩:=hok
 have hsl:=QcG p cut
 have hso:=QdY (cut:=cut) hok hcut
 refine Qag (Qab (Qaa (QaR (V:=.agg (((vc p.base.known)++[(.slice a1 p.base.ents.length c1:Value),(.slice a2 p.base.ticks.length c2:Value) ])++[(.slice a3 p.ops.length c3:Value) ]++(vc p.known)).toArray) (cs:=((vc p.base.known)++[(.slice a1 p.base.ents.length c1:Value),(.slice a2 p.base.ticks.length c2:Value) ])++[(.slice a3 p.ops.length c3:Value) ]++(vc p.known)) rfl rfl hs fun b1 w2 hs=>(Qaa (QaR (V:=.agg (vc cut).toArray) (cs:=vc cut) rfl rfl hs fun b3 w4 hs=>(Qaa (QaK (cs:=[I7 0,.slice none 0 0,.bool false,.int .u32 0]) Qgl rfl hs fun b5 w6 hs=>(Qaa (Qad (V:=I6 0) rfl (Qaf (Qag (Qab (Qaa (QaI (cs:=((vc p.base.known)++[(.slice a1 p.base.ents.length c1:Value),(.slice a2 p.base.ticks.length c2:Value) ])++[(.slice a3 p.ops.length c3:Value) ]++(vc p.known)) QgQ hs 0 rfl rfl rfl (Qaa (QaI (cs:=vc cut) Qbt hs 1 rfl rfl rfl (Qaa (Qbf (α:=((Option Addr × Nat) × (Option Addr × Nat)) × Bool) (vs:=[.agg (((vc p.base.known)++[(.slice a1 p.base.ents.length c1:Value),(.slice a2 p.base.ticks.length c2:Value) ])++[(.slice a3 p.ops.length c3:Value) ]++(vc p.known)).toArray,.agg (vc cut).toArray]) (V:=fun y=>.tuple #[.agg (vc (Qah p cut).known++[(.slice y.1.1.1 ((Qah p cut).ents).length y.1.1.2:Value),(.slice y.1.2.1 ((Qah p cut).ticks).length y.1.2.2:Value)]).toArray,I6 (QaY p cut)]) (Lo:=fun y=>[row (.slice y.1.1.1 ((Qah p cut).ents).length y.1.1.2) ((Qah p cut).ents.map cec) 119 7,cond y.2 emp (row (.slice y.1.2.1 ((Qah p cut).ticks).length y.1.2.2) ((Qah p cut).ticks.map lsc) 125 2)]) (F:=fun y _=>(y.2=true->y.1.2=(a2,c2)/\(Qah p cut).ticks=p.base.ticks)) Qsv rfl rfl ?hc hs fun x7 w8 hs hF9=>?_))))))))))))))))))
 case hc=>exact (QiI _ p a1 c1 a2 c2 a3 c3 cut hcut hok hle hlt hlo (Rd.own' hr1 hs) (Rd.own' hr2 hs) (Rd.own' hr3 hs))
 have hrz10:x7.2=true->Rd w (.slice x7.1.2.1 ((Qah p cut).ticks).length x7.1.2.2) 2 ((Qah p cut).ticks.map lsc):=fun h=>by
  obtain ⟨e1,e2⟩:=hF9 h
  rw [Prod.ext_iff] at e1
  rw [e1.1,e1.2,e2];exact hr2
 refine Qaa (Qac (V:=.tuple #[.agg ((vc ((Qah p cut).known))++[(.slice x7.1.1.1 (((Qah p cut).ents).length) x7.1.1.2:Value),(.slice x7.1.2.1 (((Qah p cut).ticks).length) x7.1.2.2:Value) ]).toArray,I6 (QaY p cut)]) rfl (Qaa (Qaz (V:=.agg ((vc ((Qah p cut).known))++[(.slice x7.1.1.1 (((Qah p cut).ents).length) x7.1.1.2:Value),(.slice x7.1.2.1 (((Qah p cut).ticks).length) x7.1.2.2:Value) ]).toArray) rfl rfl (Qaa (Qaz (V:=I6 (QaY p cut)) rfl rfl (Qaa (QaK (cs:=(vc vzero)++[(.slice none 0 0:Value),(.slice none 0 0:Value) ]) Qmn rfl hs fun b11 w12 hs=>?_)))))))
 replace hs:Own w no w12 [blk b1 (((vc p.base.known)++[(.slice a1 p.base.ents.length c1:Value),(.slice a2 p.base.ticks.length c2:Value) ])++[(.slice a3 p.ops.length c3:Value) ]++(vc p.known)) 31,blk b3 (vc cut) 24,blk b5 [I7 0,.slice none 0 0,.bool false,.int .u32 0] 49,row (.slice x7.1.1.1 (((Qah p cut).ents).length) x7.1.1.2) (((Qah p cut).ents).map cec) 119 7,cond x7.2 emp (row (.slice x7.1.2.1 (((Qah p cut).ticks).length) x7.1.2.2) (((Qah p cut).ticks).map lsc) 125 2),blk b11 ((vc vzero)++[(.slice none 0 0:Value),(.slice none 0 0:Value) ]) 28]:=hs
 refine Qaa (Qcq (V:=.agg ((vc ((Qah p cut).known))++[(.slice x7.1.1.1 (((Qah p cut).ents).length) x7.1.1.2:Value),(.slice x7.1.2.1 (((Qah p cut).ticks).length) x7.1.2.2:Value) ]).toArray) (vs:=(vc ((Qah p cut).known))++[(.slice x7.1.1.1 (((Qah p cut).ents).length) x7.1.1.2:Value),(.slice x7.1.2.1 (((Qah p cut).ticks).length) x7.1.2.2:Value) ]) (cs':=(vc ((Qah p cut).known))++[(.slice x7.1.1.1 (((Qah p cut).ents).length) x7.1.1.2:Value),(.slice x7.1.2.1 (((Qah p cut).ticks).length) x7.1.2.2:Value) ]) Qdj.1 hs 5 rfl rfl rfl rfl rfl (QQ8 rfl) (QbB (Qcd _) (Qat rfl (Qat rfl Qa9))) (Qay rfl) fun w13 hs=>(Qaa (Qad (V:=I6 (QaY p cut)) rfl (Qaf (Qag (Qag (Qab (Qaa (Qac (V:=I6 (QaY p cut)) rfl (Qaa (Qb7 rfl rfl (Qaf (Qan (t:=!decide (QaY p cut=0)) rfl (fun c14=>?_) (fun c14=>?_))))))))))))))
 ·
  replace c14:=Qbs c14
  replace c14:=QQ2 c14
  refine Qag (Qab (Qaa (Qby (vs:=[]) (cs:=[I7 0,.slice none 0 0,.bool false,.int .u32 0]) Qo4 (rfl) rfl (Qaa (Qac (V:=I6 (QaY p cut)) rfl (Qaa (Qcq (V:=.agg #[I7 0,.slice none 0 0,.bool false,.int .u32 0]) (vs:=[I7 0,.slice none 0 0,.bool false,.int .u32 0]) (cs':=[I7 0,.slice none 0 0,.bool false,.int .u32 0]) Qcr.1 hs 2 rfl rfl rfl rfl rfl (QQ8 rfl) (Qat rfl (Qat rfl (Qat rfl (Qat rfl Qa9)))) (Qay rfl) fun w15 hs=>(Qaa (Qad (V:=I6 (QaY p cut)) rfl (Qaf (Qaw ?_)))))))))))
  refine ⟨_,QcM (cs:=[I7 0,.slice none 0 0,.bool false,.int .u32 0]) (V:=I6 (QaY p cut)) Tryz.results16 Qcr hs 2 rfl rfl rfl rfl,?_⟩
  rw [QjC c14]
  exact ⟨(none,0),rfl,(hs.take 0).more _ (Qbo _ _ 127 2),trivial⟩
 replace c14:=Qbd c14
 replace c14:=QQ1 c14
 refine Qap (Qag (Qab (Qaa (QaI (cs:=(vc ((Qah p cut).known))++[(.slice x7.1.1.1 (((Qah p cut).ents).length) x7.1.1.2:Value),(.slice x7.1.2.1 (((Qah p cut).ticks).length) x7.1.2.2:Value) ]) Qdj hs 5 rfl rfl rfl (Qaa (Qac (V:=I7 n) rfl (Qaa (Qbf (α:=Option Addr × Nat) (vs:=[.agg ((vc ((Qah p cut).known))++[(.slice x7.1.1.1 (((Qah p cut).ents).length) x7.1.1.2:Value),(.slice x7.1.2.1 (((Qah p cut).ticks).length) x7.1.2.2:Value) ]).toArray,I7 n]) (V:=fun x=>.agg #[I7 ((QaE (Qah p cut) n (Qas (Qah p cut))).cart),.slice x.1 (((QaE (Qah p cut) n (Qas (Qah p cut))).lines).length) x.2,.bool ((QaE (Qah p cut) n (Qas (Qah p cut))).out),.int .u32 ((QaE (Qah p cut) n (Qas (Qah p cut))).tick)]) (Lo:=fun x=>[row (.slice x.1 ((QaE (Qah p cut) n (Qas (Qah p cut))).lines).length x.2) (((QaE (Qah p cut) n (Qas (Qah p cut))).lines).map lc) 127 2]) (F:=fun _ _=>True) Qu2 rfl rfl ?hc hs fun x17 w16 hs _=>?_))))))))
 case hc=>exact (Qne _ (Qah p cut) x7.1.1.1 x7.1.1.2 x7.1.2.1 x7.1.2.2 n hso (hs.rd 3 rfl) (hs.rdC 4 rfl hrz10))
 refine Qaa (Qcq (V:=.agg #[I7 ((QaE (Qah p cut) n (Qas (Qah p cut))).cart),.slice x17.1 (((QaE (Qah p cut) n (Qas (Qah p cut))).lines).length) x17.2,.bool ((QaE (Qah p cut) n (Qas (Qah p cut))).out),.int .u32 ((QaE (Qah p cut) n (Qas (Qah p cut))).tick)]) (vs:=[I7 ((QaE (Qah p cut) n (Qas (Qah p cut))).cart),.slice x17.1 (((QaE (Qah p cut) n (Qas (Qah p cut))).lines).length) x17.2,.bool ((QaE (Qah p cut) n (Qas (Qah p cut))).out),.int .u32 ((QaE (Qah p cut) n (Qas (Qah p cut))).tick)]) (cs':=[I7 ((QaE (Qah p cut) n (Qas (Qah p cut))).cart),.slice x17.1 (((QaE (Qah p cut) n (Qas (Qah p cut))).lines).length) x17.2,.bool ((QaE (Qah p cut) n (Qas (Qah p cut))).out),.int .u32 ((QaE (Qah p cut) n (Qas (Qah p cut))).tick)]) Qcr.1 hs 2 rfl rfl rfl rfl rfl (QQ8 rfl) (Qat rfl (Qat rfl (Qat rfl (Qat rfl Qa9)))) (Qay rfl) fun w18 hs=>(Qaa (Qad (V:=I6 0) rfl (Qaf (Qaw ?_)))))
 refine ⟨_,QcM (cs:=[I7 ((QaE (Qah p cut) n (Qas (Qah p cut))).cart),.slice x17.1 (((QaE (Qah p cut) n (Qas (Qah p cut))).lines).length) x17.2,.bool ((QaE (Qah p cut) n (Qas (Qah p cut))).out),.int .u32 ((QaE (Qah p cut) n (Qas (Qah p cut))).tick)]) (V:=I6 0) Tryz.results16 Qcr hs 2 rfl rfl rfl rfl,?_⟩
 rw [Qf6 c14,c14]
 exact ⟨(x17.1,x17.2),rfl,hs.only 6 rfl,trivial⟩
end Tt
end Go.Proofs
namespace Go.Proofs
open Go Go.Vx Go.RowKit
namespace Tt
theorem QqV (w:World) (s:Sta) (a1:Option Addr) (c1:Nat) (a2:Option Addr) (c2:Nat) (hle:s.ents.length<=100000) (hlt:s.ticks.length<=100000) (hr1:Rd w (.slice a1 s.ents.length c1) 7 (s.ents.map cec)) (hr2:Rd w (.slice a2 s.ticks.length c2) 2 (s.ticks.map lsc)):Calls Tryz.prog 20 #[.agg ((vc s.known)++[(.slice a1 s.ents.length c1:Value),(.slice a2 s.ticks.length c2:Value) ]).toArray] w (fun e w'=>∃ x:(Option Addr × Nat) × (Option Addr × Nat),e = .returned (.agg (vc (s).known++[(.slice x.1.1 (s).ents.length x.1.2:Value),(.slice x.2.1 (s).ticks.length x.2.2:Value)]).toArray)/\Own w no w' [row (.slice x.1.1 (s).ents.length x.1.2) ((s).ents.map cec) 119 7,row (.slice x.2.1 (s).ticks.length x.2.2) ((s).ticks.map lsc) 125 2]/\True):=by
 refine Qaj (n:=40) Tryz.func20 rfl Tryz.ntmps20 rfl ?_
 have hs:=Own.start w
 refine Qag (Qab (Qaa (QaR (V:=.agg ((vc s.known)++[(.slice a1 s.ents.length c1:Value),(.slice a2 s.ticks.length c2:Value) ]).toArray) (cs:=(vc s.known)++[(.slice a1 s.ents.length c1:Value),(.slice a2 s.ticks.length c2:Value) ]) rfl rfl hs fun b1 w2 hs=>(Qaa (QaK (cs:=(vc vzero)++[(.slice none 0 0:Value),(.slice none 0 0:Value) ]) Qmn rfl hs fun b3 w4 hs=>(Qaf (Qag (Qab (Qaa (Qae Qgd rfl (Qaa (QbL (vs:=vc s.known) Qbt hs 0 rfl rfl rfl rfl (Qaa (Qcs (vs:=[(0,.agg (vc s.known).toArray)]) (cs:=(vc s.known)++[(.slice none 0 0:Value),(.slice none 0 0:Value) ]) [vc vzero,[(.slice none 0 0:Value)],[(.slice none 0 0:Value)]] [vc s.known,[(.slice none 0 0:Value)],[(.slice none 0 0:Value)]] Qra rfl (rfl) rfl rfl (Qaa (QaK (cs:=(vc vzero)++[(.slice none 0 0:Value),(.slice none 0 0:Value) ]) Qmn rfl hs fun b5 w6 hs=>(Qaa (Qcq (V:=.agg ((vc s.known)++[(.slice none 0 0:Value),(.slice none 0 0:Value) ]).toArray) (vs:=(vc s.known)++[(.slice none 0 0:Value),(.slice none 0 0:Value) ]) (cs':=(vc s.known)++[(.slice none 0 0:Value),(.slice none 0 0:Value) ]) Qdj.1 hs 2 rfl rfl rfl rfl rfl (QQ8 rfl) (QbB (Qcd _) (Qat rfl (Qat rfl Qa9))) (Qay rfl) fun w7 hs=>?_))))))))))))))))))
 replace hs:Own w no w7 [blk b1 ((vc s.known)++[(.slice a1 s.ents.length c1:Value),(.slice a2 s.ticks.length c2:Value) ]) 38,blk b3 ((vc vzero)++[(.slice none 0 0:Value),(.slice none 0 0:Value) ]) 28,blk b5 ((vc s.known)++[(.slice none 0 0:Value),(.slice none 0 0:Value) ]) 28]:=hs
 refine Qaf (Qag (Qag (Qab (Qaa (Qae QdR rfl (Qaa (QaF (V:=.slice a1 s.ents.length c1) Qit hs 0 rfl rfl rfl (Qaa (QaX (n:=s.ents.length) QbI (Rd.own' hr1 hs) (by simp) rfl (Qaa (Qac (V:=I6 0) rfl (Qaf (Qam ?_)))))))))))))
 replace hs:=hs.more (row (.slice none 0 0) (List.map cec []) 119 7) (Qbo _ _ _ _)
 refine QaA (fun J μ J' w'=>∃ (Jo:Env) (k1:Nat) (an1:Option Addr) (cn1:Nat) (L1:List Cen),J'=upd (mix ([5]++sq 14 11) Jo J) 14 (I6 (k1:Int))/\(k1<=s.ents.length)/\(L1=s.ents.take k1)/\(L1.length<=k1)/\μ=s.ents.length-k1/\Own w no w' [blk b1 ((vc s.known)++[(.slice a1 s.ents.length c1:Value),(.slice a2 s.ticks.length c2:Value) ]) 38,blk b3 ((vc vzero)++[(.slice none 0 0:Value),(.slice none 0 0:Value) ]) 28,blk b5 ((vc s.known)++[(.slice an1 L1.length cn1:Value),(.slice none 0 0:Value) ]) 28,row (.slice an1 L1.length cn1) (L1.map cec) 119 7]) ?_ ?_
 ·exact ⟨_,_,0,none,0,[],Qai (Qao (ds:=([5]++sq 14 11)) (Agr.refl _ _)) rfl,(by omega),rfl,(Nat.le_refl _),rfl,hs⟩
 rintro μ J' w8 ⟨Jo,k1,an1,cn1,L1,rfl,hk1,hL1,hl1,rfl,hs⟩
 have hb1:=hl1
 refine Qag (Qab (Qaa (QaS rfl rfl (Qaf (Qag (Qan (t:=decide ((k1:Int)<((s.ents.length:Nat):Int))) rfl (fun c9=>?_) (fun c9=>?_)))))))
 ·
  replace c9:=QQ1 c9
  refine Qap (Qag (Qam (Qag (Qab (Qaa (Qax QbI QaG.1 (Rd.own' hr1 hs) rfl rfl (by omega) (by rw [QQ6];omega) (Qaa (QaV (j:=0) (vs:=cec (gd s.ents k1)) k1 QaG (Rd.own' hr1 hs) (QaW (by omega)) rfl rfl rfl (by omega) (Qaa (QaK (cs:=cec (⟨0,0,0,0,(⟨0,0⟩:Dot),0⟩:Cen)) Qf5 rfl hs fun b10 w11 hs=>(Qaa (Qcq (V:=.agg (cec (gd s.ents k1)).toArray) (vs:=cec (gd s.ents k1)) (cs':=cec (gd s.ents k1)) QaG.1 hs 4 rfl rfl rfl rfl rfl (QQ8 rfl) (Qa6 _) (Qay rfl) fun w12 hs=>(Qaf (Qab (Qaa (Qae Qbv rfl (Qaa (QaF (V:=.slice an1 L1.length cn1) QcL hs 2 rfl rfl rfl (Qaa (QaI (cs:=cec (gd s.ents k1)) QaG hs 4 rfl rfl rfl (Qaa (QeP (vals:=[.agg (cec (gd s.ents k1)).toArray]) (ls:=List.map cec ([gd s.ents k1]:List Cen)) QfH rfl rfl rfl (Qbi (enc:=cec) (fun _=>rfl) _) (QaL Qa6 _) (QQ8 rfl) hs fun b13 w14 hs=>(Qaa (QbY (ls':=(L1++[gd s.ents k1]).map cec) (n:=(L1++[gd s.ents k1]).length) QfH hs 3 rfl rfl rfl (hs.rd 5 rfl) (QaL Qa6 _) (by simp only [QQ6,QQ7,List.length_cons,List.length_nil];omega) (by simp) (by simp) fun a15 c15 w16 hs=>?_))))))))))))))))))))))))
  replace hs:Own w no w16 [blk b1 ((vc s.known)++[(.slice a1 s.ents.length c1:Value),(.slice a2 s.ticks.length c2:Value) ]) 38,blk b3 ((vc vzero)++[(.slice none 0 0:Value),(.slice none 0 0:Value) ]) 28,blk b5 ((vc s.known)++[(.slice an1 L1.length cn1:Value),(.slice none 0 0:Value) ]) 28,row (.slice a15 ((L1++[gd s.ents k1]).length) c15) ((L1++[gd s.ents k1]).map cec) 119 7,blk b10 (cec (gd s.ents k1)) 106,row (.slice (some ⟨b13,0,none⟩) 1 1) ([gd s.ents k1].map cec) 119 7]:=hs
  refine Qaa (Qae Qbv rfl (Qaa (QcR (V:=.slice a15 ((L1++[gd s.ents k1]).length) c15) (cs':=(vc s.known)++[(.slice a15 ((L1++[gd s.ents k1]).length) c15:Value),(.slice none 0 0:Value) ]) QcL hs 2 rfl rfl rfl rfl (QQ8 rfl) rfl fun w17 hs=>(Qaf (Qab (Qaa (QaD (a:=(k1:Int)) (b:=1) (c:=((k1+1:Nat):Int)) rfl rfl (Qak (by omega) (by omega)) (Qaa (Qac (V:=I6 ((k1+1:Nat):Int)) rfl (Qaf ?_))))))))))
  refine ⟨_,?_,_,k1+1,a15,c15,L1++[gd s.ents k1],Qai (Qao (ds:=([5]++sq 14 11)) (by repeat (first|exact Agr.refl _ _|refine Agr.upd ?_ rfl|refine Agr.mix ?_ rfl))) rfl,(by omega),(by rw [Qbg (by omega),← hL1]),(by rw [QQ7,List.length_singleton];omega),rfl,hs.take 4⟩
  omega
 replace c9:=QQ2 c9
 refine QaH (Qag (Qag (Qab (Qaa (Qae Qc5 rfl (Qaa (QaF (V:=.slice a2 s.ticks.length c2) Qgy hs 0 rfl rfl rfl (Qaa (QaX (n:=s.ticks.length) Qfi (Rd.own' hr2 hs) (by simp) rfl (Qaa (Qac (V:=I6 0) rfl (Qaf (Qam ?_)))))))))))))
 replace hs:=hs.more (row (.slice none 0 0) (List.map lsc []) 125 2) (Qbo _ _ _ _)
 refine QaA (fun J μ J' w'=>∃ (Jo:Env) (k2:Nat) (an2:Option Addr) (cn2:Nat) (L2:List Lst),J'=upd (mix ([7]++sq 28 11) Jo J) 28 (I6 (k2:Int))/\(k2<=s.ticks.length)/\(L2=s.ticks.take k2)/\(L2.length<=k2)/\μ=s.ticks.length-k2/\Own w no w' [blk b1 ((vc s.known)++[(.slice a1 s.ents.length c1:Value),(.slice a2 s.ticks.length c2:Value) ]) 38,blk b3 ((vc vzero)++[(.slice none 0 0:Value),(.slice none 0 0:Value) ]) 28,blk b5 ((vc s.known)++[(.slice an1 L1.length cn1:Value),(.slice an2 L2.length cn2:Value) ]) 28,row (.slice an1 L1.length cn1) (L1.map cec) 119 7,row (.slice an2 L2.length cn2) (L2.map lsc) 125 2]) ?_ ?_
 ·exact ⟨_,_,0,none,0,[],Qai (Qao (ds:=([7]++sq 28 11)) (Agr.refl _ _)) rfl,(by omega),rfl,(Nat.le_refl _),rfl,hs⟩
 rintro μ J' w18 ⟨Jo,k2,an2,cn2,L2,rfl,hk2,hL2,hl2,rfl,hs⟩
 have hb2:=hl2
 refine Qag (Qab (Qaa (QaS rfl rfl (Qaf (Qag (Qan (t:=decide ((k2:Int)<((s.ticks.length:Nat):Int))) rfl (fun c19=>?_) (fun c19=>?_)))))))
 ·
  replace c19:=QQ1 c19
  refine Qap (Qag (Qam (Qag (Qab (Qaa (Qax Qfi Qcz.1 (Rd.own' hr2 hs) rfl rfl (by omega) (by rw [QQ6];omega) (Qaa (QaV (j:=0) (vs:=lsc (gd s.ticks k2)) k2 Qcz (Rd.own' hr2 hs) (QaW (by omega)) rfl rfl rfl (by omega) (Qaa (QaK (cs:=lsc (⟨0,0⟩:Lst)) QjX rfl hs fun b20 w21 hs=>(Qaa (Qcq (V:=.agg (lsc (gd s.ticks k2)).toArray) (vs:=lsc (gd s.ticks k2)) (cs':=lsc (gd s.ticks k2)) Qcz.1 hs 5 rfl rfl rfl rfl rfl (QQ8 rfl) (QbF _) (Qay rfl) fun w22 hs=>(Qaf (Qab (Qaa (Qae Qb5 rfl (Qaa (QaF (V:=.slice an2 L2.length cn2) Qd6 hs 2 rfl rfl rfl (Qaa (QaI (cs:=lsc (gd s.ticks k2)) Qcz hs 5 rfl rfl rfl (Qaa (QeP (vals:=[.agg (lsc (gd s.ticks k2)).toArray]) (ls:=List.map lsc ([gd s.ticks k2]:List Lst)) QfG rfl rfl rfl (Qbi (enc:=lsc) (fun _=>rfl) _) (QaL QbF _) (QQ8 rfl) hs fun b23 w24 hs=>(Qaa (QbY (ls':=(L2++[gd s.ticks k2]).map lsc) (n:=(L2++[gd s.ticks k2]).length) QfG hs 4 rfl rfl rfl (hs.rd 6 rfl) (QaL QbF _) (by simp only [QQ6,QQ7,List.length_cons,List.length_nil];omega) (by simp) (by simp) fun a25 c25 w26 hs=>?_))))))))))))))))))))))))
  replace hs:Own w no w26 [blk b1 ((vc s.known)++[(.slice a1 s.ents.length c1:Value),(.slice a2 s.ticks.length c2:Value) ]) 38,blk b3 ((vc vzero)++[(.slice none 0 0:Value),(.slice none 0 0:Value) ]) 28,blk b5 ((vc s.known)++[(.slice an1 L1.length cn1:Value),(.slice an2 L2.length cn2:Value) ]) 28,row (.slice an1 L1.length cn1) (L1.map cec) 119 7,row (.slice a25 ((L2++[gd s.ticks k2]).length) c25) ((L2++[gd s.ticks k2]).map lsc) 125 2,blk b20 (lsc (gd s.ticks k2)) 102,row (.slice (some ⟨b23,0,none⟩) 1 1) ([gd s.ticks k2].map lsc) 125 2]:=hs
  refine Qaa (Qae Qb5 rfl (Qaa (QcR (V:=.slice a25 ((L2++[gd s.ticks k2]).length) c25) (cs':=(vc s.known)++[(.slice an1 L1.length cn1:Value),(.slice a25 ((L2++[gd s.ticks k2]).length) c25:Value) ]) Qd6 hs 2 rfl rfl rfl rfl (QQ8 rfl) rfl fun w27 hs=>(Qaf (Qab (Qaa (QaD (a:=(k2:Int)) (b:=1) (c:=((k2+1:Nat):Int)) rfl rfl (Qak (by omega) (by omega)) (Qaa (Qac (V:=I6 ((k2+1:Nat):Int)) rfl (Qaf ?_))))))))))
  refine ⟨_,?_,_,k2+1,a25,c25,L2++[gd s.ticks k2],Qai (Qao (ds:=([7]++sq 28 11)) (by repeat (first|exact Agr.refl _ _|refine Agr.upd ?_ rfl|refine Agr.mix ?_ rfl))) rfl,(by omega),(by rw [Qbg (by omega),← hL2]),(by rw [QQ7,List.length_singleton];omega),rfl,hs.take 5⟩
  omega
 replace c19:=QQ2 c19
 refine QaH (Qag (Qab (Qaa (QaI (cs:=(vc s.known)++[(.slice an1 L1.length cn1:Value),(.slice an2 L2.length cn2:Value) ]) Qdj hs 2 rfl rfl rfl (Qaa (Qcq (V:=.agg ((vc s.known)++[(.slice an1 L1.length cn1:Value),(.slice an2 L2.length cn2:Value) ]).toArray) (vs:=(vc s.known)++[(.slice an1 L1.length cn1:Value),(.slice an2 L2.length cn2:Value) ]) (cs':=(vc s.known)++[(.slice an1 L1.length cn1:Value),(.slice an2 L2.length cn2:Value) ]) Qdj.1 hs 1 rfl rfl rfl rfl rfl (QQ8 rfl) (QbB (Qcd _) (Qat rfl (Qat rfl Qa9))) (Qay rfl) fun w28 hs=>(Qaf (Qaw ?_))))))))
 refine ⟨_,QcB (cs:=(vc s.known)++[(.slice an1 L1.length cn1:Value),(.slice an2 L2.length cn2:Value) ]) Tryz.results20 Qdj hs 1 rfl rfl rfl,?_⟩
 have hX:L1=s.ents:=by rw [hL1,List.take_of_length_le (by omega)]
 have hY:L2=s.ticks:=by rw [hL2,List.take_of_length_le (by omega)]
 rw [hX,hY] at hs ⊢
 exact ⟨((an1,cn1),(an2,cn2)),rfl,hs.two 3 4 (by decide) rfl rfl,trivial⟩
theorem QlQ (w:World) (s:Sta) (a1:Option Addr) (c1:Nat) (a2:Option Addr) (c2:Nat) (hle:s.ents.length<=100000) (hlt:s.ticks.length<=100000) (hr1:Rd w (.slice a1 s.ents.length c1) 7 (s.ents.map cec)) (hr2:Rd w (.slice a2 s.ticks.length c2) 2 (s.ticks.map lsc)):Calls Tryz.prog 51 #[.agg ((vc s.known)++[(.slice a1 s.ents.length c1:Value),(.slice a2 s.ticks.length c2:Value) ]).toArray] w (fun e w'=>∃ x:(Option Addr × Nat) × (Option Addr × Nat),e = .returned (.agg (vc (s).known++[(.slice x.1.1 (s).ents.length x.1.2:Value),(.slice x.2.1 (s).ticks.length x.2.2:Value)]).toArray)/\Own w no w' [row (.slice x.1.1 (s).ents.length x.1.2) ((s).ents.map cec) 106 7,row (.slice x.2.1 (s).ticks.length x.2.2) ((s).ticks.map lsc) 102 2]/\True):=by
 refine Qaj (n:=40) Tryz.func51 rfl Tryz.ntmps51 rfl ?_
 have hs:=Own.start w
 refine Qag (Qab (Qaa (QaR (V:=.agg ((vc s.known)++[(.slice a1 s.ents.length c1:Value),(.slice a2 s.ticks.length c2:Value) ]).toArray) (cs:=(vc s.known)++[(.slice a1 s.ents.length c1:Value),(.slice a2 s.ticks.length c2:Value) ]) rfl rfl hs fun b1 w2 hs=>(Qaa (QaK (cs:=(vc vzero)++[(.slice none 0 0:Value),(.slice none 0 0:Value) ]) QgU rfl hs fun b3 w4 hs=>(Qaf (Qag (Qab (Qaa (Qae Qew rfl (Qaa (QbL (vs:=vc s.known) Qbt hs 0 rfl rfl rfl rfl (Qaa (Qcs (vs:=[(0,.agg (vc s.known).toArray)]) (cs:=(vc s.known)++[(.slice none 0 0:Value),(.slice none 0 0:Value) ]) [vc vzero,[(.slice none 0 0:Value)],[(.slice none 0 0:Value)]] [vc s.known,[(.slice none 0 0:Value)],[(.slice none 0 0:Value)]] Qru rfl (rfl) rfl rfl (Qaa (QaK (cs:=(vc vzero)++[(.slice none 0 0:Value),(.slice none 0 0:Value) ]) QgU rfl hs fun b5 w6 hs=>(Qaa (Qcq (V:=.agg ((vc s.known)++[(.slice none 0 0:Value),(.slice none 0 0:Value) ]).toArray) (vs:=(vc s.known)++[(.slice none 0 0:Value),(.slice none 0 0:Value) ]) (cs':=(vc s.known)++[(.slice none 0 0:Value),(.slice none 0 0:Value) ]) QcD.1 hs 2 rfl rfl rfl rfl rfl (QQ8 rfl) (QbB (Qcd _) (Qat rfl (Qat rfl Qa9))) (Qay rfl) fun w7 hs=>?_))))))))))))))))))
 replace hs:Own w no w7 [blk b1 ((vc s.known)++[(.slice a1 s.ents.length c1:Value),(.slice a2 s.ticks.length c2:Value) ]) 28,blk b3 ((vc vzero)++[(.slice none 0 0:Value),(.slice none 0 0:Value) ]) 38,blk b5 ((vc s.known)++[(.slice none 0 0:Value),(.slice none 0 0:Value) ]) 38]:=hs
 refine Qaf (Qag (Qag (Qab (Qaa (Qae Qbv rfl (Qaa (QaF (V:=.slice a1 s.ents.length c1) QcL hs 0 rfl rfl rfl (Qaa (QaX (n:=s.ents.length) Qcv (Rd.own' hr1 hs) (by simp) rfl (Qaa (Qac (V:=I6 0) rfl (Qaf (Qam ?_)))))))))))))
 replace hs:=hs.more (row (.slice none 0 0) (List.map cec []) 106 7) (Qbo _ _ _ _)
 refine QaA (fun J μ J' w'=>∃ (Jo:Env) (k1:Nat) (an1:Option Addr) (cn1:Nat) (L1:List Cen),J'=upd (mix ([5]++sq 14 11) Jo J) 14 (I6 (k1:Int))/\(k1<=s.ents.length)/\(L1=s.ents.take k1)/\(L1.length<=k1)/\μ=s.ents.length-k1/\Own w no w' [blk b1 ((vc s.known)++[(.slice a1 s.ents.length c1:Value),(.slice a2 s.ticks.length c2:Value) ]) 28,blk b3 ((vc vzero)++[(.slice none 0 0:Value),(.slice none 0 0:Value) ]) 38,blk b5 ((vc s.known)++[(.slice an1 L1.length cn1:Value),(.slice none 0 0:Value) ]) 38,row (.slice an1 L1.length cn1) (L1.map cec) 106 7]) ?_ ?_
 ·exact ⟨_,_,0,none,0,[],Qai (Qao (ds:=([5]++sq 14 11)) (Agr.refl _ _)) rfl,(by omega),rfl,(Nat.le_refl _),rfl,hs⟩
 rintro μ J' w8 ⟨Jo,k1,an1,cn1,L1,rfl,hk1,hL1,hl1,rfl,hs⟩
 have hb1:=hl1
 refine Qag (Qab (Qaa (QaS rfl rfl (Qaf (Qag (Qan (t:=decide ((k1:Int)<((s.ents.length:Nat):Int))) rfl (fun c9=>?_) (fun c9=>?_)))))))
 ·
  replace c9:=QQ1 c9
  refine Qap (Qag (Qam (Qag (Qab (Qaa (Qax Qcv Qbp.1 (Rd.own' hr1 hs) rfl rfl (by omega) (by rw [QQ6];omega) (Qaa (QaV (j:=0) (vs:=cec (gd s.ents k1)) k1 Qbp (Rd.own' hr1 hs) (QaW (by omega)) rfl rfl rfl (by omega) (Qaa (QaK (cs:=cec (⟨0,0,0,0,(⟨0,0⟩:Dot),0⟩:Cen)) QmP rfl hs fun b10 w11 hs=>(Qaa (Qcq (V:=.agg (cec (gd s.ents k1)).toArray) (vs:=cec (gd s.ents k1)) (cs':=cec (gd s.ents k1)) Qbp.1 hs 4 rfl rfl rfl rfl rfl (QQ8 rfl) (Qa6 _) (Qay rfl) fun w12 hs=>(Qaf (Qab (Qaa (Qae QdR rfl (Qaa (QaF (V:=.slice an1 L1.length cn1) Qit hs 2 rfl rfl rfl (Qaa (QaI (cs:=cec (gd s.ents k1)) Qbp hs 4 rfl rfl rfl (Qaa (QeP (vals:=[.agg (cec (gd s.ents k1)).toArray]) (ls:=List.map cec ([gd s.ents k1]:List Cen)) QhV rfl rfl rfl (Qbi (enc:=cec) (fun _=>rfl) _) (QaL Qa6 _) (QQ8 rfl) hs fun b13 w14 hs=>(Qaa (QbY (ls':=(L1++[gd s.ents k1]).map cec) (n:=(L1++[gd s.ents k1]).length) QhV hs 3 rfl rfl rfl (hs.rd 5 rfl) (QaL Qa6 _) (by simp only [QQ6,QQ7,List.length_cons,List.length_nil];omega) (by simp) (by simp) fun a15 c15 w16 hs=>?_))))))))))))))))))))))))
  replace hs:Own w no w16 [blk b1 ((vc s.known)++[(.slice a1 s.ents.length c1:Value),(.slice a2 s.ticks.length c2:Value) ]) 28,blk b3 ((vc vzero)++[(.slice none 0 0:Value),(.slice none 0 0:Value) ]) 38,blk b5 ((vc s.known)++[(.slice an1 L1.length cn1:Value),(.slice none 0 0:Value) ]) 38,row (.slice a15 ((L1++[gd s.ents k1]).length) c15) ((L1++[gd s.ents k1]).map cec) 106 7,blk b10 (cec (gd s.ents k1)) 119,row (.slice (some ⟨b13,0,none⟩) 1 1) ([gd s.ents k1].map cec) 106 7]:=hs
  refine Qaa (Qae QdR rfl (Qaa (QcR (V:=.slice a15 ((L1++[gd s.ents k1]).length) c15) (cs':=(vc s.known)++[(.slice a15 ((L1++[gd s.ents k1]).length) c15:Value),(.slice none 0 0:Value) ]) Qit hs 2 rfl rfl rfl rfl (QQ8 rfl) rfl fun w17 hs=>(Qaf (Qab (Qaa (QaD (a:=(k1:Int)) (b:=1) (c:=((k1+1:Nat):Int)) rfl rfl (Qak (by omega) (by omega)) (Qaa (Qac (V:=I6 ((k1+1:Nat):Int)) rfl (Qaf ?_))))))))))
  refine ⟨_,?_,_,k1+1,a15,c15,L1++[gd s.ents k1],Qai (Qao (ds:=([5]++sq 14 11)) (by repeat (first|exact Agr.refl _ _|refine Agr.upd ?_ rfl|refine Agr.mix ?_ rfl))) rfl,(by omega),(by rw [Qbg (by omega),← hL1]),(by rw [QQ7,List.length_singleton];omega),rfl,hs.take 4⟩
  omega
 replace c9:=QQ2 c9
 refine QaH (Qag (Qag (Qab (Qaa (Qae Qb5 rfl (Qaa (QaF (V:=.slice a2 s.ticks.length c2) Qd6 hs 0 rfl rfl rfl (Qaa (QaX (n:=s.ticks.length) QdU (Rd.own' hr2 hs) (by simp) rfl (Qaa (Qac (V:=I6 0) rfl (Qaf (Qam ?_)))))))))))))
 replace hs:=hs.more (row (.slice none 0 0) (List.map lsc []) 102 2) (Qbo _ _ _ _)
 refine QaA (fun J μ J' w'=>∃ (Jo:Env) (k2:Nat) (an2:Option Addr) (cn2:Nat) (L2:List Lst),J'=upd (mix ([7]++sq 28 11) Jo J) 28 (I6 (k2:Int))/\(k2<=s.ticks.length)/\(L2=s.ticks.take k2)/\(L2.length<=k2)/\μ=s.ticks.length-k2/\Own w no w' [blk b1 ((vc s.known)++[(.slice a1 s.ents.length c1:Value),(.slice a2 s.ticks.length c2:Value) ]) 28,blk b3 ((vc vzero)++[(.slice none 0 0:Value),(.slice none 0 0:Value) ]) 38,blk b5 ((vc s.known)++[(.slice an1 L1.length cn1:Value),(.slice an2 L2.length cn2:Value) ]) 38,row (.slice an1 L1.length cn1) (L1.map cec) 106 7,row (.slice an2 L2.length cn2) (L2.map lsc) 102 2]) ?_ ?_
 ·exact ⟨_,_,0,none,0,[],Qai (Qao (ds:=([7]++sq 28 11)) (Agr.refl _ _)) rfl,(by omega),rfl,(Nat.le_refl _),rfl,hs⟩
 rintro μ J' w18 ⟨Jo,k2,an2,cn2,L2,rfl,hk2,hL2,hl2,rfl,hs⟩
 have hb2:=hl2
 refine Qag (Qab (Qaa (QaS rfl rfl (Qaf (Qag (Qan (t:=decide ((k2:Int)<((s.ticks.length:Nat):Int))) rfl (fun c19=>?_) (fun c19=>?_)))))))
 ·
  replace c19:=QQ1 c19
  refine Qap (Qag (Qam (Qag (Qab (Qaa (Qax QdU Qcu.1 (Rd.own' hr2 hs) rfl rfl (by omega) (by rw [QQ6];omega) (Qaa (QaV (j:=0) (vs:=lsc (gd s.ticks k2)) k2 Qcu (Rd.own' hr2 hs) (QaW (by omega)) rfl rfl rfl (by omega) (Qaa (QaK (cs:=lsc (⟨0,0⟩:Lst)) QpA rfl hs fun b20 w21 hs=>(Qaa (Qcq (V:=.agg (lsc (gd s.ticks k2)).toArray) (vs:=lsc (gd s.ticks k2)) (cs':=lsc (gd s.ticks k2)) Qcu.1 hs 5 rfl rfl rfl rfl rfl (QQ8 rfl) (QbF _) (Qay rfl) fun w22 hs=>(Qaf (Qab (Qaa (Qae Qc5 rfl (Qaa (QaF (V:=.slice an2 L2.length cn2) Qgy hs 2 rfl rfl rfl (Qaa (QaI (cs:=lsc (gd s.ticks k2)) Qcu hs 5 rfl rfl rfl (Qaa (QeP (vals:=[.agg (lsc (gd s.ticks k2)).toArray]) (ls:=List.map lsc ([gd s.ticks k2]:List Lst)) QnU rfl rfl rfl (Qbi (enc:=lsc) (fun _=>rfl) _) (QaL QbF _) (QQ8 rfl) hs fun b23 w24 hs=>(Qaa (QbY (ls':=(L2++[gd s.ticks k2]).map lsc) (n:=(L2++[gd s.ticks k2]).length) QnU hs 4 rfl rfl rfl (hs.rd 6 rfl) (QaL QbF _) (by simp only [QQ6,QQ7,List.length_cons,List.length_nil];omega) (by simp) (by simp) fun a25 c25 w26 hs=>?_))))))))))))))))))))))))
  replace hs:Own w no w26 [blk b1 ((vc s.known)++[(.slice a1 s.ents.length c1:Value),(.slice a2 s.ticks.length c2:Value) ]) 28,blk b3 ((vc vzero)++[(.slice none 0 0:Value),(.slice none 0 0:Value) ]) 38,blk b5 ((vc s.known)++[(.slice an1 L1.length cn1:Value),(.slice an2 L2.length cn2:Value) ]) 38,row (.slice an1 L1.length cn1) (L1.map cec) 106 7,row (.slice a25 ((L2++[gd s.ticks k2]).length) c25) ((L2++[gd s.ticks k2]).map lsc) 102 2,blk b20 (lsc (gd s.ticks k2)) 125,row (.slice (some ⟨b23,0,none⟩) 1 1) ([gd s.ticks k2].map lsc) 102 2]:=hs
  refine Qaa (Qae Qc5 rfl (Qaa (QcR (V:=.slice a25 ((L2++[gd s.ticks k2]).length) c25) (cs':=(vc s.known)++[(.slice an1 L1.length cn1:Value),(.slice a25 ((L2++[gd s.ticks k2]).length) c25:Value) ]) Qgy hs 2 rfl rfl rfl rfl (QQ8 rfl) rfl fun w27 hs=>(Qaf (Qab (Qaa (QaD (a:=(k2:Int)) (b:=1) (c:=((k2+1:Nat):Int)) rfl rfl (Qak (by omega) (by omega)) (Qaa (Qac (V:=I6 ((k2+1:Nat):Int)) rfl (Qaf ?_))))))))))
  refine ⟨_,?_,_,k2+1,a25,c25,L2++[gd s.ticks k2],Qai (Qao (ds:=([7]++sq 28 11)) (by repeat (first|exact Agr.refl _ _|refine Agr.upd ?_ rfl|refine Agr.mix ?_ rfl))) rfl,(by omega),(by rw [Qbg (by omega),← hL2]),(by rw [QQ7,List.length_singleton];omega),rfl,hs.take 5⟩
  omega
 replace c19:=QQ2 c19
 refine QaH (Qag (Qab (Qaa (QaI (cs:=(vc s.known)++[(.slice an1 L1.length cn1:Value),(.slice an2 L2.length cn2:Value) ]) QcD hs 2 rfl rfl rfl (Qaa (Qcq (V:=.agg ((vc s.known)++[(.slice an1 L1.length cn1:Value),(.slice an2 L2.length cn2:Value) ]).toArray) (vs:=(vc s.known)++[(.slice an1 L1.length cn1:Value),(.slice an2 L2.length cn2:Value) ]) (cs':=(vc s.known)++[(.slice an1 L1.length cn1:Value),(.slice an2 L2.length cn2:Value) ]) QcD.1 hs 1 rfl rfl rfl rfl rfl (QQ8 rfl) (QbB (Qcd _) (Qat rfl (Qat rfl Qa9))) (Qay rfl) fun w28 hs=>(Qaf (Qaw ?_))))))))
 refine ⟨_,QcB (cs:=(vc s.known)++[(.slice an1 L1.length cn1:Value),(.slice an2 L2.length cn2:Value) ]) Tryz.results51 QcD hs 1 rfl rfl rfl,?_⟩
 have hX:L1=s.ents:=by rw [hL1,List.take_of_length_le (by omega)]
 have hY:L2=s.ticks:=by rw [hL2,List.take_of_length_le (by omega)]
 rw [hX,hY] at hs ⊢
 exact ⟨((an1,cn1),(an2,cn2)),rfl,hs.two 3 4 (by decide) rfl rfl,trivial⟩
theorem Qpn (w:World) (p:Sta) (a1p:Option Addr) (c1p:Nat) (a2p:Option Addr) (c2p:Nat) (q:Sta) (a1q:Option Addr) (c1q:Nat) (a2q:Option Addr) (c2q:Nat) (hr1p:Rd w (.slice a1p p.ents.length c1p) 7 (p.ents.map cec)) (hr2p:Rd w (.slice a2p p.ticks.length c2p) 2 (p.ticks.map lsc)) (hr1q:Rd w (.slice a1q q.ents.length c1q) 7 (q.ents.map cec)) (hr2q:Rd w (.slice a2q q.ticks.length c2q) 2 (q.ticks.map lsc)):Calls Tryz.prog 19 #[.agg ((vc p.known)++[(.slice a1p p.ents.length c1p:Value),(.slice a2p p.ticks.length c2p:Value) ]).toArray,.agg ((vc q.known)++[(.slice a1q q.ents.length c1q:Value),(.slice a2q q.ticks.length c2q:Value) ]).toArray] w (fun e w'=>e = .returned (.bool (decide (p.known=q.known)&&(decide (p.ents=q.ents)&&decide (p.ticks=q.ticks))))/\Own w no w' []):=by
 refine Qaj (n:=66) Tryz.func19 rfl Tryz.ntmps19 rfl ?_
 have hs:=Own.start w
 have hn1:=hr1p.sml
 have hn2:=hr2p.sml
 have hn3:=hr1q.sml
 have hn4:=hr2q.sml
 refine Qag (Qab (Qaa (QaR (V:=.agg ((vc p.known)++[(.slice a1p p.ents.length c1p:Value),(.slice a2p p.ticks.length c2p:Value) ]).toArray) (cs:=(vc p.known)++[(.slice a1p p.ents.length c1p:Value),(.slice a2p p.ticks.length c2p:Value) ]) rfl rfl hs fun b1 w2 hs=>(Qaa (QaR (V:=.agg ((vc q.known)++[(.slice a1q q.ents.length c1q:Value),(.slice a2q q.ticks.length c2q:Value) ]).toArray) (cs:=(vc q.known)++[(.slice a1q q.ents.length c1q:Value),(.slice a2q q.ticks.length c2q:Value) ]) rfl rfl hs fun b3 w4 hs=>(Qaa (Qad (V:=.bool false) rfl (Qaf (Qag (Qag (Qbm [some 7,some 8,some 9,some 10,some 11,some 12,some 13,some 14,some 15,some 16,some 17,some 18,some 19,some 20,some 21,some 22,some 23,some 24,some 25,some 26,some 27,some 28,some 29] [] [0,1,0,4,15,31,63,127,255,63,575,1599,4095,8191,16383,32767,65535,131071,32767,294911,819199,2097151,4194303] [pv (Pq b1 (0+0)),pv (.agg (vc p.known).toArray),pv (Pq b3 (0+0)),pv (.agg (vc q.known).toArray),pv (.bool (!decide (p.known=q.known))),pv (.bool (!decide (p.known=q.known))),pg ((!decide (p.known=q.known)) == false) (Pq b1 (0+16)),pg ((!decide (p.known=q.known)) == false) (.slice a1p p.ents.length c1p),pg ((!decide (p.known=q.known)) == false) (I6 ((p.ents.length:Nat):Int)),pg ((!decide (p.known=q.known)) == false) (Pq b3 (0+16)),pg ((!decide (p.known=q.known)) == false) (.slice a1q q.ents.length c1q),pg ((!decide (p.known=q.known)) == false) (I6 ((q.ents.length:Nat):Int)),pg ((!decide (p.known=q.known)) == false) (.bool (!decide (((p.ents.length:Nat):Int)=((q.ents.length:Nat):Int)))),pv (.bool ((!decide (p.known=q.known))||(!decide (((p.ents.length:Nat):Int)=((q.ents.length:Nat):Int))))),pv (.bool ((!decide (p.known=q.known))||(!decide (((p.ents.length:Nat):Int)=((q.ents.length:Nat):Int))))),pg (((!decide (p.known=q.known))||(!decide (((p.ents.length:Nat):Int)=((q.ents.length:Nat):Int)))) == false) (Pq b1 (0+17)),pg (((!decide (p.known=q.known))||(!decide (((p.ents.length:Nat):Int)=((q.ents.length:Nat):Int)))) == false) (.slice a2p p.ticks.length c2p),pg (((!decide (p.known=q.known))||(!decide (((p.ents.length:Nat):Int)=((q.ents.length:Nat):Int)))) == false) (I6 ((p.ticks.length:Nat):Int)),pg (((!decide (p.known=q.known))||(!decide (((p.ents.length:Nat):Int)=((q.ents.length:Nat):Int)))) == false) (Pq b3 (0+17)),pg (((!decide (p.known=q.known))||(!decide (((p.ents.length:Nat):Int)=((q.ents.length:Nat):Int)))) == false) (.slice a2q q.ticks.length c2q),pg (((!decide (p.known=q.known))||(!decide (((p.ents.length:Nat):Int)=((q.ents.length:Nat):Int)))) == false) (I6 ((q.ticks.length:Nat):Int)),pg (((!decide (p.known=q.known))||(!decide (((p.ents.length:Nat):Int)=((q.ents.length:Nat):Int)))) == false) (.bool (!decide (((p.ticks.length:Nat):Int)=((q.ticks.length:Nat):Int)))),pv (.bool (((!decide (p.known=q.known))||(!decide (((p.ents.length:Nat):Int)=((q.ents.length:Nat):Int))))||(!decide (((p.ticks.length:Nat):Int)=((q.ticks.length:Nat):Int)))))] (fun _ _=>_) [22] (by kernel_rfl) hs ⟨?_,?_,?_,?_,?_,?_,?_,?_,?_,?_,?_,?_,?_,?_,?_,?_,?_,?_,?_,?_,?_,?_,?_,trivial⟩ ?_)))))))))))
 ·exact oa [] fun D J w hs=>Qae Qew rfl (Zz hs)
 ·exact oa [0] fun D J w hs=>QbL (vs:=vc p.known) Qbt hs 0 rfl rfl rfl rfl (Zz hs)
 ·exact oa [] fun D J w hs=>Qae Qew rfl (Zz hs)
 ·exact oa [2] fun D J w hs=>QbL (vs:=vc q.known) Qbt hs 1 rfl rfl rfl rfl (Zz hs)
 ·exact oa [1,3] fun D J w hs=>QoR (xs:=vc p.known) (ys:=vc q.known) Tryz.eqGuardType24 (QsS p.known q.known) rfl rfl rfl (Zz hs)
 ·exact oa [4] fun D J w hs=>Qac (V:=.bool (!decide (p.known=q.known))) rfl (Zz hs)
 ·exact og [5] fun D J w hG hs=>Qae Qbv rfl (Zz hs)
 ·exact oy [5,6] [6] fun D J w hG hs=>QaF (V:=.slice a1p p.ents.length c1p) QcL hs 0 rfl rfl rfl (Zz hs)
 ·exact oy [5,7] [7] fun D J w hG hs=>QaX (n:=p.ents.length) Qcv (Rd.own' hr1p hs) (by simp) rfl (Zz hs)
 ·exact og [5] fun D J w hG hs=>Qae Qbv rfl (Zz hs)
 ·exact oy [5,9] [9] fun D J w hG hs=>QaF (V:=.slice a1q q.ents.length c1q) QcL hs 1 rfl rfl rfl (Zz hs)
 ·exact oy [5,10] [10] fun D J w hG hs=>QaX (n:=q.ents.length) Qcv (Rd.own' hr1q hs) (by simp) rfl (Zz hs)
 ·exact oy [5,8,11] [8,11] fun D J w hG hs=>Qb7 rfl rfl (Zz hs)
 ·exact oa [5,12] fun D J w hs=>QbM (h':=!decide (((p.ents.length:Nat):Int)=((q.ents.length:Nat):Int))) rfl rfl rfl (Zz hs)
 ·exact oa [13] fun D J w hs=>Qac (V:=.bool ((!decide (p.known=q.known))||(!decide (((p.ents.length:Nat):Int)=((q.ents.length:Nat):Int))))) rfl (Zz hs)
 ·exact og [14] fun D J w hG hs=>Qae Qb5 rfl (Zz hs)
 ·exact oy [14,15] [15] fun D J w hG hs=>QaF (V:=.slice a2p p.ticks.length c2p) Qd6 hs 0 rfl rfl rfl (Zz hs)
 ·exact oy [14,16] [16] fun D J w hG hs=>QaX (n:=p.ticks.length) QdU (Rd.own' hr2p hs) (by simp) rfl (Zz hs)
 ·exact og [14] fun D J w hG hs=>Qae Qb5 rfl (Zz hs)
 ·exact oy [14,18] [18] fun D J w hG hs=>QaF (V:=.slice a2q q.ticks.length c2q) Qd6 hs 1 rfl rfl rfl (Zz hs)
 ·exact oy [14,19] [19] fun D J w hG hs=>QaX (n:=q.ticks.length) QdU (Rd.own' hr2q hs) (by simp) rfl (Zz hs)
 ·exact oy [14,17,20] [17,20] fun D J w hG hs=>Qb7 rfl rfl (Zz hs)
 ·exact oa [14,21] fun D J w hs=>QbM (h':=!decide (((p.ticks.length:Nat):Int)=((q.ticks.length:Nat):Int))) rfl rfl rfl (Zz hs)
 rintro J1 w5 J2 hJ hs
 replace hJ:J2=upd (mix (sq 7 23) J1 _) 29 (.bool (((!decide (p.known=q.known))||(!decide (((p.ents.length:Nat):Int)=((q.ents.length:Nat):Int))))||(!decide (((p.ticks.length:Nat):Int)=((q.ticks.length:Nat):Int))))):=hJ
 subst hJ
 refine Qan (t:=((!decide (p.known=q.known))||(!decide (((p.ents.length:Nat):Int)=((q.ents.length:Nat):Int))))||(!decide (((p.ticks.length:Nat):Int)=((q.ticks.length:Nat):Int)))) rfl (fun c6=>?_) (fun c6=>?_)
 ·
  refine Qag (Qab (Qaa (Qad (V:=.bool false) rfl (Qaf (Qaw ?_)))))
  refine ⟨_,Qaq (V:=.bool false) Tryz.results19 rfl,(Zr hs (congrArg Value.bool (Eq.symm ?_)))⟩
  rw [Bool.eq_false_iff]
  intro g
  simp only [Bool.and_eq_true,decide_eq_true_eq] at g
  obtain ⟨g1,g2,g3⟩:=g
  have hc:=c6
  rw [g1,g2,g3] at hc
  simp at hc
 have c6r:=Qeo c6
 replace c6:=Qet c6
 have c6rr:=Qeo c6
 replace c6:=Qet c6
 replace c6:=Qbd c6
 replace c6:=QQ1 c6
 replace c6rr:=Qbd c6rr
 replace c6rr:=QQ1 c6rr
 replace c6r:=Qbd c6r
 replace c6r:=QQ1 c6r
 refine Qap (Qag (Qag (Qab (Qaa (Qad (V:=I6 0) rfl (Qaf (Qam (QaA (fun J μ J' w'=>∃ (Jo:Env) (ke1:Nat),J'=upd (mix ([4,5]++sq 30 18) Jo J) 5 (I6 (ke1:Int))/\(ke1<=p.ents.length)/\(∀ j:Nat,j<ke1->gd p.ents j=gd q.ents j)/\μ=p.ents.length-ke1/\Own w no w' [blk b1 ((vc p.known)++[(.slice a1p p.ents.length c1p:Value),(.slice a2p p.ticks.length c2p:Value) ]) 28,blk b3 ((vc q.known)++[(.slice a1q q.ents.length c1q:Value),(.slice a2q q.ticks.length c2q:Value) ]) 28]) ?_ ?_))))))))
 ·exact ⟨_,_,0,Qai (Qao (ds:=([4,5]++sq 30 18)) (Agr.refl _ _)) rfl,(by omega),(fun j hj=>absurd hj (Nat.not_lt_zero j)),rfl,hs⟩
 rintro μ J' w7 ⟨Jo,ke1,rfl,hke1,e1,rfl,hs⟩
 refine Qag (Qag (Qab (Qaa (Qac (V:=I6 (ke1:Int)) rfl (Qaa (Qae Qbv rfl (Qaa (QaF (V:=.slice a1p p.ents.length c1p) QcL hs 0 rfl rfl rfl (Qaa (QaX (n:=p.ents.length) Qcv (Rd.own' hr1p hs) (by simp) rfl (Qaa (QaS rfl rfl (Qaf (Qan (t:=decide ((ke1:Int)<((p.ents.length:Nat):Int))) rfl (fun c8=>?_) (fun c8=>?_)))))))))))))))
 ·
  replace c8:=QQ1 c8
  refine Qap (Qag (Qam (Qag (QaJ HM [some 37,some 38,some 39,some 40,some 41,some 42,some 43,some 44,some 45,some 46,some 47] [] [0,1,0,7,15,0,32,0,224,480,1023] [pv (Pq b1 (0+16)),pv (.slice a1p p.ents.length c1p),pv (I6 (ke1:Int)),pv (.pointer (some ⟨bkS (.slice a1p p.ents.length c1p),ofS (.slice a1p p.ents.length c1p)+(ke1:Int).toNat*7,none⟩)),pv (.agg (cec (gd p.ents ke1)).toArray),pv (Pq b3 (0+16)),pv (.slice a1q q.ents.length c1q),pv (I6 (ke1:Int)),pv (.pointer (some ⟨bkS (.slice a1q q.ents.length c1q),ofS (.slice a1q q.ents.length c1q)+(ke1:Int).toNat*7,none⟩)),pv (.agg (cec (gd q.ents ke1)).toArray),pv (.bool (!decide (gd p.ents ke1=gd q.ents ke1)))] (fun _ _=>_) [10] (by kernel_rfl) hs ⟨?_,?_,?_,?_,?_,?_,?_,?_,?_,?_,?_,trivial⟩ ?_))))
  ·exact oa [] fun D J w hs=>Qae Qbv rfl (Zz hs)
  ·exact oa [0] fun D J w hs=>QaF (V:=.slice a1p p.ents.length c1p) QcL hs 0 rfl rfl rfl (Zz hs)
  ·exact oa [] fun D J w hs=>Qac (V:=.int .i64 (ke1:Int)) rfl (Zz hs)
  ·exact oa [1,2] fun D J w hs=>Qax Qcv Qbp.1 (Rd.own' hr1p hs) rfl rfl (by omega) (by rw [QQ6];omega) (Zz hs)
  ·exact oa [3] fun D J w hs=>QaV (j:=0) (vs:=cec (gd p.ents ke1)) ke1 Qbp (Rd.own' hr1p hs) (QaW (by omega)) rfl rfl rfl (by omega) (Zz hs)
  ·exact oa [] fun D J w hs=>Qae Qbv rfl (Zz hs)
  ·exact oa [5] fun D J w hs=>QaF (V:=.slice a1q q.ents.length c1q) QcL hs 1 rfl rfl rfl (Zz hs)
  ·exact oa [] fun D J w hs=>Qac (V:=.int .i64 (ke1:Int)) rfl (Zz hs)
  ·exact oa [6,7] fun D J w hs=>Qax Qcv Qbp.1 (Rd.own' hr1q hs) rfl rfl (by omega) (by rw [QQ6];omega) (Zz hs)
  ·exact oa [8] fun D J w hs=>QaV (j:=0) (vs:=cec (gd q.ents ke1)) ke1 Qbp (Rd.own' hr1q hs) (QaW (by omega)) rfl rfl rfl (by omega) (Zz hs)
  ·exact oa [4,9] fun D J w hs=>QoR (xs:=cec (gd p.ents ke1)) (ys:=cec (gd q.ents ke1)) Tryz.eqGuardType119 (Qsl (gd p.ents ke1) (gd q.ents ke1)) rfl rfl rfl (Zz hs)
  rintro J1 w9 J2 hJ hs
  replace hJ:J2=upd (mix (sq 37 11) J1 _) 47 (.bool (!decide (gd p.ents ke1=gd q.ents ke1))):=hJ
  subst hJ
  refine Qan (t:=!decide (gd p.ents ke1=gd q.ents ke1)) rfl (fun c10=>?_) (fun c10=>?_)
  ·
   replace c10:=Qbs c10
   replace c10:=QQ2 c10
   refine Qag (Qab (Qaa (Qad (V:=.bool false) rfl (Qaf (Qaw ?_)))))
   refine ⟨_,Qaq (V:=.bool false) Tryz.results19 rfl,(Zr hs (congrArg Value.bool (Eq.symm ?_)))⟩
   rw [Bool.eq_false_iff]
   intro g
   simp only [Bool.and_eq_true,decide_eq_true_eq] at g
   obtain ⟨g1,g2,g3⟩:=g
   exact c10 (by rw [g2])
  replace c10:=Qbd c10
  replace c10:=QQ1 c10
  refine Qap (Qab (Qaa (Qac (V:=I6 (ke1:Int)) rfl (Qaa (QaD (a:=(ke1:Int)) (b:=1) (c:=((ke1+1:Nat):Int)) rfl rfl (Qak (by omega) (by omega)) (Qaa (Qad (V:=I6 ((ke1+1:Nat):Int)) rfl (Qaf ?_))))))))
  refine ⟨_,?_,_,ke1+1,Qai (Qao (ds:=([4,5]++sq 30 18)) (by repeat (first|exact Agr.refl _ _|refine Agr.upd ?_ rfl|refine Agr.mix ?_ rfl))) rfl,(by omega),(Qhs e1 c10),rfl,hs.take 2⟩
  omega
 replace c8:=QQ2 c8
 refine QaH (Qag (Qag (Qab (Qaa (Qad (V:=I6 0) rfl (Qaf (Qam (QaA (fun J μ J' w'=>∃ (Jo:Env) (ke2:Nat),J'=upd (mix ([4,6]++sq 48 18) Jo J) 6 (I6 (ke2:Int))/\(ke2<=p.ticks.length)/\(∀ j:Nat,j<ke2->gd p.ticks j=gd q.ticks j)/\μ=p.ticks.length-ke2/\Own w no w' [blk b1 ((vc p.known)++[(.slice a1p p.ents.length c1p:Value),(.slice a2p p.ticks.length c2p:Value) ]) 28,blk b3 ((vc q.known)++[(.slice a1q q.ents.length c1q:Value),(.slice a2q q.ticks.length c2q:Value) ]) 28]) ?_ ?_))))))))
 ·exact ⟨_,_,0,Qai (Qao (ds:=([4,6]++sq 48 18)) (Agr.refl _ _)) rfl,(by omega),(fun j hj=>absurd hj (Nat.not_lt_zero j)),rfl,hs⟩
 rintro μ J' w11 ⟨Jo,ke2,rfl,hke2,e2,rfl,hs⟩
 refine Qag (Qag (Qab (Qaa (Qac (V:=I6 (ke2:Int)) rfl (Qaa (Qae Qb5 rfl (Qaa (QaF (V:=.slice a2p p.ticks.length c2p) Qd6 hs 0 rfl rfl rfl (Qaa (QaX (n:=p.ticks.length) QdU (Rd.own' hr2p hs) (by simp) rfl (Qaa (QaS rfl rfl (Qaf (Qan (t:=decide ((ke2:Int)<((p.ticks.length:Nat):Int))) rfl (fun c12=>?_) (fun c12=>?_)))))))))))))))
 ·
  replace c12:=QQ1 c12
  refine Qap (Qag (Qam (Qag (QaJ HM [some 55,some 56,some 57,some 58,some 59,some 60,some 61,some 62,some 63,some 64,some 65] [] [0,1,0,7,15,0,32,0,224,480,1023] [pv (Pq b1 (0+17)),pv (.slice a2p p.ticks.length c2p),pv (I6 (ke2:Int)),pv (.pointer (some ⟨bkS (.slice a2p p.ticks.length c2p),ofS (.slice a2p p.ticks.length c2p)+(ke2:Int).toNat*2,none⟩)),pv (.agg (lsc (gd p.ticks ke2)).toArray),pv (Pq b3 (0+17)),pv (.slice a2q q.ticks.length c2q),pv (I6 (ke2:Int)),pv (.pointer (some ⟨bkS (.slice a2q q.ticks.length c2q),ofS (.slice a2q q.ticks.length c2q)+(ke2:Int).toNat*2,none⟩)),pv (.agg (lsc (gd q.ticks ke2)).toArray),pv (.bool (!decide (gd p.ticks ke2=gd q.ticks ke2)))] (fun _ _=>_) [10] (by kernel_rfl) hs ⟨?_,?_,?_,?_,?_,?_,?_,?_,?_,?_,?_,trivial⟩ ?_))))
  ·exact oa [] fun D J w hs=>Qae Qb5 rfl (Zz hs)
  ·exact oa [0] fun D J w hs=>QaF (V:=.slice a2p p.ticks.length c2p) Qd6 hs 0 rfl rfl rfl (Zz hs)
  ·exact oa [] fun D J w hs=>Qac (V:=.int .i64 (ke2:Int)) rfl (Zz hs)
  ·exact oa [1,2] fun D J w hs=>Qax QdU Qcu.1 (Rd.own' hr2p hs) rfl rfl (by omega) (by rw [QQ6];omega) (Zz hs)
  ·exact oa [3] fun D J w hs=>QaV (j:=0) (vs:=lsc (gd p.ticks ke2)) ke2 Qcu (Rd.own' hr2p hs) (QaW (by omega)) rfl rfl rfl (by omega) (Zz hs)
  ·exact oa [] fun D J w hs=>Qae Qb5 rfl (Zz hs)
  ·exact oa [5] fun D J w hs=>QaF (V:=.slice a2q q.ticks.length c2q) Qd6 hs 1 rfl rfl rfl (Zz hs)
  ·exact oa [] fun D J w hs=>Qac (V:=.int .i64 (ke2:Int)) rfl (Zz hs)
  ·exact oa [6,7] fun D J w hs=>Qax QdU Qcu.1 (Rd.own' hr2q hs) rfl rfl (by omega) (by rw [QQ6];omega) (Zz hs)
  ·exact oa [8] fun D J w hs=>QaV (j:=0) (vs:=lsc (gd q.ticks ke2)) ke2 Qcu (Rd.own' hr2q hs) (QaW (by omega)) rfl rfl rfl (by omega) (Zz hs)
  ·exact oa [4,9] fun D J w hs=>QoR (xs:=lsc (gd p.ticks ke2)) (ys:=lsc (gd q.ticks ke2)) Tryz.eqGuardType125 (Qss (gd p.ticks ke2) (gd q.ticks ke2)) rfl rfl rfl (Zz hs)
  rintro J1 w13 J2 hJ hs
  replace hJ:J2=upd (mix (sq 55 11) J1 _) 65 (.bool (!decide (gd p.ticks ke2=gd q.ticks ke2))):=hJ
  subst hJ
  refine Qan (t:=!decide (gd p.ticks ke2=gd q.ticks ke2)) rfl (fun c14=>?_) (fun c14=>?_)
  ·
   replace c14:=Qbs c14
   replace c14:=QQ2 c14
   refine Qag (Qab (Qaa (Qad (V:=.bool false) rfl (Qaf (Qaw ?_)))))
   refine ⟨_,Qaq (V:=.bool false) Tryz.results19 rfl,(Zr hs (congrArg Value.bool (Eq.symm ?_)))⟩
   rw [Bool.eq_false_iff]
   intro g
   simp only [Bool.and_eq_true,decide_eq_true_eq] at g
   obtain ⟨g1,g2,g3⟩:=g
   exact c14 (by rw [g3])
  replace c14:=Qbd c14
  replace c14:=QQ1 c14
  refine Qap (Qab (Qaa (Qac (V:=I6 (ke2:Int)) rfl (Qaa (QaD (a:=(ke2:Int)) (b:=1) (c:=((ke2+1:Nat):Int)) rfl rfl (Qak (by omega) (by omega)) (Qaa (Qad (V:=I6 ((ke2+1:Nat):Int)) rfl (Qaf ?_))))))))
  refine ⟨_,?_,_,ke2+1,Qai (Qao (ds:=([4,6]++sq 48 18)) (by repeat (first|exact Agr.refl _ _|refine Agr.upd ?_ rfl|refine Agr.mix ?_ rfl))) rfl,(by omega),(Qhs e2 c14),rfl,hs.take 2⟩
  omega
 replace c12:=QQ2 c12
 refine QaH (Qag (Qab (Qaa (Qad (V:=.bool true) rfl (Qaf (Qaw ?_))))))
 refine ⟨_,Qaq (V:=.bool true) Tryz.results19 rfl,(Zr hs (congrArg Value.bool ?_))⟩
 rw [QQ3 c6,QQ3 (Qgp (l:=p.ents) (m:=q.ents) (by omega) fun j hj=>e1 j (by omega)),QQ3 (Qgp (l:=p.ticks) (m:=q.ticks) (by omega) fun j hj=>e2 j (by omega))];rfl
end Tt
end Go.Proofs
namespace Go.Proofs
open Go Go.Vx Go.RowKit
namespace Tt
theorem Qfq (w:World) (p:Pst) (a1:Option Addr) (c1:Nat) (a2:Option Addr) (c2:Nat) (a3:Option Addr) (c3:Nat) (hok:Qdw p) (hle:p.base.ents.length<=400) (hlt:p.base.ticks.length<=400) (hlo:p.ops.length<=400) (hr1:Rd w (.slice a1 p.base.ents.length c1) 7 (p.base.ents.map cec)) (hr2:Rd w (.slice a2 p.base.ticks.length c2) 2 (p.base.ticks.map lsc)) (hr3:Rd w (.slice a3 p.ops.length c3) 23 (p.ops.map oc)):Calls Tryz.prog 13 #[.agg (((vc p.base.known)++[(.slice a1 p.base.ents.length c1:Value),(.slice a2 p.base.ticks.length c2:Value) ])++[(.slice a3 p.ops.length c3:Value) ]++(vc p.known)).toArray] w (fun e w'=>∃ x:(Option Addr × Nat) × (Option Addr × Nat),e = .returned (.agg ((vc p.base.known++[(.slice x.1.1 p.base.ents.length x.1.2:Value),(.slice x.2.1 p.base.ticks.length x.2.2:Value)])++[(.slice a3 p.ops.length c3:Value)]++vc p.known).toArray)/\Own w no w' [row (.slice x.1.1 p.base.ents.length x.1.2) (p.base.ents.map cec) 106 7,row (.slice x.2.1 p.base.ticks.length x.2.2) (p.base.ticks.map lsc) 102 2]/\True):=by
 refine Qaj (n:=11) Tryz.func13 rfl Tryz.ntmps13 rfl ?_
 have hs:=Own.start w
 have ⟨hokb,hoko,hokk⟩:=hok
 refine Qag (Qab (Qaa (QaR (V:=.agg (((vc p.base.known)++[(.slice a1 p.base.ents.length c1:Value),(.slice a2 p.base.ticks.length c2:Value) ])++[(.slice a3 p.ops.length c3:Value) ]++(vc p.known)).toArray) (cs:=((vc p.base.known)++[(.slice a1 p.base.ents.length c1:Value),(.slice a2 p.base.ticks.length c2:Value) ])++[(.slice a3 p.ops.length c3:Value) ]++(vc p.known)) rfl rfl hs fun b1 w2 hs=>(Qaa (QaK (cs:=((vc vzero)++[(.slice none 0 0:Value),(.slice none 0 0:Value) ])++[(.slice none 0 0:Value) ]++(vc vzero)) QtG rfl hs fun b3 w4 hs=>(Qaf (Qag ?_)))))))
 replace hs:=hs.more emp trivial
 replace hs:=hs.more emp trivial
 refine QaJ HM [some 3,some 4,some 5,some 6,some 7,some 8,some 9,some 10,none] [[],[],[5],[],[],[],[],[5]] [0,1,3,0,8,0,32,127,255] [pv (Pq b1 (0+0)),pv (.agg ((vc p.base.known)++[(.slice a1 p.base.ents.length c1:Value),(.slice a2 p.base.ticks.length c2:Value) ]).toArray),(true,fun J=>.agg ((vc ((p.base).known))++[(.slice (aOf (Qa2 (J 5) 16)) (((p.base).ents).length) (cOf (Qa2 (J 5) 16)):Value),(.slice (aOf (Qa2 (J 5) 17)) (((p.base).ticks).length) (cOf (Qa2 (J 5) 17)):Value) ]).toArray),pv (Pq b1 (0+18)),pv (.slice a3 p.ops.length c3),pv (Pq b1 (0+19)),pv (.agg (vc p.known).toArray),(true,fun J=>.agg (((vc ((p.base).known))++[(.slice (aOf (Qa2 (J 5) 16)) (((p.base).ents).length) (cOf (Qa2 (J 5) 16)):Value),(.slice (aOf (Qa2 (J 5) 17)) (((p.base).ticks).length) (cOf (Qa2 (J 5) 17)):Value) ])++[(.slice a3 p.ops.length c3:Value) ]++(vc p.known)).toArray),pn] (fun D J=>[blk b1 (((vc p.base.known)++[(.slice a1 p.base.ents.length c1:Value),(.slice a2 p.base.ticks.length c2:Value) ])++[(.slice a3 p.ops.length c3:Value) ]++(vc p.known)) 31,cond (D 8) (blk b3 (((vc ((p.base).known))++[(.slice (aOf (Qa2 (J 5) 16)) (((p.base).ents).length) (cOf (Qa2 (J 5) 16)):Value),(.slice (aOf (Qa2 (J 5) 17)) (((p.base).ticks).length) (cOf (Qa2 (J 5) 17)):Value) ])++[(.slice a3 p.ops.length c3:Value) ]++(vc p.known)) 43) (blk b3 (((vc vzero)++[(.slice none 0 0:Value),(.slice none 0 0:Value) ])++[(.slice none 0 0:Value) ]++(vc vzero)) 43),cond (D 2) (row (.slice (aOf (Qa2 (J 5) 16)) (((p.base).ents).length) (cOf (Qa2 (J 5) 16))) (((p.base).ents).map cec) 106 7) (emp),cond (D 2) (row (.slice (aOf (Qa2 (J 5) 17)) (((p.base).ticks).length) (cOf (Qa2 (J 5) 17))) (((p.base).ticks).map lsc) 102 2) (emp)]) [] (by kernel_rfl) hs ⟨?_,?_,?_,?_,?_,?_,?_,?_,?_,trivial⟩ ?_
 ·exact oa [] fun D J w hs=>Qae QdT rfl (Zz hs)
 ·exact oa [0] fun D J w hs=>QbL (vs:=(vc p.base.known)++[(.slice a1 p.base.ents.length c1:Value),(.slice a2 p.base.ticks.length c2:Value) ]) Qdj hs 0 rfl rfl rfl rfl (Zz hs)
 ·exact ob [1] [8] rfl rfl fun D J w hs=>Qbf (α:=(Option Addr × Nat) × (Option Addr × Nat)) (vs:=[.agg ((vc p.base.known)++[(.slice a1 p.base.ents.length c1:Value),(.slice a2 p.base.ticks.length c2:Value) ]).toArray]) (V:=fun x:(Option Addr × Nat) × (Option Addr × Nat)=>.agg (vc (p.base).known++[(.slice x.1.1 ((p.base).ents).length x.1.2:Value),(.slice x.2.1 ((p.base).ticks).length x.2.2:Value)]).toArray) (Lo:=fun x=>[row (.slice x.1.1 ((p.base).ents).length x.1.2) (((p.base).ents).map cec) 106 7,row (.slice x.2.1 ((p.base).ticks).length x.2.2) (((p.base).ticks).map lsc) 102 2]) (F:=fun _ _=>True) Qus rfl rfl (QlQ _ p.base a1 c1 a2 c2 (by omega) (by omega) (Rd.own' hr1 hs) (Rd.own' hr2 hs)) hs fun _ _ hs _=>⟨rfl,hs.put2 2 3 (QQ8 rfl) (QQ8 rfl)⟩
 ·exact oa [] fun D J w hs=>Qae Qd5 rfl (Zz hs)
 ·exact oa [3] fun D J w hs=>QaF (V:=.slice a3 p.ops.length c3) Qfk hs 0 rfl rfl rfl (Zz hs)
 ·exact oa [] fun D J w hs=>Qae Qm4 rfl (Zz hs)
 ·exact oa [5] fun D J w hs=>QbL (vs:=vc p.known) Qbt hs 0 rfl rfl rfl rfl (Zz hs)
 ·exact oa [2,4,6] fun D J w hs=>Qcs (vs:=[(0,.agg ((vc ((p.base).known))++[(.slice (aOf (Qa2 (J 5) 16)) (((p.base).ents).length) (cOf (Qa2 (J 5) 16)):Value),(.slice (aOf (Qa2 (J 5) 17)) (((p.base).ticks).length) (cOf (Qa2 (J 5) 17)):Value) ]).toArray),(1,.slice a3 p.ops.length c3),(2,.agg (vc p.known).toArray)]) (cs:=((vc ((p.base).known))++[(.slice (aOf (Qa2 (J 5) 16)) (((p.base).ents).length) (cOf (Qa2 (J 5) 16)):Value),(.slice (aOf (Qa2 (J 5) 17)) (((p.base).ticks).length) (cOf (Qa2 (J 5) 17)):Value) ])++[(.slice a3 p.ops.length c3:Value) ]++(vc p.known)) [(vc vzero)++[(.slice none 0 0:Value),(.slice none 0 0:Value) ],[(.slice none 0 0:Value)],vc vzero] [(vc ((p.base).known))++[(.slice (aOf (Qa2 (J 5) 16)) (((p.base).ents).length) (cOf (Qa2 (J 5) 16)):Value),(.slice (aOf (Qa2 (J 5) 17)) (((p.base).ticks).length) (cOf (Qa2 (J 5) 17)):Value) ],[(.slice a3 p.ops.length c3:Value)],vc p.known] QsF rfl (rfl) rfl rfl (Zz hs)
 ·exact oa [7] fun D J w hs=>Qcq (V:=.agg (((vc ((p.base).known))++[(.slice (aOf (Qa2 (J 5) 16)) (((p.base).ents).length) (cOf (Qa2 (J 5) 16)):Value),(.slice (aOf (Qa2 (J 5) 17)) (((p.base).ticks).length) (cOf (Qa2 (J 5) 17)):Value) ])++[(.slice a3 p.ops.length c3:Value) ]++(vc p.known)).toArray) (vs:=((vc ((p.base).known))++[(.slice (aOf (Qa2 (J 5) 16)) (((p.base).ents).length) (cOf (Qa2 (J 5) 16)):Value),(.slice (aOf (Qa2 (J 5) 17)) (((p.base).ticks).length) (cOf (Qa2 (J 5) 17)):Value) ])++[(.slice a3 p.ops.length c3:Value) ]++(vc p.known)) (cs':=((vc ((p.base).known))++[(.slice (aOf (Qa2 (J 5) 16)) (((p.base).ents).length) (cOf (Qa2 (J 5) 16)):Value),(.slice (aOf (Qa2 (J 5) 17)) (((p.base).ticks).length) (cOf (Qa2 (J 5) 17)):Value) ])++[(.slice a3 p.ops.length c3:Value) ]++(vc p.known)) QeE.1 hs 1 rfl rfl rfl rfl rfl (QQ8 rfl) (QbB (QbB (QbB (Qcd _) (Qat rfl (Qat rfl Qa9))) (Qat rfl Qa9)) (Qcd _)) (Qay rfl) fun _ hs=>⟨trivial,hs⟩
 rintro J1 w7 J2 hJ hs
 replace hJ:J2=mix (sq 3 8) J1 _:=hJ
 replace hs:Own w no w7 [blk b1 (((vc p.base.known)++[(.slice a1 p.base.ents.length c1:Value),(.slice a2 p.base.ticks.length c2:Value) ])++[(.slice a3 p.ops.length c3:Value) ]++(vc p.known)) 31,blk b3 (((vc ((p.base).known))++[(.slice (aOf (Qa2 (J1 5) 16)) (((p.base).ents).length) (cOf (Qa2 (J1 5) 16)):Value),(.slice (aOf (Qa2 (J1 5) 17)) (((p.base).ticks).length) (cOf (Qa2 (J1 5) 17)):Value) ])++[(.slice a3 p.ops.length c3:Value) ]++(vc p.known)) 43,row (.slice (aOf (Qa2 (J1 5) 16)) (((p.base).ents).length) (cOf (Qa2 (J1 5) 16))) (((p.base).ents).map cec) 106 7,row (.slice (aOf (Qa2 (J1 5) 17)) (((p.base).ticks).length) (cOf (Qa2 (J1 5) 17))) (((p.base).ticks).map lsc) 102 2]:=hs
 generalize (aOf (Qa2 (J1 5) 16))=na8 at hs
 generalize (cOf (Qa2 (J1 5) 16))=nc9 at hs
 generalize (aOf (Qa2 (J1 5) 17))=na10 at hs
 generalize (cOf (Qa2 (J1 5) 17))=nc11 at hs
 subst hJ
 refine Qaw ?_
 refine ⟨_,QcB (cs:=((vc ((p.base).known))++[(.slice na8 (((p.base).ents).length) nc9:Value),(.slice na10 (((p.base).ticks).length) nc11:Value) ])++[(.slice a3 p.ops.length c3:Value) ]++(vc p.known)) Tryz.results13 QeE hs 1 rfl rfl rfl,?_⟩
 exact ⟨((na8,nc9),(na10,nc11)),rfl,hs.two 2 3 (by decide) rfl rfl,trivial⟩
theorem Qql (w:World) (p:Pst) (a1:Option Addr) (c1:Nat) (a2:Option Addr) (c2:Nat) (a3:Option Addr) (c3:Nat) (hr1:Rd w (.slice a1 p.base.ents.length c1) 7 (p.base.ents.map cec)) (hr2:Rd w (.slice a2 p.base.ticks.length c2) 2 (p.base.ticks.map lsc)) (hr3:Rd w (.slice a3 p.ops.length c3) 23 (p.ops.map oc)):Calls Tryz.prog 11 #[.agg (((vc p.base.known)++[(.slice a1 p.base.ents.length c1:Value),(.slice a2 p.base.ticks.length c2:Value) ])++[(.slice a3 p.ops.length c3:Value) ]++(vc p.known)).toArray] w (fun e w'=>e = .returned (.bool (QhQ p.base&&decide (((p.ops.length:Nat):Int)<=30)))/\Own w no w' []):=by
 refine Qaj (n:=12) Tryz.func11 rfl Tryz.ntmps11 rfl ?_
 have hs:=Own.start w
 have hn3:=hr3.sml
 refine Qag (Qab (Qaa (QaR (V:=.agg (((vc p.base.known)++[(.slice a1 p.base.ents.length c1:Value),(.slice a2 p.base.ticks.length c2:Value) ])++[(.slice a3 p.ops.length c3:Value) ]++(vc p.known)).toArray) (cs:=((vc p.base.known)++[(.slice a1 p.base.ents.length c1:Value),(.slice a2 p.base.ticks.length c2:Value) ])++[(.slice a3 p.ops.length c3:Value) ]++(vc p.known)) rfl rfl hs fun b1 w2 hs=>(Qaa (Qad (V:=.bool false) rfl (Qaf (Qag (Qbm [some 3,some 4,some 5,some 6,some 7,some 8,some 9,some 10,some 11,some 2] [] [0,1,3,7,15,31,63,127,255,511] [pv (Pq b1 (0+0)),pv (.agg ((vc p.base.known)++[(.slice a1 p.base.ents.length c1:Value),(.slice a2 p.base.ticks.length c2:Value) ]).toArray),pv (.bool (QhQ p.base)),pv (.bool (QhQ p.base)),pg ((QhQ p.base) == true) (Pq b1 (0+18)),pg ((QhQ p.base) == true) (.slice a3 p.ops.length c3),pg ((QhQ p.base) == true) (I6 ((p.ops.length:Nat):Int)),pg ((QhQ p.base) == true) (.bool (decide (((p.ops.length:Nat):Int)<=30))),pv (.bool ((QhQ p.base)&&(decide (((p.ops.length:Nat):Int)<=30)))),pv (.bool ((QhQ p.base)&&(decide (((p.ops.length:Nat):Int)<=30))))] (fun _ _=>_) [9] (by kernel_rfl) hs ⟨?_,?_,?_,?_,?_,?_,?_,?_,?_,?_,trivial⟩ ?_))))))))
 ·exact oa [] fun D J w hs=>Qae QdT rfl (Zz hs)
 ·exact oa [0] fun D J w hs=>QbL (vs:=(vc p.base.known)++[(.slice a1 p.base.ents.length c1:Value),(.slice a2 p.base.ticks.length c2:Value) ]) Qdj hs 0 rfl rfl rfl rfl (Zz hs)
 ·exact oa [1] fun D J w hs=>Qau (vs:=[.agg ((vc p.base.known)++[(.slice a1 p.base.ents.length c1:Value),(.slice a2 p.base.ticks.length c2:Value) ]).toArray]) (V:=.bool (QhQ p.base)) QvQ rfl rfl (QsZ _ p.base a1 c1 a2 c2 (Rd.own' hr1 hs) (Rd.own' hr2 hs)) hs fun _ hs=>Zz hs
 ·exact oa [2] fun D J w hs=>Qac (V:=.bool (QhQ p.base)) rfl (Zz hs)
 ·exact og [3] fun D J w hG hs=>Qae Qd5 rfl (Zz hs)
 ·exact oy [3,4] [4] fun D J w hG hs=>QaF (V:=.slice a3 p.ops.length c3) Qfk hs 0 rfl rfl rfl (Zz hs)
 ·exact oy [3,5] [5] fun D J w hG hs=>QaX (n:=p.ops.length) QdJ (Rd.own' hr3 hs) (by simp) rfl (Zz hs)
 ·exact oy [3,6] [6] fun D J w hG hs=>Qdn rfl rfl (Zz hs)
 ·exact oa [3,7] fun D J w hs=>Qa7 (h':=decide (((p.ops.length:Nat):Int)<=30)) rfl rfl rfl (Zz hs)
 ·exact oa [8] fun D J w hs=>Qad (V:=.bool ((QhQ p.base)&&(decide (((p.ops.length:Nat):Int)<=30)))) rfl (Zz hs)
 rintro J1 w4 J2 hJ hs
 replace hJ:J2=upd (mix (sq 3 9++[2]) J1 _) 2 (.bool ((QhQ p.base)&&(decide (((p.ops.length:Nat):Int)<=30)))):=hJ
 subst hJ
 refine Qaw ?_
 refine ⟨_,Qaq (V:=.bool ((QhQ p.base)&&(decide (((p.ops.length:Nat):Int)<=30)))) Tryz.results11 rfl,(Zr hs ?_)⟩
 rfl
end Tt
end Go.Proofs
namespace Go.Proofs
open Go Go.Vx Go.RowKit
namespace Tt
theorem Qh5 (w:World) (s:Sta) (a1:Option Addr) (c1:Nat) (a2:Option Addr) (c2:Nat) (hok:QdI s) (hle:s.ents.length<=1000) (hlt:s.ticks.length<=1000) (hr1:Rd w (.slice a1 s.ents.length c1) 7 (s.ents.map cec)) (hr2:Rd w (.slice a2 s.ticks.length c2) 2 (s.ticks.map lsc)):Calls Tryz.prog 63 #[.agg ((vc s.known)++[(.slice a1 s.ents.length c1:Value),(.slice a2 s.ticks.length c2:Value) ]).toArray] w (fun e w'=>∃ x:Option Addr × Nat,e = .returned (.slice x.1 (QaB s).length x.2)/\Own w no w' [row (.slice x.1 (QaB s).length x.2) ((QaB s).map (ic .u16)) 32 1]/\True):=by
 refine Qaj (n:=23) Tryz.func63 rfl Tryz.ntmps63 rfl ?_
 have hs:=Own.start w
 have ⟨hv0,hE0,hT0⟩:=hok
 refine Qag (Qab (Qaa (QaR (V:=.agg ((vc s.known)++[(.slice a1 s.ents.length c1:Value),(.slice a2 s.ticks.length c2:Value) ]).toArray) (cs:=(vc s.known)++[(.slice a1 s.ents.length c1:Value),(.slice a2 s.ticks.length c2:Value) ]) rfl rfl hs fun b1 w2 hs=>(Qaa (Qad (V:=.slice none 0 0) rfl (Qaf (Qag (Qag (Qab (Qaa (QaI (cs:=(vc s.known)++[(.slice a1 s.ents.length c1:Value),(.slice a2 s.ticks.length c2:Value) ]) QcD hs 0 rfl rfl rfl (Qaa (Qau (vs:=[.agg ((vc s.known)++[(.slice a1 s.ents.length c1:Value),(.slice a2 s.ticks.length c2:Value) ]).toArray]) (V:=.bool (Qas s)) Qq7 rfl rfl ?hc hs fun w3 hs=>?_)))))))))))))
 case hc=>exact (Qf7 _ s a1 c1 a2 c2 hok (by omega) (by omega) (Rd.own' hr1 hs) (Rd.own' hr2 hs))
 refine Qaa (Qbx rfl (Qaf (Qan (t:=!(Qas s)) rfl (fun c4=>?_) (fun c4=>?_))))
 ·
  replace c4:=Qbs c4
  refine Qag (Qab (Qaa (Qad (V:=.slice none 0 0) rfl (Qaf (Qaw ?_)))))
  refine ⟨_,Qaq (V:=.slice none 0 0) Tryz.results63 rfl,?_⟩
  have hX:QaB s=[]:=by unfold QaB;rw [if_neg (by rw [c4];decide)]
  rw [hX]
  exact ⟨(none,0),rfl,(hs.take 0).more _ (Qbo _ _ _ _),trivial⟩
 replace c4:=Qbd c4
 refine Qap (Qag (Qab (Qaa (Qad (V:=.slice none 0 0) rfl (Qaf (Qag (Qag (Qab (Qaa (Qae Qc5 rfl (Qaa (QaF (V:=.slice a2 s.ticks.length c2) Qgy hs 0 rfl rfl rfl (Qaa (QaX (n:=s.ticks.length) Qfi (Rd.own' hr2 hs) (by simp) rfl (Qaa (Qac (V:=I6 0) rfl (Qaf (Qam ?_))))))))))))))))))
 replace hs:=hs.more (row (.slice none 0 0) (List.map (ic .u16) []) 32 1) (Qbo _ _ _ _)
 refine QaA (fun J μ J' w'=>∃ (Jo:Env) (k:Nat) (a9:Option Addr) (c9:Nat) (L9:List Int),J'=upd (upd (mix ([3,5]++sq 12 10) Jo J) 12 (I6 (k:Int))) 3 (.slice a9 L9.length c9)/\(k<=s.ticks.length)/\(L9=(s.ticks.take k).map (·.cart))/\(L9.length<=k)/\μ=s.ticks.length-k/\Own w no w' [blk b1 ((vc s.known)++[(.slice a1 s.ents.length c1:Value),(.slice a2 s.ticks.length c2:Value) ]) 38,row (.slice a9 L9.length c9) (L9.map (ic .u16)) 32 1]) ?_ ?_
 ·exact ⟨_,_,0,none,0,[],Qai (Qai (Qao (ds:=([3,5]++sq 12 10)) (Agr.refl _ _)) rfl) rfl,(by omega),rfl,(Nat.le_refl _),rfl,hs⟩
 rintro μ J' w5 ⟨Jo,k,a9,c9,L9,rfl,hk,hL9,hl9,rfl,hs⟩
 refine Qag (Qab (Qaa (QaS rfl rfl (Qaf (Qag (Qan (t:=decide ((k:Int)<((s.ticks.length:Nat):Int))) rfl (fun c6=>?_) (fun c6=>?_)))))))
 ·
  replace c6:=QQ1 c6
  refine Qap (Qag (Qam (Qag (Qab (Qaa (Qax Qfi Qcz.1 (Rd.own' hr2 hs) rfl rfl (by omega) (by rw [QQ6];omega) (Qaa (QaV (j:=0) (vs:=lsc (gd s.ticks k)) k Qcz (Rd.own' hr2 hs) (QaW (by omega)) rfl rfl rfl (by omega) (Qaa (QaK (cs:=lsc (⟨0,0⟩:Lst)) QjX rfl hs fun b7 w8 hs=>(Qaa (Qcq (V:=.agg (lsc (gd s.ticks k)).toArray) (vs:=lsc (gd s.ticks k)) (cs':=lsc (gd s.ticks k)) Qcz.1 hs 2 rfl rfl rfl rfl rfl (QQ8 rfl) (QbF _) (Qay rfl) fun w9 hs=>(Qaf (Qab (Qaa (Qac (V:=.slice a9 L9.length c9) rfl (Qaa (Qae QeK rfl (Qaa (QaF (V:=I7 ((gd s.ticks k).cart)) Qar hs 2 rfl rfl rfl (Qaa (QeP (vals:=[I7 ((gd s.ticks k).cart)]) (ls:=List.map (ic .u16) ([(gd s.ticks k).cart]:List Int)) QlK rfl rfl rfl (Qbi (enc:=(ic .u16)) (fun _=>rfl) _) (QaL (QfA .u16) _) (QQ8 rfl) hs fun b10 w11 hs=>?_))))))))))))))))))))))
  replace hs:Own w no w11 [blk b1 ((vc s.known)++[(.slice a1 s.ents.length c1:Value),(.slice a2 s.ticks.length c2:Value) ]) 38,row (.slice a9 L9.length c9) (L9.map (ic .u16)) 32 1,blk b7 (lsc (gd s.ticks k)) 102,row (.slice (some ⟨b10,0,none⟩) 1 1) ([(gd s.ticks k).cart].map (ic .u16)) 32 1]:=hs
  refine Qaa (QbY (ls':=(L9++[(gd s.ticks k).cart]).map (ic .u16)) (n:=(L9++[(gd s.ticks k).cart]).length) QlK hs 1 rfl rfl rfl (hs.rd 3 rfl) (QaL (QfA .u16) _) (by simp only [QQ6,QQ7,List.length_cons,List.length_nil];omega) (by simp) (by simp) fun a12 c12 w13 hs=>(Qaa (Qad (V:=.slice a12 ((L9++[(gd s.ticks k).cart]).length) c12) rfl (Qaf (Qab (Qaa (QaD (a:=(k:Int)) (b:=1) (c:=((k+1:Nat):Int)) rfl rfl (Qak (by omega) (by omega)) (Qaa (Qac (V:=I6 ((k+1:Nat):Int)) rfl (Qaf ?_))))))))))
  refine ⟨_,?_,_,k+1,a12,c12,L9++[(gd s.ticks k).cart],Qai (Qai (Qao (ds:=([3,5]++sq 12 10)) (by repeat (first|exact Agr.refl _ _|refine Agr.upd ?_ rfl|refine Agr.mix ?_ rfl))) rfl) rfl,(by omega),(Qkw (f:=fun x:Lst=>x.cart) hL9 (by omega)),(by rw [QQ7,List.length_singleton];omega),rfl,hs.take 2⟩
  omega
 replace c6:=QQ2 c6
 refine QaH (Qag (Qab (Qaa (Qac (V:=.slice a9 L9.length c9) rfl (Qaa (Qad (V:=.slice a9 L9.length c9) rfl (Qaf (Qaw ?_))))))))
 refine ⟨_,Qaq (V:=.slice a9 L9.length c9) Tryz.results63 rfl,?_⟩
 have hX:L9=QaB s:=by unfold QaB;rw [if_pos c4,hL9,Qck (by omega)]
 rw [hX] at hs ⊢
 exact ⟨(a9,c9),rfl,hs.only 1 rfl,trivial⟩
end Tt
end Go.Proofs
namespace Go.Proofs
open Go Go.Vx Go.RowKit
namespace Tt
theorem QfM (w:World) (S:Nat->Prop) (b:Nat) (L:List Dif) (x:Dif) (hR:(Qeu 60 83 b L).holds w S) (hlS:∀ x,S x->x<w.heap.size) (hL:L.length<=100000000):Calls Tryz.prog 65 #[.agg (dfc x).toArray,.pointer (some ⟨b,0,none⟩)] w (fun e w'=>∃ x_:Unit,e = .returned (.tuple #[])/\Own w S w' [Qeu 60 83 b (L++[x])]/\True):=by
 refine Qaj (n:=7) Tryz.func65 rfl Tryz.ntmps65 rfl ?_
 obtain ⟨a0,c0,hs⟩:=QoH hR hlS
 refine Qag (Qab (Qaa (QaR (V:=.agg (dfc x).toArray) (cs:=dfc x) rfl rfl hs fun b1 w2 hs=>(Qaf (Qab (Qaa (QaF (V:=.slice a0 L.length c0) QqG hs 0 rfl rfl rfl (Qaa (QaI (cs:=dfc x) QiY hs 2 rfl rfl rfl (Qaa (QeP (vals:=[.agg (dfc x).toArray]) (ls:=List.map dfc ([x]:List Dif)) QtH rfl rfl rfl (Qbi (enc:=dfc) (fun _=>rfl) _) (QaL Qju _) (QQ8 rfl) hs fun b3 w4 hs=>(Qaa (QbY (ls':=(L++[x]).map dfc) (n:=(L++[x]).length) QtH hs 1 rfl rfl rfl (hs.rd 3 rfl) (QaL Qju _) (by simp only [QQ6,QQ7,List.length_cons,List.length_nil];omega) (by simp) (by simp) fun a5 c5 w6 hs=>(Qaa (QcR (V:=.slice a5 ((L++[x]).length) c5) (cs':=[.slice a5 ((L++[x]).length) c5]) QqG hs 0 rfl rfl rfl rfl (QQ8 rfl) rfl fun w7 hs=>?_)))))))))))))))
 replace hs:Own w S w7 [blk b [.slice a5 ((L++[x]).length) c5] 60,row (.slice a5 ((L++[x]).length) c5) ((L++[x]).map dfc) 83 5,blk b1 (dfc x) 83,row (.slice (some ⟨b3,0,none⟩) 1 1) ([x].map dfc) 83 5]:=hs
 refine Qaf ?_
 refine ⟨_,Qbr Tryz.results65,?_⟩
 exact ⟨(),rfl,Qpt (hs.two 0 1 (by decide) rfl rfl),trivial⟩
end Tt
end Go.Proofs
