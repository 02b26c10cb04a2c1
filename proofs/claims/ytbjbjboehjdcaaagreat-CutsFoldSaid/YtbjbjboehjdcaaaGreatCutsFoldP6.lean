/- A part of a proof: what functions of the program compute, and plain facts on that. -/
import Derived.Test.YtbjbjboehjdcaaaGreatCutsFoldP5
set_option linter.unusedVariables false
set_option linter.unusedSimpArgs false
set_option maxHeartbeats 4000000
set_option maxRecDepth 100000
namespace Go.Proofs
open Go Go.Vx Go.RowKit
open Tryz
namespace Tt
theorem Qou (d:Nat) (g:Nat) (hg:En prog g) (cf:Cen->Cen->Int) (hc:CmpO cf) (hcmp:∀ (w:World) (x y:Cen),Calls prog g #[.agg (cec x).toArray,.agg (cec y).toArray] w (fun e w'=>e = .returned (.int .i64 (cf x y))/\Own w no w' [])) (ih:Qv5 prog 157 g 106 7 cec cf d) (w:World) (S:Nat->Prop) (a:Option Addr) (N c:Nat) (l:List Cen) (lo mid hi:Nat) (hz:l.length=N) (hN:N<=2305843009213693951) (hd:hi-lo<=d+1) (h1:lo<mid) (h2:mid<hi) (h3:hi<=N) (ho1:Qbt cf l lo mid) (ho2:Qbt cf l mid hi) (hR:(row (.slice a N c) (l.map cec) 106 7).holds w S) (hlt:∀ b,S b->b<w.heap.size):Calls prog 157 #[.slice a N c,.int .i64 (lo:Int),.int .i64 (mid:Int),.int .i64 (hi:Int),.func (.func g) #[] #[]] w (fun e w'=>∃ x:List Cen,e = .returned (.tuple #[])/\Own w S w' [row (.slice a N c) (x.map cec) 106 7]/\(x.length=N/\Merged cf l x lo hi)):=by
 refine Qah (n:=220) func157 rfl ntmps157 rfl ?_
 have Y:=Own.lent hR hlt
 refine Qae (Qae (Qab (Qaa (Qaf (I6 (mid:Int)) (Qaa (Qaf (I6 (lo:Int)) (Qaa (Qbb (a:=(mid:Int)) (b:=(lo:Int)) (c:=((mid-lo:Nat):Int)) rfl rfl (Qaj (by omega) (by omega)) (Qaa (QaT rfl rfl (Qad (Qak (t:=decide (((mid-lo:Nat):Int)=1)) rfl (fun c1=>?_) (fun c1=>?_)))))))))))))
 ·
  replace c1:=QQ1 c1
  refine Qae (Qab (Qaa (Qaf (I6 (mid:Int)) (Qaa (Qam (I6 (mid:Int)) (Qad (Qae (Qab (Qaa (Qaf (I6 (hi:Int)) (Qaa (Qam (I6 (hi:Int)) (Qad (Qae (Qal (QaE (fun J μ J' w'=>∃ (Jo:Env) (i:Nat) (j:Nat),J'=upd (upd (mix ([10,11,12]++sq 31 23) Jo J) 10 (I6 (i:Int))) 11 (I6 (j:Int))/\(mid<=i)/\(i<=j)/\(j<=hi)/\(i=mid∨cf (gd l (i-1)) (gd l lo)<0)/\(j=hi∨¬cf (gd l j) (gd l lo)<0)/\μ=j-i/\Own w S w' [row (.slice a N c) (l.map cec) 106 7]) ?_ ?_))))))))))))))))
  ·exact ⟨_,_,mid,hi,Qai (Qai (Qao (ds:=([10,11,12]++sq 31 23)) (Agr.refl _ _)) rfl) rfl,(Nat.le_refl _),(by omega),(Nat.le_refl _),(Or.inl rfl),(Or.inl rfl),rfl,Y⟩
  rintro μ J' w2 ⟨Jo,i,j,rfl,hi1,hij,hj1,hi2,hj2,rfl,Y⟩
  refine Qae (Qae (Qab (Qaa (Qaf (I6 (i:Int)) (Qaa (Qaf (I6 (j:Int)) (Qaa (Qa0 rfl rfl (Qad (Qak (t:=decide ((i:Int)<(j:Int))) rfl (fun c3=>?_) (fun c3=>?_)))))))))))
  ·
   replace c3:=QQ1 c3
   refine Qap (Qal (Qae (Qab (Qaa (Qaf (I6 (i:Int)) (Qaa (Qaf (I6 (j:Int)) (Qaa (QaB (a:=(i:Int)) (b:=(j:Int)) (c:=((i+j:Nat):Int)) rfl rfl (Qaj (by omega) (by omega)) (Qaa (QbV Qhk QdH rfl (Qdu (by omega) (by omega)) (Qaa (QhD rfl rfl (Qaa (QbV QdH Qhk rfl (Qbx (by omega) (by omega)) (Qaa (Qam (I6 (((i+j)/2:Nat):Int)) (Qad (Qae (QaH HM (so 40 11) [] [0,0,0,6,14,0,0,96,224,511,1023] [pv (.func (.func g) #[] #[]),pv (.slice a N c),pv (I6 (((i+j)/2:Nat):Int)),pv (.pointer (some ⟨bkS (.slice a N c),ofS (.slice a N c)+(((i+j)/2:Nat):Int).toNat*7,none⟩)),pv (.agg (cec (gd l ((i+j)/2))).toArray),pv (.slice a N c),pv (I6 (lo:Int)),pv (.pointer (some ⟨bkS (.slice a N c),ofS (.slice a N c)+(lo:Int).toNat*7,none⟩)),pv (.agg (cec (gd l lo)).toArray),pv (I6 (cf (gd l ((i+j)/2)) (gd l lo))),pv (.bool (decide (cf (gd l ((i+j)/2)) (gd l lo)<0)))] (fun _ _=>_) [10] (by kernel_rfl) Y ⟨?_,?_,?_,?_,?_,?_,?_,?_,?_,?_,?_,trivial⟩ ?_))))))))))))))))))))
   ·exact oi [] fun Y=>Qaf (.func (.func g) #[] #[]) (Zz Y)
   ·exact oi [] fun Y=>Qaf (.slice a N c) (Zz Y)
   ·exact oi [] fun Y=>Qaf (.int .i64 (((i+j)/2:Nat):Int)) (Zz Y)
   ·exact oi [1,2] fun Y=>Qax QbK QaF.1 (Y.rd 0 rfl) rfl rfl (by omega) (by rw [QQ6];omega) (Zz Y)
   ·exact oi [3] fun Y=>Qa9 (j:=0) (vs:=cec (gd l ((i+j)/2))) ((i+j)/2) QaF (Y.rd 0 rfl) (Qa4 (by omega)) rfl rfl rfl (by omega) (Zz Y)
   ·exact oi [] fun Y=>Qaf (.slice a N c) (Zz Y)
   ·exact oi [] fun Y=>Qaf (.int .i64 (lo:Int)) (Zz Y)
   ·exact oi [5,6] fun Y=>Qax QbK QaF.1 (Y.rd 0 rfl) rfl rfl (by omega) (by rw [QQ6];omega) (Zz Y)
   ·exact oi [7] fun Y=>Qa9 (j:=0) (vs:=cec (gd l lo)) lo QaF (Y.rd 0 rfl) (Qa4 (by omega)) rfl rfl rfl (by omega) (Zz Y)
   ·exact oi [0,4,8] fun Y=>Qfu (vs:=[.agg (cec (gd l ((i+j)/2))).toArray,.agg (cec (gd l lo)).toArray]) (cs:=[]) (V:=.int .i64 (cf (gd l ((i+j)/2)) (gd l lo))) hg rfl rfl (hcmp _ (gd l ((i+j)/2)) (gd l lo)) Y fun _ Y=>Zz Y
   ·exact oi [9] fun Y=>Qa0 rfl rfl (Zz Y)
   rintro J1 w5 J2 hJ Y
   replace hJ:J2=upd (mix (sq 40 11) J1 _) 50 (.bool (decide (cf (gd l ((i+j)/2)) (gd l lo)<0))):=hJ
   subst hJ
   refine Qak (t:=decide (cf (gd l ((i+j)/2)) (gd l lo)<0)) rfl (fun c6=>?_) (fun c6=>?_)
   ·
    replace c6:=QQ1 c6
    refine Qab (Qaa (Qaf (I6 (((i+j)/2:Nat):Int)) (Qaa (QaB (a:=(((i+j)/2:Nat):Int)) (b:=1) (c:=((((i+j)/2)+1:Nat):Int)) rfl rfl (Qaj (by omega) (by omega)) (Qaa (Qam (I6 ((((i+j)/2)+1:Nat):Int)) (Qad ?_)))))))
    refine ⟨_,?_,_,((i+j)/2)+1,j,Qai (Qai (Qao (ds:=([10,11,12]++sq 31 23)) (by repeat (first|exact Agr.refl _ _|refine Agr.upd ?_ rfl|refine Agr.mix ?_ rfl))) rfl) rfl,(by omega),(by omega),(by omega),(Or.inr (by rw [Nat.add_sub_cancel];exact c6)),hj2,rfl,Y.take 1⟩
    omega
   replace c6:=QQ2 c6
   refine Qab (Qaa (Qaf (I6 (((i+j)/2:Nat):Int)) (Qaa (Qam (I6 (((i+j)/2:Nat):Int)) (Qad ?_)))))
   refine ⟨_,?_,_,i,(i+j)/2,Qai (Qai (Qao (ds:=([10,11,12]++sq 31 23)) (by repeat (first|exact Agr.refl _ _|refine Agr.upd ?_ rfl|refine Agr.mix ?_ rfl))) rfl) rfl,(by omega),(by omega),(by omega),hi2,(Or.inr c6),rfl,Y.take 1⟩
   omega
  replace c3:=QQ2 c3
  refine QaI (Qae (Qae (Qab (Qaa (Qaf (I6 (lo:Int)) (Qaa (Qam (I6 (lo:Int)) (Qad (Qal ?_)))))))))
  have hie:i=j:=by omega
  refine QaE (fun J μ J' w'=>∃ (Jo:Env) (k:Nat) (m:List Cen),J'=upd (mix ([13]++sq 55 22) Jo J) 13 (I6 (k:Int))/\(lo<=k)/\(k+1<=i)/\(m.length=N)/\(Qcf l m lo (lo+1) (k+1))/\μ=i-k/\Own w S w' [row (.slice a N c) (m.map cec) 106 7]) ?_ ?_
  ·exact ⟨_,_,lo,l,Qai (Qao (ds:=([13]++sq 55 22)) (Agr.refl _ _)) rfl,(Nat.le_refl _),(by omega),hz,(Qcf.refl (by omega) (by omega) (by omega) (Or.inr rfl)),rfl,Y⟩
  rintro μ J' w7 ⟨Jo,k,m,rfl,hk1,hk2,hz1,hro,rfl,Y⟩
  refine Qae (Qae (Qab (Qaa (Qaf (I6 (k:Int)) (Qaa (Qaf (I6 (i:Int)) (Qaa (Qbb (a:=(i:Int)) (b:=1) (c:=((i-1:Nat):Int)) rfl rfl (Qaj (by omega) (by omega)) (Qaa (Qa0 rfl rfl (Qad (Qak (t:=decide ((k:Int)<((i-1:Nat):Int))) rfl (fun c8=>?_) (fun c8=>?_)))))))))))))
  ·
   replace c8:=QQ1 c8
   refine Qap (Qae (Qal (QaH HM (so 61 15++[none,some 76,none]) [] [0,0,0,0,8,0,0,64,224,480,0,0,3072,7168,16355,32739,65535,131071] [pv (.slice a N c),pv (I6 (k:Int)),pv (.slice a N c),pv (I6 (k:Int)),pv (I6 ((k+1:Nat):Int)),pv (.slice a N c),pv (I6 (k:Int)),pv (I6 ((k+1:Nat):Int)),pv (.pointer (some ⟨bkS (.slice a N c),ofS (.slice a N c)+((k+1:Nat):Int).toNat*7,none⟩)),pv (.agg (cec (gd m (k+1))).toArray),pv (.slice a N c),pv (I6 (k:Int)),pv (.pointer (some ⟨bkS (.slice a N c),ofS (.slice a N c)+(k:Int).toNat*7,none⟩)),pv (.agg (cec (gd m k)).toArray),pv (.pointer (some ⟨bkS (.slice a N c),ofS (.slice a N c)+(k:Int).toNat*7,none⟩)),pn,pv (.pointer (some ⟨bkS (.slice a N c),ofS (.slice a N c)+((k+1:Nat):Int).toNat*7,none⟩)),pn] (fun D J=>[cond (D 17) (row (.slice a N c) (((m.set k (gd m (k+1))).set (k+1) (gd m k)).map cec) 106 7) (cond (D 15) (row (.slice a N c) ((m.set k (gd m (k+1))).map cec) 106 7) (row (.slice a N c) (m.map cec) 106 7))]) [] (by kernel_rfl) Y ⟨?_,?_,?_,?_,?_,?_,?_,?_,?_,?_,?_,?_,?_,?_,?_,?_,?_,?_,trivial⟩ ?_)))
   ·exact oi [] fun Y=>Qaf (.slice a N c) (Zz Y)
   ·exact oi [] fun Y=>Qaf (.int .i64 (k:Int)) (Zz Y)
   ·exact oi [] fun Y=>Qaf (.slice a N c) (Zz Y)
   ·exact oi [] fun Y=>Qaf (.int .i64 (k:Int)) (Zz Y)
   ·exact oi [3] fun Y=>QaB (a:=(k:Int)) (b:=1) (c:=((k+1:Nat):Int)) rfl rfl (Qaj (by omega) (by omega)) (Zz Y)
   ·exact oi [] fun Y=>Qaf (.slice a N c) (Zz Y)
   ·exact oi [] fun Y=>Qaf (.int .i64 (k:Int)) (Zz Y)
   ·exact oi [6] fun Y=>QaB (a:=(k:Int)) (b:=1) (c:=((k+1:Nat):Int)) rfl rfl (Qaj (by omega) (by omega)) (Zz Y)
   ·exact ob [5,7] [15,17] rfl rfl fun D J w Y=>Qax QbK QaF.1 (Y.rd 0 rfl) rfl rfl (by omega) (by rw [QQ6];omega) (Zz Y)
   ·exact ob [8] [15,17] rfl rfl fun D J w Y=>Qa9 (j:=0) (vs:=cec (gd m (k+1))) (k+1) QaF (Y.rd 0 rfl) (Qa4 (by omega)) rfl rfl rfl (by omega) (Zz Y)
   ·exact oi [] fun Y=>Qaf (.slice a N c) (Zz Y)
   ·exact oi [] fun Y=>Qaf (.int .i64 (k:Int)) (Zz Y)
   ·exact ob [10,11] [15,17] rfl rfl fun D J w Y=>Qax QbK QaF.1 (Y.rd 0 rfl) rfl rfl (by omega) (by rw [QQ6];omega) (Zz Y)
   ·exact ob [12] [15,17] rfl rfl fun D J w Y=>Qa9 (j:=0) (vs:=cec (gd m k)) k QaF (Y.rd 0 rfl) (Qa4 (by omega)) rfl rfl rfl (by omega) (Zz Y)
   ·exact ob [0,1] [15,17] rfl rfl fun D J w Y=>Qax QbK QaF.1 (Y.rd 0 rfl) rfl rfl (by omega) (by rw [QQ6];omega) (Zz Y)
   ·exact ob [9,14] [17] rfl rfl fun D J w Y=>Qh8 (z:=gd m (k+1)) k QaF.1 Y 0 rfl rfl rfl (by first|omega|(simp only [List.length_set];omega)) rfl rfl rfl (Qby _) fun _ Y=>⟨trivial,Y⟩
   ·exact ob [2,4,15] [17] rfl rfl fun D J w Y=>Qax QbK QaF.1 (Y.rd 0 rfl) rfl rfl (by omega) (by simp only [QQ6,List.length_set];omega) (Zz Y)
   ·exact oi [13,15,16] fun Y=>Qh8 (z:=gd m k) (k+1) QaF.1 Y 0 rfl rfl rfl (by first|omega|(simp only [List.length_set];omega)) rfl rfl rfl (Qby _) fun _ Y=>⟨trivial,Y⟩
   rintro J1 w11 J2 hJ Y
   replace hJ:J2=mix (sq 61 16) J1 _:=hJ
   replace Y:Own w S w11 [row (.slice a N c) (((m.set k (gd m (k+1))).set (k+1) (gd m k)).map cec) 106 7]:=Y
   subst hJ
   replace Y:Own w S _ [row (.slice a N c) ((swL m k (k+1)).map cec) 106 7]:=Y.take 1
   refine Qab (Qaa (Qaf (I6 (k:Int)) (Qaa (QaB (a:=(k:Int)) (b:=1) (c:=((k+1:Nat):Int)) rfl rfl (Qaj (by omega) (by omega)) (Qaa (Qam (I6 ((k+1:Nat):Int)) (Qad ?_)))))))
   refine ⟨_,?_,_,k+1,swL m k (k+1),Qai (Qao (ds:=([13]++sq 55 22)) (by repeat (first|exact Agr.refl _ _|refine Agr.upd ?_ rfl|refine Agr.mix ?_ rfl))) rfl,(by omega),(by omega),(by rw [Qif];exact hz1),(QuN hro (by omega)),rfl,Y.take 1⟩
   omega
  replace c8:=QQ2 c8
  refine QaI (Qav ?_)
  refine ⟨_,Qbl results157,?_⟩
  have hke:k+1=i:=by omega
  rw [hke] at hro
  exact ⟨m,rfl,Y.take 1,hz1,QvB hc (by rw [show lo+1=mid by omega];exact ho2) (by omega) (by omega) (by omega) hro (by rw [hie];exact hj2) (by rw [show lo+1=mid by omega];exact hi2)⟩
 replace c1:=QQ2 c1
 refine Qap (Qae (Qae (Qab (Qaa (Qaf (I6 (hi:Int)) (Qaa (Qaf (I6 (mid:Int)) (Qaa (Qbb (a:=(hi:Int)) (b:=(mid:Int)) (c:=((hi-mid:Nat):Int)) rfl rfl (Qaj (by omega) (by omega)) (Qaa (QaT rfl rfl (Qad (Qak (t:=decide (((hi-mid:Nat):Int)=1)) rfl (fun c12=>?_) (fun c12=>?_))))))))))))))
 ·
  replace c12:=QQ1 c12
  refine Qae (Qab (Qaa (Qaf (I6 (lo:Int)) (Qaa (Qam (I6 (lo:Int)) (Qad (Qae (Qab (Qaa (Qaf (I6 (mid:Int)) (Qaa (Qam (I6 (mid:Int)) (Qad (Qae (Qal (QaE (fun J μ J' w'=>∃ (Jo:Env) (i:Nat) (j:Nat),J'=upd (upd (mix ([14,15,16]++sq 83 24) Jo J) 14 (I6 (i:Int))) 15 (I6 (j:Int))/\(lo<=i)/\(i<=j)/\(j<=mid)/\(i=lo∨¬cf (gd l mid) (gd l (i-1))<0)/\(j=mid∨cf (gd l mid) (gd l j)<0)/\μ=j-i/\Own w S w' [row (.slice a N c) (l.map cec) 106 7]) ?_ ?_))))))))))))))))
  ·exact ⟨_,_,lo,mid,Qai (Qai (Qao (ds:=([14,15,16]++sq 83 24)) (Agr.refl _ _)) rfl) rfl,(Nat.le_refl _),(by omega),(Nat.le_refl _),(Or.inl rfl),(Or.inl rfl),rfl,Y⟩
  rintro μ J' w13 ⟨Jo,i,j,rfl,hi1,hij,hj1,hi2,hj2,rfl,Y⟩
  refine Qae (Qae (Qab (Qaa (Qaf (I6 (i:Int)) (Qaa (Qaf (I6 (j:Int)) (Qaa (Qa0 rfl rfl (Qad (Qak (t:=decide ((i:Int)<(j:Int))) rfl (fun c14=>?_) (fun c14=>?_)))))))))))
  ·
   replace c14:=QQ1 c14
   refine Qap (Qal (Qae (Qab (Qaa (Qaf (I6 (i:Int)) (Qaa (Qaf (I6 (j:Int)) (Qaa (QaB (a:=(i:Int)) (b:=(j:Int)) (c:=((i+j:Nat):Int)) rfl rfl (Qaj (by omega) (by omega)) (Qaa (QbV Qhk QdH rfl (Qdu (by omega) (by omega)) (Qaa (QhD rfl rfl (Qaa (QbV QdH Qhk rfl (Qbx (by omega) (by omega)) (Qaa (Qam (I6 (((i+j)/2:Nat):Int)) (Qad (Qae (QaH HM (so 92 12) [] [0,0,0,6,14,0,0,96,224,511,1023,2047] [pv (.func (.func g) #[] #[]),pv (.slice a N c),pv (I6 (mid:Int)),pv (.pointer (some ⟨bkS (.slice a N c),ofS (.slice a N c)+(mid:Int).toNat*7,none⟩)),pv (.agg (cec (gd l mid)).toArray),pv (.slice a N c),pv (I6 (((i+j)/2:Nat):Int)),pv (.pointer (some ⟨bkS (.slice a N c),ofS (.slice a N c)+(((i+j)/2:Nat):Int).toNat*7,none⟩)),pv (.agg (cec (gd l ((i+j)/2))).toArray),pv (I6 (cf (gd l mid) (gd l ((i+j)/2)))),pv (.bool (decide (cf (gd l mid) (gd l ((i+j)/2))<0))),pv (.bool (!decide (cf (gd l mid) (gd l ((i+j)/2))<0)))] (fun _ _=>_) [11] (by kernel_rfl) Y ⟨?_,?_,?_,?_,?_,?_,?_,?_,?_,?_,?_,?_,trivial⟩ ?_))))))))))))))))))))
   ·exact oi [] fun Y=>Qaf (.func (.func g) #[] #[]) (Zz Y)
   ·exact oi [] fun Y=>Qaf (.slice a N c) (Zz Y)
   ·exact oi [] fun Y=>Qaf (.int .i64 (mid:Int)) (Zz Y)
   ·exact oi [1,2] fun Y=>Qax QbK QaF.1 (Y.rd 0 rfl) rfl rfl (by omega) (by rw [QQ6];omega) (Zz Y)
   ·exact oi [3] fun Y=>Qa9 (j:=0) (vs:=cec (gd l mid)) mid QaF (Y.rd 0 rfl) (Qa4 (by omega)) rfl rfl rfl (by omega) (Zz Y)
   ·exact oi [] fun Y=>Qaf (.slice a N c) (Zz Y)
   ·exact oi [] fun Y=>Qaf (.int .i64 (((i+j)/2:Nat):Int)) (Zz Y)
   ·exact oi [5,6] fun Y=>Qax QbK QaF.1 (Y.rd 0 rfl) rfl rfl (by omega) (by rw [QQ6];omega) (Zz Y)
   ·exact oi [7] fun Y=>Qa9 (j:=0) (vs:=cec (gd l ((i+j)/2))) ((i+j)/2) QaF (Y.rd 0 rfl) (Qa4 (by omega)) rfl rfl rfl (by omega) (Zz Y)
   ·exact oi [0,4,8] fun Y=>Qfu (vs:=[.agg (cec (gd l mid)).toArray,.agg (cec (gd l ((i+j)/2))).toArray]) (cs:=[]) (V:=.int .i64 (cf (gd l mid) (gd l ((i+j)/2)))) hg rfl rfl (hcmp _ (gd l mid) (gd l ((i+j)/2))) Y fun _ Y=>Zz Y
   ·exact oi [9] fun Y=>Qa0 rfl rfl (Zz Y)
   ·exact oi [10] fun Y=>QbB rfl (Zz Y)
   rintro J1 w16 J2 hJ Y
   replace hJ:J2=upd (mix (sq 92 12) J1 _) 103 (.bool (!decide (cf (gd l mid) (gd l ((i+j)/2))<0))):=hJ
   subst hJ
   refine Qak (t:=!decide (cf (gd l mid) (gd l ((i+j)/2))<0)) rfl (fun c17=>?_) (fun c17=>?_)
   ·
    replace c17:=QbE c17
    replace c17:=QQ2 c17
    refine Qab (Qaa (Qaf (I6 (((i+j)/2:Nat):Int)) (Qaa (QaB (a:=(((i+j)/2:Nat):Int)) (b:=1) (c:=((((i+j)/2)+1:Nat):Int)) rfl rfl (Qaj (by omega) (by omega)) (Qaa (Qam (I6 ((((i+j)/2)+1:Nat):Int)) (Qad ?_)))))))
    refine ⟨_,?_,_,((i+j)/2)+1,j,Qai (Qai (Qao (ds:=([14,15,16]++sq 83 24)) (by repeat (first|exact Agr.refl _ _|refine Agr.upd ?_ rfl|refine Agr.mix ?_ rfl))) rfl) rfl,(by omega),(by omega),(by omega),(Or.inr (by rw [Nat.add_sub_cancel];exact c17)),hj2,rfl,Y.take 1⟩
    omega
   replace c17:=Qbd c17
   replace c17:=QQ1 c17
   refine Qab (Qaa (Qaf (I6 (((i+j)/2:Nat):Int)) (Qaa (Qam (I6 (((i+j)/2:Nat):Int)) (Qad ?_)))))
   refine ⟨_,?_,_,i,(i+j)/2,Qai (Qai (Qao (ds:=([14,15,16]++sq 83 24)) (by repeat (first|exact Agr.refl _ _|refine Agr.upd ?_ rfl|refine Agr.mix ?_ rfl))) rfl) rfl,(by omega),(by omega),(by omega),hi2,(Or.inr c17),rfl,Y.take 1⟩
   omega
  replace c14:=QQ2 c14
  refine QaI (Qae (Qae (Qab (Qaa (Qaf (I6 (mid:Int)) (Qaa (Qam (I6 (mid:Int)) (Qad (Qal ?_)))))))))
  have hie:i=j:=by omega
  refine QaE (fun J μ J' w'=>∃ (Jo:Env) (k:Nat) (m:List Cen),J'=upd (mix ([17]++sq 108 21) Jo J) 17 (I6 (k:Int))/\(i<=k)/\(k<=mid)/\(m.length=N)/\(Qcf l m k mid (mid+1))/\μ=k+1/\Own w S w' [row (.slice a N c) (m.map cec) 106 7]) ?_ ?_
  ·exact ⟨_,_,mid,l,Qai (Qao (ds:=([17]++sq 108 21)) (Agr.refl _ _)) rfl,(by omega),(Nat.le_refl _),hz,(Qcf.refl (by omega) (by omega) (by omega) (Or.inl rfl)),rfl,Y⟩
  rintro μ J' w18 ⟨Jo,k,m,rfl,hk1,hk2,hz1,hro,rfl,Y⟩
  refine Qae (Qae (Qab (Qaa (Qaf (I6 (k:Int)) (Qaa (Qaf (I6 (i:Int)) (Qaa (Qca rfl rfl (Qad (Qak (t:=decide ((i:Int)<(k:Int))) rfl (fun c19=>?_) (fun c19=>?_)))))))))))
  ·
   replace c19:=QQ1 c19
   refine Qap (Qae (Qal (QaH HM (so 113 15++[none,some 128,none]) [] [0,0,0,0,8,0,0,64,224,480,0,0,3072,7168,16355,32739,65535,131071] [pv (.slice a N c),pv (I6 (k:Int)),pv (.slice a N c),pv (I6 (k:Int)),pv (I6 ((k-1:Nat):Int)),pv (.slice a N c),pv (I6 (k:Int)),pv (I6 ((k-1:Nat):Int)),pv (.pointer (some ⟨bkS (.slice a N c),ofS (.slice a N c)+((k-1:Nat):Int).toNat*7,none⟩)),pv (.agg (cec (gd m (k-1))).toArray),pv (.slice a N c),pv (I6 (k:Int)),pv (.pointer (some ⟨bkS (.slice a N c),ofS (.slice a N c)+(k:Int).toNat*7,none⟩)),pv (.agg (cec (gd m k)).toArray),pv (.pointer (some ⟨bkS (.slice a N c),ofS (.slice a N c)+(k:Int).toNat*7,none⟩)),pn,pv (.pointer (some ⟨bkS (.slice a N c),ofS (.slice a N c)+((k-1:Nat):Int).toNat*7,none⟩)),pn] (fun D J=>[cond (D 17) (row (.slice a N c) (((m.set k (gd m (k-1))).set (k-1) (gd m k)).map cec) 106 7) (cond (D 15) (row (.slice a N c) ((m.set k (gd m (k-1))).map cec) 106 7) (row (.slice a N c) (m.map cec) 106 7))]) [] (by kernel_rfl) Y ⟨?_,?_,?_,?_,?_,?_,?_,?_,?_,?_,?_,?_,?_,?_,?_,?_,?_,?_,trivial⟩ ?_)))
   ·exact oi [] fun Y=>Qaf (.slice a N c) (Zz Y)
   ·exact oi [] fun Y=>Qaf (.int .i64 (k:Int)) (Zz Y)
   ·exact oi [] fun Y=>Qaf (.slice a N c) (Zz Y)
   ·exact oi [] fun Y=>Qaf (.int .i64 (k:Int)) (Zz Y)
   ·exact oi [3] fun Y=>Qbb (a:=(k:Int)) (b:=1) (c:=((k-1:Nat):Int)) rfl rfl (Qaj (by omega) (by omega)) (Zz Y)
   ·exact oi [] fun Y=>Qaf (.slice a N c) (Zz Y)
   ·exact oi [] fun Y=>Qaf (.int .i64 (k:Int)) (Zz Y)
   ·exact oi [6] fun Y=>Qbb (a:=(k:Int)) (b:=1) (c:=((k-1:Nat):Int)) rfl rfl (Qaj (by omega) (by omega)) (Zz Y)
   ·exact ob [5,7] [15,17] rfl rfl fun D J w Y=>Qax QbK QaF.1 (Y.rd 0 rfl) rfl rfl (by omega) (by rw [QQ6];omega) (Zz Y)
   ·exact ob [8] [15,17] rfl rfl fun D J w Y=>Qa9 (j:=0) (vs:=cec (gd m (k-1))) (k-1) QaF (Y.rd 0 rfl) (Qa4 (by omega)) rfl rfl rfl (by omega) (Zz Y)
   ·exact oi [] fun Y=>Qaf (.slice a N c) (Zz Y)
   ·exact oi [] fun Y=>Qaf (.int .i64 (k:Int)) (Zz Y)
   ·exact ob [10,11] [15,17] rfl rfl fun D J w Y=>Qax QbK QaF.1 (Y.rd 0 rfl) rfl rfl (by omega) (by rw [QQ6];omega) (Zz Y)
   ·exact ob [12] [15,17] rfl rfl fun D J w Y=>Qa9 (j:=0) (vs:=cec (gd m k)) k QaF (Y.rd 0 rfl) (Qa4 (by omega)) rfl rfl rfl (by omega) (Zz Y)
   ·exact ob [0,1] [15,17] rfl rfl fun D J w Y=>Qax QbK QaF.1 (Y.rd 0 rfl) rfl rfl (by omega) (by rw [QQ6];omega) (Zz Y)
   ·exact ob [9,14] [17] rfl rfl fun D J w Y=>Qh8 (z:=gd m (k-1)) k QaF.1 Y 0 rfl rfl rfl (by first|omega|(simp only [List.length_set];omega)) rfl rfl rfl (Qby _) fun _ Y=>⟨trivial,Y⟩
   ·exact ob [2,4,15] [17] rfl rfl fun D J w Y=>Qax QbK QaF.1 (Y.rd 0 rfl) rfl rfl (by omega) (by simp only [QQ6,List.length_set];omega) (Zz Y)
   ·exact oi [13,15,16] fun Y=>Qh8 (z:=gd m k) (k-1) QaF.1 Y 0 rfl rfl rfl (by first|omega|(simp only [List.length_set];omega)) rfl rfl rfl (Qby _) fun _ Y=>⟨trivial,Y⟩
   rintro J1 w22 J2 hJ Y
   replace hJ:J2=mix (sq 113 16) J1 _:=hJ
   replace Y:Own w S w22 [row (.slice a N c) (((m.set k (gd m (k-1))).set (k-1) (gd m k)).map cec) 106 7]:=Y
   subst hJ
   replace Y:Own w S _ [row (.slice a N c) ((swL m k (k-1)).map cec) 106 7]:=Y.take 1
   refine Qab (Qaa (Qaf (I6 (k:Int)) (Qaa (Qbb (a:=(k:Int)) (b:=1) (c:=((k-1:Nat):Int)) rfl rfl (Qaj (by omega) (by omega)) (Qaa (Qam (I6 ((k-1:Nat):Int)) (Qad ?_)))))))
   refine ⟨_,?_,_,k-1,swL m k (k-1),Qai (Qao (ds:=([17]++sq 108 21)) (by repeat (first|exact Agr.refl _ _|refine Agr.upd ?_ rfl|refine Agr.mix ?_ rfl))) rfl,(by omega),(by omega),(by rw [Qif];exact hz1),(QpI hro (by omega)),rfl,Y.take 1⟩
   omega
  replace c19:=QQ2 c19
  refine QaI (Qav ?_)
  refine ⟨_,Qbl results157,?_⟩
  have hke:k=i:=by omega
  rw [hke] at hro
  have hm:=QqD hc ho1 hi1 (by omega) (by omega) hro hi2 (by rw [hie];exact hj2)
  rw [show mid+1=hi by omega] at hm
  exact ⟨m,rfl,Y.take 1,hz1,hm⟩
 replace c12:=QQ2 c12
 refine Qap (Qae (Qab (Qaa (Qaf (I6 (lo:Int)) (Qaa (Qaf (I6 (hi:Int)) (Qaa (QaB (a:=(lo:Int)) (b:=(hi:Int)) (c:=((lo+hi:Nat):Int)) rfl rfl (Qaj (by omega) (by omega)) (Qaa (QbV Qhk QdH rfl (Qdu (by omega) (by omega)) (Qaa (QhD rfl rfl (Qaa (QbV QdH Qhk rfl (Qbx (by omega) (by omega)) (Qaa (Qam (I6 (((lo+hi)/2:Nat):Int)) (Qad (Qae (Qab (Qaa (Qaf (I6 (((lo+hi)/2:Nat):Int)) (Qaa (Qaf (I6 (mid:Int)) (Qaa (QaB (a:=(((lo+hi)/2:Nat):Int)) (b:=(mid:Int)) (c:=((((lo+hi)/2)+mid:Nat):Int)) rfl rfl (Qaj (by omega) (by omega)) (Qaa (Qam (I6 ((((lo+hi)/2)+mid:Nat):Int)) (Qad (Qae (Qab (Qaa (Qam (I6 0) (Qaa (Qam (I6 0) (Qad (Qae (Qae (Qab (Qaa (Qaf (I6 (mid:Int)) (Qaa (Qaf (I6 (((lo+hi)/2:Nat):Int)) (Qaa (Qca rfl rfl (Qad (Qgi (fun J J' w'=>∃ (Jo:Env) (s0:Nat) (r0:Nat),J'=upd (upd (mix ([20,21]++sq 141 6) Jo J) 20 (I6 (s0:Int))) 21 (I6 (r0:Int))/\(lo<=s0)/\(s0<=r0)/\(r0<=mid)/\(r0<=(lo+hi)/2)/\((lo+hi)/2+mid<=hi+s0)/\(s0=lo∨(lo+hi)/2+mid=hi+s0)/\(r0=mid∨r0=(lo+hi)/2)/\Own w S w' [row (.slice a N c) (l.map cec) 106 7]) ?_ ?_))))))))))))))))))))))))))))))))))))))))))))))
 ·
  refine Qak (t:=decide ((((lo+hi)/2:Nat):Int)<(mid:Int))) rfl (fun c23=>?_) (fun c23=>?_)
  ·
   replace c23:=QQ1 c23
   refine Qae (Qab (Qaa (Qaf (I6 ((((lo+hi)/2)+mid:Nat):Int)) (Qaa (Qaf (I6 (hi:Int)) (Qaa (Qbb (a:=((((lo+hi)/2)+mid:Nat):Int)) (b:=(hi:Int)) (c:=(((((lo+hi)/2)+mid)-hi:Nat):Int)) rfl rfl (Qaj (by omega) (by omega)) (Qaa (Qam (I6 (((((lo+hi)/2)+mid)-hi:Nat):Int)) (Qad (Qab (Qaa (Qaf (I6 (((lo+hi)/2:Nat):Int)) (Qaa (Qam (I6 (((lo+hi)/2:Nat):Int)) (Qad ?_))))))))))))))))
   exact ⟨_,(((lo+hi)/2)+mid)-hi,(lo+hi)/2,Qai (Qai (Qao (ds:=([20,21]++sq 141 6)) (by repeat (first|exact Agr.refl _ _|refine Agr.upd ?_ rfl|refine Agr.mix ?_ rfl))) rfl) rfl,(by omega),(by omega),(by omega),(by omega),(by omega),(by omega),(by omega),Y.take 1⟩
  replace c23:=QQ2 c23
  refine Qae (Qab (Qaa (Qaf (I6 (lo:Int)) (Qaa (Qam (I6 (lo:Int)) (Qad (Qab (Qaa (Qaf (I6 (mid:Int)) (Qaa (Qam (I6 (mid:Int)) (Qad ?_))))))))))))
  exact ⟨_,lo,mid,Qai (Qai (Qao (ds:=([20,21]++sq 141 6)) (by repeat (first|exact Agr.refl _ _|refine Agr.upd ?_ rfl|refine Agr.mix ?_ rfl))) rfl) rfl,(by omega),(by omega),(by omega),(by omega),(by omega),(by omega),(by omega),Y.take 1⟩
 rintro J' w24 ⟨Jo,s0,r0,rfl,q1,q2,q3,q4,q5,q6,q7,Y⟩
 refine Qae (Qab (Qaa (Qaf (I6 ((((lo+hi)/2)+mid:Nat):Int)) (Qaa (Qbb (a:=((((lo+hi)/2)+mid:Nat):Int)) (b:=1) (c:=(((((lo+hi)/2)+mid)-1:Nat):Int)) rfl rfl (Qaj (by omega) (by omega)) (Qaa (Qam (I6 (((((lo+hi)/2)+mid)-1:Nat):Int)) (Qad (Qae (Qal (QaE (fun J μ J' w'=>∃ (Jo:Env) (s:Nat) (r:Nat),J'=upd (upd (mix ([20,21,23]++sq 149 26) Jo J) 20 (I6 (s:Int))) 21 (I6 (r:Int))/\(s0<=s)/\(s<=r)/\(r<=r0)/\(s=s0∨¬cf (gd l ((lo+hi)/2+mid-1-(s-1))) (gd l (s-1))<0)/\(r=r0∨cf (gd l ((lo+hi)/2+mid-1-r)) (gd l r)<0)/\μ=r-s/\Own w S w' [row (.slice a N c) (l.map cec) 106 7]) ?_ ?_)))))))))))
 ·exact ⟨_,_,s0,r0,Qai (Qai (Qao (ds:=([20,21,23]++sq 149 26)) (Agr.refl _ _)) rfl) rfl,(Nat.le_refl _),(by omega),(Nat.le_refl _),(Or.inl rfl),(Or.inl rfl),rfl,Y⟩
 rintro μ J' w25 ⟨Jo,s,r,rfl,hs1,hsr,hr1,hs2,hr2,rfl,Y⟩
 refine Qae (Qae (Qab (Qaa (Qaf (I6 (s:Int)) (Qaa (Qaf (I6 (r:Int)) (Qaa (Qa0 rfl rfl (Qad (Qak (t:=decide ((s:Int)<(r:Int))) rfl (fun c26=>?_) (fun c26=>?_)))))))))))
 ·
  replace c26:=QQ1 c26
  refine Qap (Qal (Qae (Qab (Qaa (Qaf (I6 (s:Int)) (Qaa (Qaf (I6 (r:Int)) (Qaa (QaB (a:=(s:Int)) (b:=(r:Int)) (c:=((s+r:Nat):Int)) rfl rfl (Qaj (by omega) (by omega)) (Qaa (QbV Qhk QdH rfl (Qdu (by omega) (by omega)) (Qaa (QhD rfl rfl (Qaa (QbV QdH Qhk rfl (Qbx (by omega) (by omega)) (Qaa (Qam (I6 (((s+r)/2:Nat):Int)) (Qad (Qae (QaH HM (so 158 14) [] [0,0,0,0,12,30,62,0,0,384,896,2047,4095,8191] [pv (.func (.func g) #[] #[]),pv (.slice a N c),pv (I6 (((((lo+hi)/2)+mid)-1:Nat):Int)),pv (I6 (((s+r)/2:Nat):Int)),pv (I6 ((((((lo+hi)/2)+mid)-1)-((s+r)/2):Nat):Int)),pv (.pointer (some ⟨bkS (.slice a N c),ofS (.slice a N c)+((((((lo+hi)/2)+mid)-1)-((s+r)/2):Nat):Int).toNat*7,none⟩)),pv (.agg (cec (gd l (((((lo+hi)/2)+mid)-1)-((s+r)/2)))).toArray),pv (.slice a N c),pv (I6 (((s+r)/2:Nat):Int)),pv (.pointer (some ⟨bkS (.slice a N c),ofS (.slice a N c)+(((s+r)/2:Nat):Int).toNat*7,none⟩)),pv (.agg (cec (gd l ((s+r)/2))).toArray),pv (I6 (cf (gd l (((((lo+hi)/2)+mid)-1)-((s+r)/2))) (gd l ((s+r)/2)))),pv (.bool (decide (cf (gd l (((((lo+hi)/2)+mid)-1)-((s+r)/2))) (gd l ((s+r)/2))<0))),pv (.bool (!decide (cf (gd l (((((lo+hi)/2)+mid)-1)-((s+r)/2))) (gd l ((s+r)/2))<0)))] (fun _ _=>_) [13] (by kernel_rfl) Y ⟨?_,?_,?_,?_,?_,?_,?_,?_,?_,?_,?_,?_,?_,?_,trivial⟩ ?_))))))))))))))))))))
  ·exact oi [] fun Y=>Qaf (.func (.func g) #[] #[]) (Zz Y)
  ·exact oi [] fun Y=>Qaf (.slice a N c) (Zz Y)
  ·exact oi [] fun Y=>Qaf (.int .i64 (((((lo+hi)/2)+mid)-1:Nat):Int)) (Zz Y)
  ·exact oi [] fun Y=>Qaf (.int .i64 (((s+r)/2:Nat):Int)) (Zz Y)
  ·exact oi [2,3] fun Y=>Qbb (a:=(((((lo+hi)/2)+mid)-1:Nat):Int)) (b:=(((s+r)/2:Nat):Int)) (c:=((((((lo+hi)/2)+mid)-1)-((s+r)/2):Nat):Int)) rfl rfl (Qaj (by omega) (by omega)) (Zz Y)
  ·exact oi [1,4] fun Y=>Qax QbK QaF.1 (Y.rd 0 rfl) rfl rfl (by omega) (by rw [QQ6];omega) (Zz Y)
  ·exact oi [5] fun Y=>Qa9 (j:=0) (vs:=cec (gd l (((((lo+hi)/2)+mid)-1)-((s+r)/2)))) (((((lo+hi)/2)+mid)-1)-((s+r)/2)) QaF (Y.rd 0 rfl) (Qa4 (by omega)) rfl rfl rfl (by omega) (Zz Y)
  ·exact oi [] fun Y=>Qaf (.slice a N c) (Zz Y)
  ·exact oi [] fun Y=>Qaf (.int .i64 (((s+r)/2:Nat):Int)) (Zz Y)
  ·exact oi [7,8] fun Y=>Qax QbK QaF.1 (Y.rd 0 rfl) rfl rfl (by omega) (by rw [QQ6];omega) (Zz Y)
  ·exact oi [9] fun Y=>Qa9 (j:=0) (vs:=cec (gd l ((s+r)/2))) ((s+r)/2) QaF (Y.rd 0 rfl) (Qa4 (by omega)) rfl rfl rfl (by omega) (Zz Y)
  ·exact oi [0,6,10] fun Y=>Qfu (vs:=[.agg (cec (gd l (((((lo+hi)/2)+mid)-1)-((s+r)/2)))).toArray,.agg (cec (gd l ((s+r)/2))).toArray]) (cs:=[]) (V:=.int .i64 (cf (gd l (((((lo+hi)/2)+mid)-1)-((s+r)/2))) (gd l ((s+r)/2)))) hg rfl rfl (hcmp _ (gd l (((((lo+hi)/2)+mid)-1)-((s+r)/2))) (gd l ((s+r)/2))) Y fun _ Y=>Zz Y
  ·exact oi [11] fun Y=>Qa0 rfl rfl (Zz Y)
  ·exact oi [12] fun Y=>QbB rfl (Zz Y)
  rintro J1 w28 J2 hJ Y
  replace hJ:J2=upd (mix (sq 158 14) J1 _) 171 (.bool (!decide (cf (gd l (((((lo+hi)/2)+mid)-1)-((s+r)/2))) (gd l ((s+r)/2))<0))):=hJ
  subst hJ
  refine Qak (t:=!decide (cf (gd l (((((lo+hi)/2)+mid)-1)-((s+r)/2))) (gd l ((s+r)/2))<0)) rfl (fun c29=>?_) (fun c29=>?_)
  ·
   replace c29:=QbE c29
   replace c29:=QQ2 c29
   refine Qab (Qaa (Qaf (I6 (((s+r)/2:Nat):Int)) (Qaa (QaB (a:=(((s+r)/2:Nat):Int)) (b:=1) (c:=((((s+r)/2)+1:Nat):Int)) rfl rfl (Qaj (by omega) (by omega)) (Qaa (Qam (I6 ((((s+r)/2)+1:Nat):Int)) (Qad ?_)))))))
   refine ⟨_,?_,_,((s+r)/2)+1,r,Qai (Qai (Qao (ds:=([20,21,23]++sq 149 26)) (by repeat (first|exact Agr.refl _ _|refine Agr.upd ?_ rfl|refine Agr.mix ?_ rfl))) rfl) rfl,(by omega),(by omega),(by omega),(Or.inr (by rw [Nat.add_sub_cancel];exact c29)),hr2,rfl,Y.take 1⟩
   omega
  replace c29:=Qbd c29
  replace c29:=QQ1 c29
  refine Qab (Qaa (Qaf (I6 (((s+r)/2:Nat):Int)) (Qaa (Qam (I6 (((s+r)/2:Nat):Int)) (Qad ?_)))))
  refine ⟨_,?_,_,s,(s+r)/2,Qai (Qai (Qao (ds:=([20,21,23]++sq 149 26)) (by repeat (first|exact Agr.refl _ _|refine Agr.upd ?_ rfl|refine Agr.mix ?_ rfl))) rfl) rfl,(by omega),(by omega),(by omega),hs2,(Or.inr c29),rfl,Y.take 1⟩
  omega
 replace c26:=QQ2 c26
 refine QaI (Qae (Qab (Qaa (Qaf (I6 ((((lo+hi)/2)+mid:Nat):Int)) (Qaa (Qaf (I6 (s:Int)) (Qaa (Qbb (a:=((((lo+hi)/2)+mid:Nat):Int)) (b:=(s:Int)) (c:=(((((lo+hi)/2)+mid)-s:Nat):Int)) rfl rfl (Qaj (by omega) (by omega)) (Qaa (Qam (I6 (((((lo+hi)/2)+mid)-s:Nat):Int)) (Qad (Qae (Qae (Qbv (so 178 8) [] [0,0,3,7,15,15,63,127] [pv (I6 (s:Int)),pv (I6 (mid:Int)),pv (.bool (decide ((s:Int)<(mid:Int)))),pv (.bool (decide ((s:Int)<(mid:Int)))),pg ((decide ((s:Int)<(mid:Int))) == true) (I6 (mid:Int)),pg ((decide ((s:Int)<(mid:Int))) == true) (I6 (((((lo+hi)/2)+mid)-s:Nat):Int)),pg ((decide ((s:Int)<(mid:Int))) == true) (.bool (decide ((mid:Int)<(((((lo+hi)/2)+mid)-s:Nat):Int)))),pv (.bool ((decide ((s:Int)<(mid:Int)))&&(decide ((mid:Int)<(((((lo+hi)/2)+mid)-s:Nat):Int)))))] (fun _ _=>_) [7] (by kernel_rfl) Y ⟨?_,?_,?_,?_,?_,?_,?_,?_,trivial⟩ ?_))))))))))))))
 ·exact oi [] fun Y=>Qaf (.int .i64 (s:Int)) (Zz Y)
 ·exact oi [] fun Y=>Qaf (.int .i64 (mid:Int)) (Zz Y)
 ·exact oi [0,1] fun Y=>Qa0 rfl rfl (Zz Y)
 ·exact oi [2] fun Y=>Qaf (.bool (decide ((s:Int)<(mid:Int)))) (Zz Y)
 ·exact ogi [3] fun hG Y=>Qaf (.int .i64 (mid:Int)) (Zz Y)
 ·exact ogi [3] fun hG Y=>Qaf (.int .i64 (((((lo+hi)/2)+mid)-s:Nat):Int)) (Zz Y)
 ·exact oyi [3,4,5] [4,5] fun hG Y=>Qa0 rfl rfl (Zz Y)
 ·exact oi [3,6] fun Y=>Qbg (h':=decide ((mid:Int)<(((((lo+hi)/2)+mid)-s:Nat):Int))) rfl rfl rfl (Zz Y)
 rintro J1 w30 J2 hJ Y
 replace hJ:J2=upd (mix (sq 178 8) J1 _) 185 (.bool ((decide ((s:Int)<(mid:Int)))&&(decide ((mid:Int)<(((((lo+hi)/2)+mid)-s:Nat):Int))))):=hJ
 subst hJ
 have hse:s=r:=by omega
 rw [← hse] at hr2
 have hg1:=Qvg (lo:=lo) (hi:=hi) (e:=(lo+hi)/2+mid-s) hs2 q6 hs1 rfl
 have hg2:=Qwl (md:=(lo+hi)/2) (e:=(lo+hi)/2+mid-s) hr2 q7 rfl rfl (by omega)
 refine Qgi (fun J J' w'=>∃ (Jo:Env) (m1:List Cen),J'=mix (sq 186 6) Jo J/\(m1.length=N)/\(Qcf l m1 s mid ((lo+hi)/2+mid-s))/\Own w S w' [row (.slice a N c) (m1.map cec) 106 7]) ?_ ?_
 ·
  refine Qak (t:=(decide ((s:Int)<(mid:Int)))&&(decide ((mid:Int)<(((((lo+hi)/2)+mid)-s:Nat):Int)))) rfl (fun c31=>?_) (fun c31=>?_)
  ·
   have c31r:=Qcl c31
   replace c31:=QbZ c31
   replace c31:=QQ1 c31
   replace c31r:=QQ1 c31r
   refine Qab (Qaa (Qaf (.slice a N c) (Qaa (Qaf (I6 (s:Int)) (Qaa (Qaf (I6 (mid:Int)) (Qaa (Qaf (I6 (((((lo+hi)/2)+mid)-s:Nat):Int)) (Qaa (Qaf (.func (.func g) #[] #[]) (Qaa (QbF (α:=List Cen) (vs:=[.slice a N c,I6 (s:Int),I6 (mid:Int),I6 (((((lo+hi)/2)+mid)-s:Nat):Int),.func (.func g) #[] #[]]) (V:=fun _=>.tuple #[]) (R:=row (.slice a N c) (l.map cec) 106 7) (R':=fun x=>row (.slice a N c) (x.map cec) 106 7) (Lo:=fun _=>[]) (F:=fun x _=>x.length=N/\Qcf l x s mid ((((lo+hi)/2)+mid)-s)) Quy rfl rfl Y 0 rfl (fun S hS hlt=>QvF _ S a N c l hz hN s mid ((((lo+hi)/2)+mid)-s) (by omega) (by omega) (by omega) g hg cf hc hcmp hS hlt) fun mz32 w33 Y hF34=>(Qad ?_)))))))))))))
   exact ⟨_,mz32,Qao (ds:=(sq 186 6)) (by repeat (first|exact Agr.refl _ _|refine Agr.upd ?_ rfl|refine Agr.mix ?_ rfl)),hF34.1,hF34.2,Y.take 1⟩
  refine Qap ?_
  exact ⟨_,l,Qao (ds:=(sq 186 6)) (by repeat (first|exact Agr.refl _ _|refine Agr.upd ?_ rfl|refine Agr.mix ?_ rfl)),hz,(Qcf.refl (by omega) (by omega) (by omega) (by
 have ht:=c31
 rcases Nat.lt_or_ge s mid with q|q
 ·right;simp [q] at ht;omega
 ·left;omega)),Y.take 1⟩
 rintro J' w35 ⟨Jo,m1,rfl,hz1,hro,Y⟩
 have hmd:s+((lo+hi)/2+mid-s-mid)=(lo+hi)/2:=by omega
 have hh:=QfT hc ho1 ho2 (by omega) (by omega) (by omega) (by omega) hro hg1 hg2
 rw [hmd] at hh
 obtain ⟨k1,k2,k3,k4,k5⟩:=hh
 refine Qae (Qae (Qbv (so 192 8) [] [0,0,3,7,15,15,63,127] [pv (I6 (lo:Int)),pv (I6 (s:Int)),pv (.bool (decide ((lo:Int)<(s:Int)))),pv (.bool (decide ((lo:Int)<(s:Int)))),pg ((decide ((lo:Int)<(s:Int))) == true) (I6 (s:Int)),pg ((decide ((lo:Int)<(s:Int))) == true) (I6 (((lo+hi)/2:Nat):Int)),pg ((decide ((lo:Int)<(s:Int))) == true) (.bool (decide ((s:Int)<(((lo+hi)/2:Nat):Int)))),pv (.bool ((decide ((lo:Int)<(s:Int)))&&(decide ((s:Int)<(((lo+hi)/2:Nat):Int)))))] (fun _ _=>_) [7] (by kernel_rfl) Y ⟨?_,?_,?_,?_,?_,?_,?_,?_,trivial⟩ ?_))
 ·exact oi [] fun Y=>Qaf (.int .i64 (lo:Int)) (Zz Y)
 ·exact oi [] fun Y=>Qaf (.int .i64 (s:Int)) (Zz Y)
 ·exact oi [0,1] fun Y=>Qa0 rfl rfl (Zz Y)
 ·exact oi [2] fun Y=>Qaf (.bool (decide ((lo:Int)<(s:Int)))) (Zz Y)
 ·exact ogi [3] fun hG Y=>Qaf (.int .i64 (s:Int)) (Zz Y)
 ·exact ogi [3] fun hG Y=>Qaf (.int .i64 (((lo+hi)/2:Nat):Int)) (Zz Y)
 ·exact oyi [3,4,5] [4,5] fun hG Y=>Qa0 rfl rfl (Zz Y)
 ·exact oi [3,6] fun Y=>Qbg (h':=decide ((s:Int)<(((lo+hi)/2:Nat):Int))) rfl rfl rfl (Zz Y)
 rintro J1 w36 J2 hJ Y
 replace hJ:J2=upd (mix (sq 192 8) J1 _) 199 (.bool ((decide ((lo:Int)<(s:Int)))&&(decide ((s:Int)<(((lo+hi)/2:Nat):Int))))):=hJ
 subst hJ
 refine Qgi (fun J J' w'=>∃ (Jo:Env) (m2:List Cen),J'=mix (sq 200 6) Jo J/\(m2.length=N)/\(Merged cf m1 m2 lo ((lo+hi)/2))/\Own w S w' [row (.slice a N c) (m2.map cec) 106 7]) ?_ ?_
 ·
  refine Qak (t:=(decide ((lo:Int)<(s:Int)))&&(decide ((s:Int)<(((lo+hi)/2:Nat):Int)))) rfl (fun c37=>?_) (fun c37=>?_)
  ·
   have c37r:=Qcl c37
   replace c37:=QbZ c37
   replace c37:=QQ1 c37
   replace c37r:=QQ1 c37r
   refine Qab (Qaa (Qaf (.slice a N c) (Qaa (Qaf (I6 (lo:Int)) (Qaa (Qaf (I6 (s:Int)) (Qaa (Qaf (I6 (((lo+hi)/2:Nat):Int)) (Qaa (Qaf (.func (.func g) #[] #[]) (Qaa (QbF (α:=List Cen) (vs:=[.slice a N c,I6 (lo:Int),I6 (s:Int),I6 (((lo+hi)/2:Nat):Int),.func (.func g) #[] #[]]) (V:=fun _=>.tuple #[]) (R:=row (.slice a N c) (m1.map cec) 106 7) (R':=fun x=>row (.slice a N c) (x.map cec) 106 7) (Lo:=fun _=>[]) (F:=fun x _=>x.length=N/\Merged cf m1 x lo ((lo+hi)/2)) Qlu rfl rfl Y 0 rfl (fun S hS hlt=>ih _ S a N c m1 lo s ((lo+hi)/2) hz1 hN (by omega) (by omega) (by omega) (by omega) k1 k2 hS hlt) fun mz38 w39 Y hF40=>(Qad ?_)))))))))))))
   exact ⟨_,mz38,Qao (ds:=(sq 200 6)) (by repeat (first|exact Agr.refl _ _|refine Agr.upd ?_ rfl|refine Agr.mix ?_ rfl)),hF40.1,hF40.2,Y.take 1⟩
  refine Qap ?_
  exact ⟨_,m1,Qao (ds:=(sq 200 6)) (by repeat (first|exact Agr.refl _ _|refine Agr.upd ?_ rfl|refine Agr.mix ?_ rfl)),hz1,(⟨Qbj.refl m1 (by omega) (by omega),by
 have ht:=c37
 rcases Nat.lt_or_ge lo s with q|q
 ·have q2:(lo+hi)/2<=s:=by simp [q] at ht;omega
  exact k1.sub (Nat.le_refl _) q2
 ·exact k2.sub q (Nat.le_refl _)⟩),Y.take 1⟩
 rintro J' w41 ⟨Jo,m2,rfl,hz2,hmg,Y⟩
 have k3b:=k3.out hmg.1 (.inr (Nat.le_refl _))
 have k4b:=k4.out hmg.1 (.inr (by omega))
 refine Qae (Qbv (so 206 8) [] [0,0,3,7,15,15,63,127] [pv (I6 (((lo+hi)/2:Nat):Int)),pv (I6 (((((lo+hi)/2)+mid)-s:Nat):Int)),pv (.bool (decide ((((lo+hi)/2:Nat):Int)<(((((lo+hi)/2)+mid)-s:Nat):Int)))),pv (.bool (decide ((((lo+hi)/2:Nat):Int)<(((((lo+hi)/2)+mid)-s:Nat):Int)))),pg ((decide ((((lo+hi)/2:Nat):Int)<(((((lo+hi)/2)+mid)-s:Nat):Int))) == true) (I6 (((((lo+hi)/2)+mid)-s:Nat):Int)),pg ((decide ((((lo+hi)/2:Nat):Int)<(((((lo+hi)/2)+mid)-s:Nat):Int))) == true) (I6 (hi:Int)),pg ((decide ((((lo+hi)/2:Nat):Int)<(((((lo+hi)/2)+mid)-s:Nat):Int))) == true) (.bool (decide ((((((lo+hi)/2)+mid)-s:Nat):Int)<(hi:Int)))),pv (.bool ((decide ((((lo+hi)/2:Nat):Int)<(((((lo+hi)/2)+mid)-s:Nat):Int)))&&(decide ((((((lo+hi)/2)+mid)-s:Nat):Int)<(hi:Int)))))] (fun _ _=>_) [7] (by kernel_rfl) Y ⟨?_,?_,?_,?_,?_,?_,?_,?_,trivial⟩ ?_)
 ·exact oi [] fun Y=>Qaf (.int .i64 (((lo+hi)/2:Nat):Int)) (Zz Y)
 ·exact oi [] fun Y=>Qaf (.int .i64 (((((lo+hi)/2)+mid)-s:Nat):Int)) (Zz Y)
 ·exact oi [0,1] fun Y=>Qa0 rfl rfl (Zz Y)
 ·exact oi [2] fun Y=>Qaf (.bool (decide ((((lo+hi)/2:Nat):Int)<(((((lo+hi)/2)+mid)-s:Nat):Int)))) (Zz Y)
 ·exact ogi [3] fun hG Y=>Qaf (.int .i64 (((((lo+hi)/2)+mid)-s:Nat):Int)) (Zz Y)
 ·exact ogi [3] fun hG Y=>Qaf (.int .i64 (hi:Int)) (Zz Y)
 ·exact oyi [3,4,5] [4,5] fun hG Y=>Qa0 rfl rfl (Zz Y)
 ·exact oi [3,6] fun Y=>Qbg (h':=decide ((((((lo+hi)/2)+mid)-s:Nat):Int)<(hi:Int))) rfl rfl rfl (Zz Y)
 rintro J1 w42 J2 hJ Y
 replace hJ:J2=upd (mix (sq 206 8) J1 _) 213 (.bool ((decide ((((lo+hi)/2:Nat):Int)<(((((lo+hi)/2)+mid)-s:Nat):Int)))&&(decide ((((((lo+hi)/2)+mid)-s:Nat):Int)<(hi:Int))))):=hJ
 subst hJ
 refine Qgi (fun J J' w'=>∃ (Jo:Env) (m3:List Cen),J'=mix (sq 214 6) Jo J/\(m3.length=N)/\(Merged cf m2 m3 ((lo+hi)/2) hi)/\Own w S w' [row (.slice a N c) (m3.map cec) 106 7]) ?_ ?_
 ·
  refine Qak (t:=(decide ((((lo+hi)/2:Nat):Int)<(((((lo+hi)/2)+mid)-s:Nat):Int)))&&(decide ((((((lo+hi)/2)+mid)-s:Nat):Int)<(hi:Int)))) rfl (fun c43=>?_) (fun c43=>?_)
  ·
   have c43r:=Qcl c43
   replace c43:=QbZ c43
   replace c43:=QQ1 c43
   replace c43r:=QQ1 c43r
   refine Qab (Qaa (Qaf (.slice a N c) (Qaa (Qaf (I6 (((lo+hi)/2:Nat):Int)) (Qaa (Qaf (I6 (((((lo+hi)/2)+mid)-s:Nat):Int)) (Qaa (Qaf (I6 (hi:Int)) (Qaa (Qaf (.func (.func g) #[] #[]) (Qaa (QbF (α:=List Cen) (vs:=[.slice a N c,I6 (((lo+hi)/2:Nat):Int),I6 (((((lo+hi)/2)+mid)-s:Nat):Int),I6 (hi:Int),.func (.func g) #[] #[]]) (V:=fun _=>.tuple #[]) (R:=row (.slice a N c) (m2.map cec) 106 7) (R':=fun x=>row (.slice a N c) (x.map cec) 106 7) (Lo:=fun _=>[]) (F:=fun x _=>x.length=N/\Merged cf m2 x ((lo+hi)/2) hi) Qlu rfl rfl Y 0 rfl (fun S hS hlt=>ih _ S a N c m2 ((lo+hi)/2) ((((lo+hi)/2)+mid)-s) hi hz2 hN (by omega) (by omega) (by omega) (by omega) k3b k4b hS hlt) fun mz44 w45 Y hF46=>(Qad ?_)))))))))))))
   exact ⟨_,mz44,Qao (ds:=(sq 214 6)) (by repeat (first|exact Agr.refl _ _|refine Agr.upd ?_ rfl|refine Agr.mix ?_ rfl)),hF46.1,hF46.2,Y.take 1⟩
  refine Qap ?_
  exact ⟨_,m2,Qao (ds:=(sq 214 6)) (by repeat (first|exact Agr.refl _ _|refine Agr.upd ?_ rfl|refine Agr.mix ?_ rfl)),hz2,(⟨Qbj.refl m2 (by omega) (by omega),by
 have ht:=c43
 rcases Nat.lt_or_ge ((lo+hi)/2) ((lo+hi)/2+mid-s) with q|q
 ·have q2:hi<=(lo+hi)/2+mid-s:=by simp [q] at ht;omega
  exact k3b.sub (Nat.le_refl _) q2
 ·exact k4b.sub q (Nat.le_refl _)⟩),Y.take 1⟩
 rintro J' w47 ⟨Jo,m3,rfl,hz3,hmg2,Y⟩
 refine ⟨_,Qbl results157,?_⟩
 exact ⟨m3,rfl,Y.take 1,hz3,QpV (hro.perm.wide (by omega) (by omega) (by omega)) hmg hmg2 (by omega) (by omega) (by omega) k5⟩
theorem QkX (g:Nat) (hg:En prog g) (cf:Cen->Cen->Int) (hc:CmpO cf) (hcmp:∀ (w:World) (x y:Cen),Calls prog g #[.agg (cec x).toArray,.agg (cec y).toArray] w (fun e w'=>e = .returned (.int .i64 (cf x y))/\Own w no w' [])) (d:Nat):Qv5 prog 157 g 106 7 cec cf d:=by
 induction d with
 | zero=>intro w S a N c l lo mid hi hz hN hd h1 h2;omega
 | succ d ih=>intro w S a N c l lo mid hi hz hN hd h1 h2 h3 ho1 ho2 hR hlt;exact Qou d g hg cf hc hcmp ih w S a N c l lo mid hi hz hN hd h1 h2 h3 ho1 ho2 hR hlt
end Tt
end Go.Proofs
namespace Go.Proofs
open Go Go.Vx Go.RowKit
open Tryz
namespace Tt
theorem Qvf (w:World) (S:Nat->Prop) (a:Option Addr) (N c:Nat) (l:List Cen) (hz:l.length=N) (hN:N<=1152921504606846975) (g:Nat) (hg:En prog g) (cf:Cen->Cen->Int) (hc:CmpO cf) (hcmp:∀ (w:World) (x y:Cen),Calls prog g #[.agg (cec x).toArray,.agg (cec y).toArray] w (fun e w'=>e = .returned (.int .i64 (cf x y))/\Own w no w' [])) (hR:(row (.slice a N c) (l.map cec) 106 7).holds w S) (hlt:∀ b,S b->b<w.heap.size):Calls prog 126 #[.slice a N c,.int .i64 (N:Int),.func (.func g) #[] #[]] w (fun e w'=>∃ x:List Cen,e = .returned (.tuple #[])/\Own w S w' [row (.slice a N c) (x.map cec) 106 7]/\(x.length=N/\x.Perm l/\Qmp cf x)):=by
 refine Qah (n:=63) func126 rfl ntmps126 rfl ?_
 have hN0:=hN
 replace hN:N<=2305843009213693951:=by omega
 have Y:=Own.lent hR hlt
 refine Qae (Qab (Qaa (Qam (I6 20) (Qad (Qae (Qab (Qaa (Qaf (I6 20) (Qaa (Qam (I6 0) (Qaa (Qam (I6 20) (Qad (Qae (Qal (QaE (fun J μ J' w'=>∃ (Jo:Env) (t:Nat) (m:List Cen),J'=upd (upd (mix ([7,8]++sq 11 12) Jo J) 7 (I6 ((t*20:Nat):Int))) 8 (I6 ((t*20+20:Nat):Int))/\(t*20<=N)/\(m.length=N)/\(Qbj l m 0 N)/\(Blk cf m 20 (t*20))/\μ=N-t*20/\Own w S w' [row (.slice a N c) (m.map cec) 106 7]) ?_ ?_))))))))))))))))
 ·exact ⟨_,_,0,l,Qai (Qai (Qao (ds:=([7,8]++sq 11 12)) (Agr.refl _ _)) rfl) rfl,(by omega),hz,(Qbj.refl l (Nat.zero_le _) (by omega)),QqQ,rfl,Y⟩
 rintro μ J' w1 ⟨Jo,t,m,rfl,ht,hz1,hpm,hbl,rfl,Y⟩
 refine Qae (Qae (Qab (Qaa (Qaf (I6 ((t*20+20:Nat):Int)) (Qaa (Qaf (I6 (N:Int)) (Qaa (Qew rfl rfl (Qad (Qak (t:=decide (((t*20+20:Nat):Int)<=(N:Int))) rfl (fun c2=>?_) (fun c2=>?_)))))))))))
 ·
  replace c2:=QQ1 c2
  refine Qap (Qal (Qae (Qab (Qaa (Qaf (.slice a N c) (Qaa (Qaf (I6 ((t*20:Nat):Int)) (Qaa (Qaf (I6 ((t*20+20:Nat):Int)) (Qaa (Qaf (.func (.func g) #[] #[]) (Qaa (QbF (α:=List Cen) (vs:=[.slice a N c,I6 ((t*20:Nat):Int),I6 ((t*20+20:Nat):Int),.func (.func g) #[] #[]]) (V:=fun _=>.tuple #[]) (R:=row (.slice a N c) (m.map cec) 106 7) (R':=fun x=>row (.slice a N c) (x.map cec) 106 7) (Lo:=fun _=>[]) (F:=fun x _=>x.length=N/\Merged cf m x (t*20) (t*20+20)) QrU rfl rfl Y 0 rfl (fun S hS hlt=>QrM _ S a N c m hz1 hN (t*20) (t*20+20) (by omega) (by omega) g hg cf hc hcmp hS hlt) fun mz3 w4 Y hF5=>(Qad (Qae (Qab (Qaa (Qaf (I6 ((t*20+20:Nat):Int)) (Qaa (Qam (I6 ((t*20+20:Nat):Int)) (Qad (Qab (Qaa (Qaf (I6 ((t*20+20:Nat):Int)) (Qaa (Qaf (I6 20) (Qaa (QaB (a:=((t*20+20:Nat):Int)) (b:=20) (c:=(((t*20+20)+20:Nat):Int)) rfl rfl (Qaj (by omega) (by omega)) (Qaa (Qam (I6 (((t*20+20)+20:Nat):Int)) (Qad ?_)))))))))))))))))))))))))))))))
  refine ⟨_,?_,_,t+1,mz3,Qai (Qai (Qao (ds:=([7,8]++sq 11 12)) (by repeat (first|exact Agr.refl _ _|refine Agr.upd ?_ rfl|refine Agr.mix ?_ rfl))) (congrArg (Value.int .i64) (by omega))) (congrArg (Value.int .i64) (by omega)),(by omega),hF5.1,(hpm.trans (hF5.2.1.wide (by omega) (by omega) (by omega))),(by rw [show (t+1)*20=t*20+20 by omega];exact Qk2 hbl hF5.2.1 hF5.2.2 (Nat.le_refl _)),rfl,Y.take 1⟩
  omega
 replace c2:=QQ2 c2
 refine QaI (Qae (Qab (Qaa (Qaf (.slice a N c) (Qaa (Qaf (I6 ((t*20:Nat):Int)) (Qaa (Qaf (I6 (N:Int)) (Qaa (Qaf (.func (.func g) #[] #[]) (Qaa (QbF (α:=List Cen) (vs:=[.slice a N c,I6 ((t*20:Nat):Int),I6 (N:Int),.func (.func g) #[] #[]]) (V:=fun _=>.tuple #[]) (R:=row (.slice a N c) (m.map cec) 106 7) (R':=fun x=>row (.slice a N c) (x.map cec) 106 7) (Lo:=fun _=>[]) (F:=fun x _=>x.length=N/\Merged cf m x (t*20) N) QrU rfl rfl Y 0 rfl (fun S hS hlt=>QrM _ S a N c m hz1 hN (t*20) N (by omega) (by omega) g hg cf hc hcmp hS hlt) fun mz6 w7 Y hF8=>(Qad (Qal ?_))))))))))))))
 have hb0:Blk cf mz6 20 N:=Qk2 hbl hF8.2.1 hF8.2.2 (by omega)
 have hp0:=hpm.trans (hF8.2.1.wide (by omega) (by omega) (by omega))
 refine QaE (fun J μ J' w'=>∃ (Jo:Env) (s:Nat) (m2:List Cen),J'=upd (mix ([6,7,8,9]++sq 28 35) Jo J) 6 (I6 (s:Int))/\(0<s)/\(s<=2*N+20)/\(m2.length=N)/\(Qbj l m2 0 N)/\(Blk cf m2 s N)/\μ=N-s/\Own w S w' [row (.slice a N c) (m2.map cec) 106 7]) ?_ ?_
 ·exact ⟨_,_,20,mz6,Qai (Qao (ds:=([6,7,8,9]++sq 28 35)) (Agr.refl _ _)) rfl,(by omega),(by omega),hF8.1,hp0,hb0,rfl,Y⟩
 rintro μ J' w9 ⟨Jo,s,m2,rfl,hs0,hsN,hz2,hpm2,hb2,rfl,Y⟩
 refine Qae (Qae (Qab (Qaa (Qaf (I6 (s:Int)) (Qaa (Qaf (I6 (N:Int)) (Qaa (Qa0 rfl rfl (Qad (Qak (t:=decide ((s:Int)<(N:Int))) rfl (fun c10=>?_) (fun c10=>?_)))))))))))
 ·
  replace c10:=QQ1 c10
  refine Qap (Qal (Qae (Qab (Qaa (Qaf (I6 (s:Int)) (Qaa (Qhh (a:=2) (b:=(s:Int)) (c:=((2*s:Nat):Int)) rfl rfl (Qaj (by omega) (by omega)) (Qaa (Qam (I6 0) (Qaa (Qam (I6 ((2*s:Nat):Int)) (Qad (Qae (Qal (QaE (fun J μ J' w'=>∃ (Jo:Env) (t:Nat) (A:Nat) (m3:List Cen),J'=upd (upd (mix ([7,8]++sq 33 16) Jo J) 7 (I6 (A:Int))) 8 (I6 ((A+2*s:Nat):Int))/\(A=t*(2*s))/\(A<=N)/\(m3.length=N)/\(Qbj l m3 0 N)/\(Mrg cf m3 s t N)/\μ=N-A/\Own w S w' [row (.slice a N c) (m3.map cec) 106 7]) ?_ ?_)))))))))))))))
  ·exact ⟨_,_,0,0,m2,Qai (Qai (Qao (ds:=([7,8]++sq 33 16)) (Agr.refl _ _)) rfl) (congrArg (Value.int .i64) (by omega)),(by rw [Nat.zero_mul]),(by omega),hz2,hpm2,(Qmx hb2),rfl,Y⟩
  rintro μ J' w11 ⟨Jo,t,A,m3,rfl,hA,hAN,hz3,hpm3,hmr,rfl,Y⟩
  refine Qae (Qae (Qab (Qaa (Qaf (I6 ((A+2*s:Nat):Int)) (Qaa (Qaf (I6 (N:Int)) (Qaa (Qew rfl rfl (Qad (Qak (t:=decide (((A+2*s:Nat):Int)<=(N:Int))) rfl (fun c12=>?_) (fun c12=>?_)))))))))))
  ·
   replace c12:=QQ1 c12
   refine Qap (Qal (Qae ?_))
   have hpp:=Qhf hmr
   rw [← hA] at hpp
   have hp1:=hpp.1.sub (Nat.le_refl _) (show A+s<=min (A+s) N by omega)
   have hp2:=hpp.2.sub (Nat.le_refl _) (show A+2*s<=min (A+2*s) N by omega)
   refine Qab (Qaa (Qaf (.slice a N c) (Qaa (Qaf (I6 (A:Int)) (Qaa (Qaf (I6 (A:Int)) (Qaa (Qaf (I6 (s:Int)) (Qaa (QaB (a:=(A:Int)) (b:=(s:Int)) (c:=((A+s:Nat):Int)) rfl rfl (Qaj (by omega) (by omega)) (Qaa (Qaf (I6 ((A+2*s:Nat):Int)) (Qaa (Qaf (.func (.func g) #[] #[]) (Qaa (QbF (α:=List Cen) (vs:=[.slice a N c,I6 (A:Int),I6 ((A+s:Nat):Int),I6 ((A+2*s:Nat):Int),.func (.func g) #[] #[]]) (V:=fun _=>.tuple #[]) (R:=row (.slice a N c) (m3.map cec) 106 7) (R':=fun x=>row (.slice a N c) (x.map cec) 106 7) (Lo:=fun _=>[]) (F:=fun x _=>x.length=N/\Merged cf m3 x A (A+2*s)) Qlu rfl rfl Y 0 rfl (fun S hS hlt=>QkX g hg cf hc hcmp N _ S a N c m3 A (A+s) (A+2*s) hz3 hN (by omega) (by omega) (by omega) (by omega) hp1 hp2 hS hlt) fun mz13 w14 Y hF15=>(Qad (Qae (Qab (Qaa (Qaf (I6 ((A+2*s:Nat):Int)) (Qaa (Qam (I6 ((A+2*s:Nat):Int)) (Qad (Qab (Qaa (Qaf (I6 ((A+2*s:Nat):Int)) (Qaa (Qaf (I6 (s:Int)) (Qaa (Qhh (a:=2) (b:=(s:Int)) (c:=((2*s:Nat):Int)) rfl rfl (Qaj (by omega) (by omega)) (Qaa (QaB (a:=((A+2*s:Nat):Int)) (b:=((2*s:Nat):Int)) (c:=(((A+2*s)+(2*s):Nat):Int)) rfl rfl (Qaj (by omega) (by omega)) (Qaa (Qam (I6 (((A+2*s)+(2*s):Nat):Int)) (Qad ?_))))))))))))))))))))))))))))))))))))
   refine ⟨_,?_,_,t+1,A+2*s,mz13,Qai (Qai (Qao (ds:=([7,8]++sq 33 16)) (by repeat (first|exact Agr.refl _ _|refine Agr.upd ?_ rfl|refine Agr.mix ?_ rfl))) rfl) (congrArg (Value.int .i64) (by omega)),(by rw [hA,Nat.add_mul,Nat.one_mul]),(by omega),hF15.1,(hpm3.trans (hF15.2.1.wide (by omega) (by omega) (by omega))),(Qk6 hmr (by rw [← hA];exact hF15.2.1) (by rw [← hA];exact hF15.2.2) (by omega)),rfl,Y.take 1⟩
   omega
  replace c12:=QQ2 c12
  refine QaI (Qae (Qae (Qab (Qaa (Qaf (I6 (A:Int)) (Qaa (Qaf (I6 (s:Int)) (Qaa (QaB (a:=(A:Int)) (b:=(s:Int)) (c:=((A+s:Nat):Int)) rfl rfl (Qaj (by omega) (by omega)) (Qaa (Qam (I6 ((A+s:Nat):Int)) (Qad (Qae (Qab (Qaa (Qaf (I6 ((A+s:Nat):Int)) (Qaa (Qaf (I6 (N:Int)) (Qaa (Qa0 rfl rfl (Qad (Qak (t:=decide (((A+s:Nat):Int)<(N:Int))) rfl (fun c16=>?_) (fun c16=>?_)))))))))))))))))))))))
  ·
   replace c16:=QQ1 c16
   have hpp:=Qhf hmr
   rw [← hA] at hpp
   have hp1:=hpp.1.sub (Nat.le_refl _) (show A+s<=min (A+s) N by omega)
   have hp2:=hpp.2.sub (Nat.le_refl _) (show N<=min (A+2*s) N by omega)
   refine Qab (Qaa (Qaf (.slice a N c) (Qaa (Qaf (I6 (A:Int)) (Qaa (Qaf (I6 ((A+s:Nat):Int)) (Qaa (Qaf (I6 (N:Int)) (Qaa (Qaf (.func (.func g) #[] #[]) (Qaa (QbF (α:=List Cen) (vs:=[.slice a N c,I6 (A:Int),I6 ((A+s:Nat):Int),I6 (N:Int),.func (.func g) #[] #[]]) (V:=fun _=>.tuple #[]) (R:=row (.slice a N c) (m3.map cec) 106 7) (R':=fun x=>row (.slice a N c) (x.map cec) 106 7) (Lo:=fun _=>[]) (F:=fun x _=>x.length=N/\Merged cf m3 x A N) Qlu rfl rfl Y 0 rfl (fun S hS hlt=>QkX g hg cf hc hcmp N _ S a N c m3 A (A+s) N hz3 hN (by omega) (by omega) (by omega) (by omega) hp1 hp2 hS hlt) fun mz17 w18 Y hF19=>(Qad (Qab (Qaa (Qaf (I6 (s:Int)) (Qaa (Qhh (a:=(s:Int)) (b:=2) (c:=((s*2:Nat):Int)) rfl rfl (Qaj (by omega) (by omega)) (Qaa (Qam (I6 ((s*2:Nat):Int)) (Qad ?_)))))))))))))))))))))
   refine ⟨_,?_,_,s*2,mz17,Qai (Qao (ds:=([6,7,8,9]++sq 28 35)) (by repeat (first|exact Agr.refl _ _|refine Agr.upd ?_ rfl|refine Agr.mix ?_ rfl))) rfl,(by omega),(by omega),hF19.1,(hpm3.trans (hF19.2.1.wide (by omega) (by omega) (by omega))),(by
 have hq:=Qk6 hmr (by rw [← hA];exact hF19.2.1) (by rw [← hA];exact hF19.2.2) (by omega)
 have hq2:=QsE hq (by rw [Nat.add_mul,Nat.one_mul,← hA];omega)
 rw [Nat.mul_comm s 2];exact hq2),rfl,Y.take 1⟩
   omega
  replace c16:=QQ2 c16
  refine Qap (Qab (Qaa (Qaf (I6 (s:Int)) (Qaa (Qhh (a:=(s:Int)) (b:=2) (c:=((s*2:Nat):Int)) rfl rfl (Qaj (by omega) (by omega)) (Qaa (Qam (I6 ((s*2:Nat):Int)) (Qad ?_))))))))
  refine ⟨_,?_,_,s*2,m3,Qai (Qao (ds:=([6,7,8,9]++sq 28 35)) (by repeat (first|exact Agr.refl _ _|refine Agr.upd ?_ rfl|refine Agr.mix ?_ rfl))) rfl,(by omega),(by omega),hz3,hpm3,(by rw [Nat.mul_comm s 2];exact QpY hmr (by omega)),rfl,Y.take 1⟩
  omega
 replace c10:=QQ2 c10
 refine QaI ?_
 refine ⟨_,Qbl results126,?_⟩
 exact ⟨m2,rfl,Y.take 1,hz2,hpm2.perm,QtZ (QsO hb2 (by omega)) (by omega)⟩
theorem QuV (w:World) (S:Nat->Prop) (a:Option Addr) (N c:Nat) (l:List Cen) (hz:l.length=N) (hN:N<=1152921504606846975) (g:Nat) (hg:En prog g) (cf:Cen->Cen->Int) (hc:CmpO cf) (hcmp:∀ (w:World) (x y:Cen),Calls prog g #[.agg (cec x).toArray,.agg (cec y).toArray] w (fun e w'=>e = .returned (.int .i64 (cf x y))/\Own w no w' [])) (hR:(row (.slice a N c) (l.map cec) 106 7).holds w S) (hlt:∀ b,S b->b<w.heap.size):Calls prog 75 #[.slice a N c,.func (.func g) #[] #[]] w (fun e w'=>∃ x:List Cen,e = .returned (.tuple #[])/\Own w S w' [row (.slice a N c) (x.map cec) 106 7]/\(x.length=N/\x.Perm l/\Qmp cf x)):=by
 refine Qah (n:=9) func75 rfl ntmps75 rfl ?_
 have Y:=Own.lent hR hlt
 refine Qab (Qaa (Qaf (.slice a N c) (Qaa (Qaf (.slice a N c) (Qaa (Qa5 (n:=N) QbK (Y.rd 0 rfl) (by simp [hz]) rfl (Qaa (Qaf (.func (.func g) #[] #[]) (Qaa (QbF (α:=List Cen) (vs:=[.slice a N c,I6 (N:Int),.func (.func g) #[] #[]]) (V:=fun _=>.tuple #[]) (R:=row (.slice a N c) (l.map cec) 106 7) (R':=fun x=>row (.slice a N c) (x.map cec) 106 7) (Lo:=fun _=>[]) (F:=fun x _=>x.length=N/\x.Perm l/\Qmp cf x) Quu rfl rfl Y 0 rfl (fun S hS hlt=>Qvf _ S a N c l hz hN g hg cf hc hcmp hS hlt) fun mz1 w2 Y hF3=>(Qad ?_)))))))))))
 refine ⟨_,Qbl results75,?_⟩
 exact ⟨mz1,rfl,Y.take 1,hF3⟩
end Tt
end Go.Proofs
namespace Go.Proofs
open Go Go.Vx Go.RowKit
open Tryz
namespace Tt
theorem Qqe (w:World) (s:Sta) (a1:Option Addr) (c1:Nat) (a2:Option Addr) (c2:Nat) (n:Int) (hok:QdV s) (hle:s.ents.length<=1000) (hlt:s.ticks.length<=1000) (hr1:Rd w (.slice a1 s.ents.length c1) 7 (s.ents.map cec)) (hr2:Rd w (.slice a2 s.ticks.length c2) 2 (s.ticks.map lsc)):Calls prog 33 #[.agg ((vc s.known)++[(.slice a1 s.ents.length c1:Value),(.slice a2 s.ticks.length c2:Value) ]).toArray,.int .u16 n] w (fun e w'=>∃ x:Option Addr × Nat,e = .returned (.agg [.int .u16 (QaM s n (Qaw s)).cart,.slice x.1 (QaM s n (Qaw s)).lines.length x.2,.bool (QaM s n (Qaw s)).out,.int .u32 (QaM s n (Qaw s)).tick].toArray)/\Own w no w' [row (.slice x.1 (QaM s n (Qaw s)).lines.length x.2) ((QaM s n (Qaw s)).lines.map lc) 127 2]/\True):=by
 refine Qah (n:=94) func33 rfl ntmps33 rfl ?_
 have Y:=Own.start w
 have ⟨hv0,hE0,hT0⟩:=hok
 refine Qae (Qab (Qaa (QaY (V:=.agg ((vc s.known)++[(.slice a1 s.ents.length c1:Value),(.slice a2 s.ticks.length c2:Value) ]).toArray) (cs:=(vc s.known)++[(.slice a1 s.ents.length c1:Value),(.slice a2 s.ticks.length c2:Value) ]) rfl rfl Y fun b1 w2 Y=>(Qaa (QaJ (cs:=[I7 0,.slice none 0 0,.bool false,.int .u32 0]) Qhe rfl Y fun b3 w4 Y=>(Qad (Qae (Qab (Qaa (Qaf (I7 n) (Qaa (QbI (vs:=[(0,I7 n)]) (cs:=[I7 n,.slice none 0 0,.bool false,.int .u32 0]) Qpp (rfl) rfl (Qaa (QaJ (cs:=[I7 0,.slice none 0 0,.bool false,.int .u32 0]) Qhe rfl Y fun b5 w6 Y=>(Qaa (Qcz (V:=.agg #[I7 n,.slice none 0 0,.bool false,.int .u32 0]) (vs:=[I7 n,.slice none 0 0,.bool false,.int .u32 0]) (cs':=[I7 n,.slice none 0 0,.bool false,.int .u32 0]) Qdc.1 Y 2 rfl rfl rfl rfl rfl (QQ8 rfl) (Qat rfl (Qat rfl (Qat rfl (Qat rfl Qa2)))) (Qaz rfl) fun w7 Y=>?_))))))))))))))))
 replace Y:=Ow [blk b1 ((vc s.known)++[(.slice a1 s.ents.length c1:Value),(.slice a2 s.ticks.length c2:Value) ]) 38,blk b3 [I7 0,.slice none 0 0,.bool false,.int .u32 0] 49,blk b5 [I7 n,.slice none 0 0,.bool false,.int .u32 0] 49] Y
 refine Qad (Qae (Qae (Qab (Qaa (QaK (cs:=(vc s.known)++[(.slice a1 s.ents.length c1:Value),(.slice a2 s.ticks.length c2:Value) ]) Qb4 Y 0 rfl rfl rfl (Qaa (Qas (vs:=[.agg ((vc s.known)++[(.slice a1 s.ents.length c1:Value),(.slice a2 s.ticks.length c2:Value) ]).toArray]) (V:=.bool (Qaw s)) Qqo rfl rfl ?hc Y fun w8 Y=>?_)))))))
 case hc=>exact (Qfb _ s a1 c1 a2 c2 hok (by omega) (by omega) (Rd.own' hr1 Y) (Rd.own' hr2 Y))
 refine Qaa (QbB rfl (Qad (Qak (t:=!(Qaw s)) rfl (fun c9=>?_) (fun c9=>?_))))
 ·
  replace c9:=QbE c9
  refine Qae (Qab (Qaa (QaK (cs:=[I7 n,.slice none 0 0,.bool false,.int .u32 0]) Qdc Y 2 rfl rfl rfl (Qaa (Qcz (V:=.agg #[I7 n,.slice none 0 0,.bool false,.int .u32 0]) (vs:=[I7 n,.slice none 0 0,.bool false,.int .u32 0]) (cs':=[I7 n,.slice none 0 0,.bool false,.int .u32 0]) Qdc.1 Y 1 rfl rfl rfl rfl rfl (QQ8 rfl) (Qat rfl (Qat rfl (Qat rfl (Qat rfl Qa2)))) (Qaz rfl) fun w10 Y=>(Qad (Qav ?_)))))))
  refine ⟨_,QcA (cs:=[I7 n,.slice none 0 0,.bool false,.int .u32 0]) results33 Qdc Y 1 rfl rfl rfl,?_⟩
  rw [c9]
  exact ⟨(none,0),rfl,(Y.take 0).more _ (Qbi _ _ 127 2),trivial⟩
 replace c9:=Qbd c9
 refine Qap (Qae (Qae ?_))
 have hrc:=Qc2.1 c9
 refine Qab (Qaa (QaK (cs:=(vc s.known)++[(.slice a1 s.ents.length c1:Value),(.slice a2 s.ticks.length c2:Value) ]) Qb4 Y 0 rfl rfl rfl (Qaa (Qaf (I7 n) (Qaa (Qas (vs:=[.agg ((vc s.known)++[(.slice a1 s.ents.length c1:Value),(.slice a2 s.ticks.length c2:Value) ]).toArray,I7 n]) (V:=.tuple #[I6 ((QbR s.ticks n:Nat):Int),.bool ((QaL s.ticks n).isSome)]) Qtb rfl rfl ?hc Y fun w11 Y=>?_))))))
 case hc=>exact (Qh4 _ s.known (.slice a1 s.ents.length c1) a2 c2 s.ticks n (by omega) hrc.rt (Rd.own' hr2 Y))
 refine Qaa (Qaf (.tuple #[I6 ((QbR s.ticks n:Nat):Int),.bool ((QaL s.ticks n).isSome)]) (Qaa (QaC (V:=I6 ((QbR s.ticks n:Nat):Int)) rfl rfl (Qaa (QaC (V:=.bool ((QaL s.ticks n).isSome)) rfl rfl (Qaa (Qam (I6 ((QbR s.ticks n:Nat):Int)) (Qaa (Qam (.bool ((QaL s.ticks n).isSome)) (Qad (Qae (Qab (Qaa (Qaf (.bool ((QaL s.ticks n).isSome)) (Qad (Qgi (fun J J' w'=>∃ (Jo:Env) (tk:Int),J'=mix (sq 25 7) Jo J/\(tk=(QaL s.ticks n).getD 0)/\Own w no w' [blk b1 ((vc s.known)++[(.slice a1 s.ents.length c1:Value),(.slice a2 s.ticks.length c2:Value) ]) 38,blk b3 [I7 0,.slice none 0 0,.bool false,.int .u32 0] 49,blk b5 [I7 n,.slice none 0 0,.bool false,.int .u32 tk] 49]) ?_ ?_))))))))))))))))
 ·
  refine Qak (t:=(QaL s.ticks n).isSome) rfl (fun c12=>?_) (fun c12=>?_)
  ·
   have hfa:=(Qiq hrc.rt c12).1
   refine Qab (Qaa (Qac Qc0 rfl (Qaa (QaN (.slice a2 s.ticks.length c2) Qf5 Y 0 (Qaa (Qaf (I6 ((QbR s.ticks n:Nat):Int)) (Qaa (Qax QeS QbS.1 (Rd.own' hr2 Y) rfl rfl (by omega) (by rw [QQ6];omega) (Qaa (Qac QeO rfl (Qaa (QaV (j:=1) (V:=.int .u32 ((gd s.ticks (QbR s.ticks n)).tick)) (QbR s.ticks n) QaU (Rd.own' hr2 Y) (Qa4 (by omega)) rfl rfl (by omega) (Qaa (Qac Qeu rfl (Qaa (Qcs (V:=.int .u32 ((gd s.ticks (QbR s.ticks n)).tick)) (cs':=[I7 n,.slice none 0 0,.bool false,.int .u32 ((gd s.ticks (QbR s.ticks n)).tick)]) QaU Y 2 rfl rfl rfl rfl (QQ8 rfl) rfl fun w13 Y=>(Qad ?_)))))))))))))))))
   exact ⟨_,(gd s.ticks (QbR s.ticks n)).tick,Qao (ds:=(sq 25 7)) (by repeat (first|exact Agr.refl _ _|refine Agr.upd ?_ rfl|refine Agr.mix ?_ rfl)),(by rw [(Qiq hrc.rt c12).2.2];rfl),Y.take 3⟩
  refine Qap ?_
  exact ⟨_,0,Qao (ds:=(sq 25 7)) (by repeat (first|exact Agr.refl _ _|refine Agr.upd ?_ rfl|refine Agr.mix ?_ rfl)),(Qtm c12),Y.take 3⟩
 rintro J' w14 ⟨Jo,tk,rfl,htk,Y⟩
 refine Qae (Qab (Qaa (Qam (.slice none 0 0) (Qad (Qae (Qae (Qab (Qaa (Qac Qdx rfl (Qaa (QaN (.slice a1 s.ents.length c1) QgK Y 0 (Qaa (Qa5 (n:=s.ents.length) QbK (Rd.own' hr1 Y) (by simp) rfl (Qaa (Qaf (I6 0) (Qad (Qal ?_)))))))))))))))))
 replace Y:=Y.more (row (.slice none 0 0) (List.map cec []) 106 7) (Qbi _ _ _ _)
 refine QaE (fun J μ J' w'=>∃ (Jo:Env) (k:Nat) (an9:Option Addr) (cn9:Nat) (L9:List Cen) (ou:Bool),J'=upd (upd (mix ([8,10]++sq 35 19) Jo J) 35 (I6 (k:Int))) 8 (.slice an9 L9.length cn9)/\(k<=s.ents.length)/\(L9=(s.ents.take k).filter (fun e:Cen=>decide (e.cart=n)&&!decide (e.kind=4)))/\(ou=(s.ents.take k).any (fun e:Cen=>decide (e.cart=n)&&decide (e.kind=4)))/\(L9.length<=k)/\μ=s.ents.length-k/\Own w no w' [blk b1 ((vc s.known)++[(.slice a1 s.ents.length c1:Value),(.slice a2 s.ticks.length c2:Value) ]) 38,blk b3 [I7 0,.slice none 0 0,.bool false,.int .u32 0] 49,blk b5 [I7 n,.slice none 0 0,.bool ou,.int .u32 tk] 49,row (.slice an9 L9.length cn9) (L9.map cec) 106 7]) ?_ ?_
 ·exact ⟨_,_,0,none,0,[],false,Qai (Qai (Qao (ds:=([8,10]++sq 35 19)) (Agr.refl _ _)) rfl) rfl,(by omega),rfl,rfl,(Nat.le_refl _),rfl,Y⟩
 rintro μ J' w15 ⟨Jo,k,an9,cn9,L9,ou,rfl,hk,hL9,hob,hl9,rfl,Y⟩
 refine Qae (Qab (Qaa (Qa0 rfl rfl (Qad (Qae (Qak (t:=decide ((k:Int)<((s.ents.length:Nat):Int))) rfl (fun c16=>?_) (fun c16=>?_)))))))
 ·
  replace c16:=QQ1 c16
  refine Qap (Qae (Qal (Qae (Qab (Qaa (Qax QbK QaF.1 (Rd.own' hr1 Y) rfl rfl (by omega) (by rw [QQ6];omega) (Qaa (Qa9 (j:=0) (vs:=cec (gd s.ents k)) k QaF (Rd.own' hr1 Y) (Qa4 (by omega)) rfl rfl rfl (by omega) (Qaa (QaJ (cs:=cec (⟨0,0,0,0,(⟨0,0⟩:Dot),0⟩:Cen)) Qgb rfl Y fun b17 w18 Y=>(Qaa (Qcz (V:=.agg (cec (gd s.ents k)).toArray) (vs:=cec (gd s.ents k)) (cs':=cec (gd s.ents k)) QaF.1 Y 4 rfl rfl rfl rfl rfl (QQ8 rfl) (Qby _) (Qaz rfl) fun w19 Y=>(Qad (Qal (Qae (Qab (Qaa (Qac QdE rfl (Qaa (QaN (I7 ((gd s.ents k).cart)) Qar Y 4 (Qaa (Qaf (I7 n) (Qaa (Qck rfl rfl (Qaa (Qam (.bool (!decide ((gd s.ents k).cart=n))) (Qad (Qak (t:=!decide ((gd s.ents k).cart=n)) rfl (fun c20=>?_) (fun c20=>?_)))))))))))))))))))))))))))))
  ·
   replace c20:=QbE c20
   replace c20:=QQ2 c20
   refine Qap (Qab (Qaa (QaB (a:=(k:Int)) (b:=1) (c:=((k+1:Nat):Int)) rfl rfl (Qaj (by omega) (by omega)) (Qaa (Qaf (I6 ((k+1:Nat):Int)) (Qad ?_))))))
   refine ⟨_,?_,_,k+1,an9,cn9,L9,ou,Qai (Qai (Qao (ds:=([8,10]++sq 35 19)) (by repeat (first|exact Agr.refl _ _|refine Agr.upd ?_ rfl|refine Agr.mix ?_ rfl))) rfl) rfl,(by omega),(Qgf (p:=(fun e:Cen=>decide (e.cart=n)&&!decide (e.kind=4))) hL9 (by omega) (by simp [c20])),(by rw [← Qey (p:=(fun e:Cen=>decide (e.cart=n)&&decide (e.kind=4))) hob (by omega)];simp [c20]),(by omega),rfl,Y.take 4⟩
   omega
  replace c20:=Qbd c20
  replace c20:=QQ1 c20
  refine Qae (Qab (Qaa (Qac QeR rfl (Qaa (QaN (.int .u8 ((gd s.ents k).kind)) QcI Y 4 (Qaa (QaT rfl rfl (Qaa (Qam (.bool (decide ((gd s.ents k).kind=4))) (Qad (Qak (t:=decide ((gd s.ents k).kind=4)) rfl (fun c21=>?_) (fun c21=>?_))))))))))))
  ·
   replace c21:=QQ1 c21
   refine Qab (Qaa (Qac Qdv rfl (Qaa (Qcs (V:=.bool true) (cs':=[I7 n,.slice none 0 0,.bool true,.int .u32 tk]) QlF Y 2 rfl rfl rfl rfl (QQ8 rfl) rfl fun w22 Y=>(Qad (Qab (Qaa (QaB (a:=(k:Int)) (b:=1) (c:=((k+1:Nat):Int)) rfl rfl (Qaj (by omega) (by omega)) (Qaa (Qaf (I6 ((k+1:Nat):Int)) (Qad ?_)))))))))))
   refine ⟨_,?_,_,k+1,an9,cn9,L9,true,Qai (Qai (Qao (ds:=([8,10]++sq 35 19)) (by repeat (first|exact Agr.refl _ _|refine Agr.upd ?_ rfl|refine Agr.mix ?_ rfl))) rfl) rfl,(by omega),(Qgf (p:=(fun e:Cen=>decide (e.cart=n)&&!decide (e.kind=4))) hL9 (by omega) (by simp [c20,c21])),(by rw [← Qey (p:=(fun e:Cen=>decide (e.cart=n)&&decide (e.kind=4))) hob (by omega)];simp [c20,c21]),(by omega),rfl,Y.take 4⟩
   omega
  replace c21:=QQ2 c21
  refine Qab (Qaa (Qaf (.slice an9 L9.length cn9) (Qaa (QaK (cs:=cec (gd s.ents k)) QaF Y 4 rfl rfl rfl (Qaa (Qho (vals:=[.agg (cec (gd s.ents k)).toArray]) (ls:=List.map cec ([gd s.ents k]:List Cen)) QfD rfl rfl rfl (Qbn (enc:=cec) (fun _=>rfl) _) (QaW Qby _) (QQ8 rfl) Y fun b23 w24 Y=>(Qaa (Qdj (ls':=(L9++[gd s.ents k]).map cec) (n:=(L9++[gd s.ents k]).length) QfD Y 3 rfl rfl rfl (Y.rd 5 rfl) (QaW Qby _) (by simp only [QQ6,QQ7,List.length_cons,List.length_nil];omega) (by simp) (by simp) fun a25 c25 w26 Y=>?_))))))))
  replace Y:=Ow [blk b1 ((vc s.known)++[(.slice a1 s.ents.length c1:Value),(.slice a2 s.ticks.length c2:Value) ]) 38,blk b3 [I7 0,.slice none 0 0,.bool false,.int .u32 0] 49,blk b5 [I7 n,.slice none 0 0,.bool ou,.int .u32 tk] 49,row (.slice a25 ((L9++[gd s.ents k]).length) c25) ((L9++[gd s.ents k]).map cec) 106 7,blk b17 (cec (gd s.ents k)) 106,row (.slice (some ⟨b23,0,none⟩) 1 1) ([gd s.ents k].map cec) 106 7] Y
  refine Qaa (Qam (.slice a25 ((L9++[gd s.ents k]).length) c25) (Qad (Qab (Qaa (QaB (a:=(k:Int)) (b:=1) (c:=((k+1:Nat):Int)) rfl rfl (Qaj (by omega) (by omega)) (Qaa (Qaf (I6 ((k+1:Nat):Int)) (Qad ?_))))))))
  refine ⟨_,?_,_,k+1,a25,c25,L9++[gd s.ents k],ou,Qai (Qai (Qao (ds:=([8,10]++sq 35 19)) (by repeat (first|exact Agr.refl _ _|refine Agr.upd ?_ rfl|refine Agr.mix ?_ rfl))) rfl) rfl,(by omega),(Qh1 (p:=(fun e:Cen=>decide (e.cart=n)&&!decide (e.kind=4))) hL9 (by omega) (by simp [c20,c21])),(by rw [← Qey (p:=(fun e:Cen=>decide (e.cart=n)&&decide (e.kind=4))) hob (by omega)];simp [c20,c21]),(by rw [QQ7,List.length_singleton];omega),rfl,Y.take 4⟩
  omega
 replace c16:=QQ2 c16
 refine QaI (Qae (Qab (Qaa (Qaf (.slice an9 L9.length cn9) (Qaa (QbF (α:=List Cen) (vs:=[.slice an9 L9.length cn9,.func (.func 76) #[] #[]]) (V:=fun _=>.tuple #[]) (R:=row (.slice an9 L9.length cn9) (L9.map cec) 106 7) (R':=fun x=>row (.slice an9 L9.length cn9) (x.map cec) 106 7) (Lo:=fun _=>[]) (F:=fun x _=>x.length=L9.length/\x.Perm L9/\Qmp (fun x y:Cen=>QaR x.item y.item) x) Qw3 rfl rfl Y 3 rfl (fun S hS hlt=>QuV _ S an9 L9.length cn9 L9 rfl (by omega) 76 Qxk (fun x y:Cen=>QaR x.item y.item) (Qrb (fun x:Cen=>x.item)) (fun w x y=>Qpy w x y) hS hlt) fun sx28 w27 Y hF29=>(Qad (Qae (Qal ?_)))))))))
 replace Y:=Y.more (row (.slice none 0 0) (List.map lc []) 127 2) (Qbi _ _ _ _)
 obtain ⟨hQl,hQp,hQs⟩:=hF29
 have hLE:L9=QjD s n:=by rw [hL9,QcC (by omega)];rfl
 rw [hLE] at hQp
 have hobE:=hob
 rw [QcC (by omega)] at hobE
 have hQok:∀ e∈sx28,Qj2 e/\1<=e.count:=fun e he=>by
  have hq:=Qqj hrc (hQp.mem_iff.1 he)
  exact ⟨hE0 e hq.1,hq.2⟩
 refine QaE (fun J μ J' w'=>∃ (Jo:Env) (R:List Cen) (I:List Int) (an3:Option Addr) (cn3:Nat) (an6:Option Addr) (cn6:Nat) (ol:List Line),J'=upd (mix ([8,11]++sq 56 37) Jo J) 8 (.slice an3 R.length cn3)/\(Grps sx28 R I)/\(ol=I.map (QiV s n))/\(ol.length+R.length<=sx28.length)/\(∀ w':World,Rd w' (.slice an9 L9.length cn9) 7 (sx28.map cec)->Rd w' (.slice an3 R.length cn3) 7 (R.map cec))/\μ=R.length+0/\Own w no w' [blk b1 ((vc s.known)++[(.slice a1 s.ents.length c1:Value),(.slice a2 s.ticks.length c2:Value) ]) 38,blk b3 [I7 0,.slice none 0 0,.bool false,.int .u32 0] 49,blk b5 [I7 n,.slice an6 ol.length cn6,.bool ou,.int .u32 tk] 49,row (.slice an9 L9.length cn9) (sx28.map cec) 106 7,row (.slice an6 ol.length cn6) (ol.map lc) 127 2]) ?_ ?_
 ·exact ⟨_,_,sx28,[],an9,cn9,none,0,[],Qai (Qao (ds:=([8,11]++sq 56 37)) (Agr.refl _ _)) (congrArg (fun n=>Value.slice an9 n cn9) hQl.symm),(Ql4 _),rfl,(by simp),(fun w' h=>by rw [hQl];exact h),rfl,Y⟩
 rintro μ J' w30 ⟨Jo,R,I,an3,cn3,an6,cn6,ol,rfl,hgr,hol,hll,hvia,rfl,Y⟩
 refine Qae (Qae (Qab (Qaa (Qaf (.slice an3 R.length cn3) (Qaa (Qa5 (n:=R.length) QbK (hvia _ (Y.rd 3 rfl)) (by simp) rfl (Qaa (Qca rfl rfl (Qad (Qak (t:=decide (0<((R.length:Nat):Int))) rfl (fun c31=>?_) (fun c31=>?_)))))))))))
 ·
  replace c31:=QQ1 c31
  refine Qap (Qal (Qae (Qab (Qaa (Qam (I6 1) (Qad (Qae (Qal (QaE (fun J μ J' w'=>∃ (Jo:Env) (j:Nat),J'=upd (mix ([11]++sq 59 18) Jo J) 11 (I6 (j:Int))/\(1<=j)/\(j<=R.length)/\(∀ i,i<j->(gd R i).item=(gd R 0).item)/\μ=R.length-j/\Own w no w' [blk b1 ((vc s.known)++[(.slice a1 s.ents.length c1:Value),(.slice a2 s.ticks.length c2:Value) ]) 38,blk b3 [I7 0,.slice none 0 0,.bool false,.int .u32 0] 49,blk b5 [I7 n,.slice an6 ol.length cn6,.bool ou,.int .u32 tk] 49,row (.slice an9 L9.length cn9) (sx28.map cec) 106 7,row (.slice an6 ol.length cn6) (ol.map lc) 127 2]) ?_ ?_)))))))))
  ·exact ⟨_,_,1,Qai (Qao (ds:=([11]++sq 59 18)) (Agr.refl _ _)) rfl,(Nat.le_refl _),(by omega),(fun i hi=>by rw [show i=0 by omega]),rfl,Y⟩
  rintro μ J' w32 ⟨Jo,j,rfl,hj1,hj2,hji,rfl,Y⟩
  refine Qae (Qae (QaH HM (so 59 16) [] [0,0,2,7,15,31,31,127,255,511,31,1055,3103,7199,16383,32767] [pv (I6 (j:Int)),pv (.slice an3 R.length cn3),pv (I6 ((R.length:Nat):Int)),pv (.bool (decide ((j:Int)<((R.length:Nat):Int)))),pv (.bool (decide ((j:Int)<((R.length:Nat):Int)))),pg ((decide ((j:Int)<((R.length:Nat):Int))) == true) (.slice an3 R.length cn3),pg ((decide ((j:Int)<((R.length:Nat):Int))) == true) (I6 (j:Int)),pg ((decide ((j:Int)<((R.length:Nat):Int))) == true) (.pointer (some ⟨bkS (.slice an3 R.length cn3),ofS (.slice an3 R.length cn3)+(j:Int).toNat*7,none⟩)),pg ((decide ((j:Int)<((R.length:Nat):Int))) == true) (.pointer (some ⟨bkS (.slice an3 R.length cn3),ofS (.slice an3 R.length cn3)+(j:Int).toNat*7+1,none⟩)),pg ((decide ((j:Int)<((R.length:Nat):Int))) == true) (I7 ((gd R j).item)),pg ((decide ((j:Int)<((R.length:Nat):Int))) == true) (.slice an3 R.length cn3),pg ((decide ((j:Int)<((R.length:Nat):Int))) == true) (.pointer (some ⟨bkS (.slice an3 R.length cn3),ofS (.slice an3 R.length cn3)+(0:Int).toNat*7,none⟩)),pg ((decide ((j:Int)<((R.length:Nat):Int))) == true) (.pointer (some ⟨bkS (.slice an3 R.length cn3),ofS (.slice an3 R.length cn3)+(0:Int).toNat*7+1,none⟩)),pg ((decide ((j:Int)<((R.length:Nat):Int))) == true) (I7 ((gd R 0).item)),pg ((decide ((j:Int)<((R.length:Nat):Int))) == true) (.bool (decide ((gd R j).item=(gd R 0).item))),pv (.bool ((decide ((j:Int)<((R.length:Nat):Int)))&&(decide ((gd R j).item=(gd R 0).item))))] (fun _ _=>_) [15] (by kernel_rfl) Y ⟨?_,?_,?_,?_,?_,?_,?_,?_,?_,?_,?_,?_,?_,?_,?_,?_,trivial⟩ ?_))
  ·exact oi [] fun Y=>Qaf (.int .i64 (j:Int)) (Zz Y)
  ·exact oi [] fun Y=>Qaf (.slice an3 R.length cn3) (Zz Y)
  ·exact oi [1] fun Y=>Qa5 (n:=R.length) QbK (hvia _ (Y.rd 3 rfl)) (by simp) rfl (Zz Y)
  ·exact oi [0,2] fun Y=>Qa0 rfl rfl (Zz Y)
  ·exact oi [3] fun Y=>Qaf (.bool (decide ((j:Int)<((R.length:Nat):Int)))) (Zz Y)
  ·exact ogi [4] fun hG Y=>Qaf (.slice an3 R.length cn3) (Zz Y)
  ·exact ogi [4] fun hG Y=>Qaf (.int .i64 (j:Int)) (Zz Y)
  ·refine oyi [4,5,6] [5,6] fun hG Y=>?_
   have hgd:=QQ1 (eq_of_beq (hG))
   exact Qax QbK QaF.1 (hvia _ (Y.rd 3 rfl)) rfl rfl (by omega) (by rw [QQ6];omega) (Zz Y)
  ·exact oyi [4,7] [7] fun hG Y=>Qac QdJ rfl (Zz Y)
  ·refine oyi [4,8] [8] fun hG Y=>?_
   have hgd:=QQ1 (eq_of_beq (hG))
   exact QaV (j:=1) (V:=.int .u16 ((gd R j).item)) j Qar (hvia _ (Y.rd 3 rfl)) (Qa4 (by omega)) rfl rfl (by omega) (Zz Y)
  ·exact ogi [4] fun hG Y=>Qaf (.slice an3 R.length cn3) (Zz Y)
  ·refine oyi [4,10] [10] fun hG Y=>?_
   have hgd:=QQ1 (eq_of_beq (hG))
   exact Qax QbK QaF.1 (hvia _ (Y.rd 3 rfl)) rfl rfl (by decide) (by rw [QQ6];omega) (Zz Y)
  ·exact oyi [4,11] [11] fun hG Y=>Qac QdJ rfl (Zz Y)
  ·refine oyi [4,12] [12] fun hG Y=>?_
   have hgd:=QQ1 (eq_of_beq (hG))
   exact QaV (j:=1) (V:=.int .u16 ((gd R 0).item)) 0 Qar (hvia _ (Y.rd 3 rfl)) (Qa4 (by omega)) rfl rfl (by omega) (Zz Y)
  ·exact oyi [4,9,13] [9,13] fun hG Y=>QaT rfl rfl (Zz Y)
  ·exact oi [4,14] fun Y=>Qbg (h':=decide ((gd R j).item=(gd R 0).item)) rfl rfl rfl (Zz Y)
  rintro J1 w33 J2 hJ Y
  replace hJ:J2=upd (mix (sq 59 16) J1 _) 74 (.bool ((decide ((j:Int)<((R.length:Nat):Int)))&&(decide ((gd R j).item=(gd R 0).item)))):=hJ
  subst hJ
  refine Qak (t:=(decide ((j:Int)<((R.length:Nat):Int)))&&(decide ((gd R j).item=(gd R 0).item))) rfl (fun c34=>?_) (fun c34=>?_)
  ·
   have c34r:=Qcl c34
   replace c34:=QbZ c34
   replace c34:=QQ1 c34
   replace c34r:=QQ1 c34r
   refine Qap (Qal (Qab (Qaa (Qaf (I6 (j:Int)) (Qaa (QaB (a:=(j:Int)) (b:=1) (c:=((j+1:Nat):Int)) rfl rfl (Qaj (by omega) (by omega)) (Qaa (Qam (I6 ((j+1:Nat):Int)) (Qad ?_)))))))))
   refine ⟨_,?_,_,j+1,Qai (Qao (ds:=([11]++sq 59 18)) (by repeat (first|exact Agr.refl _ _|refine Agr.upd ?_ rfl|refine Agr.mix ?_ rfl))) rfl,(by omega),(by omega),(fun i hi=>by
 rcases Nat.lt_or_eq_of_le (Nat.le_of_lt_succ hi) with q|q
 ·exact hji i q
 ·subst q;exact c34r),rfl,Y.take 5⟩
   omega
  refine QaI (Qae ?_)
  have hga:=Qts hrc hQp hgr hQs hj1 hj2 hji (by
          have ht:=c34
          rcases Nat.lt_or_ge j R.length with q|q
          ·right;intro h;simp [q,h] at ht
          ·left;omega)
  have hGok:∀ e∈R.take j,Qj2 e/\1<=e.count:=fun e he=>hQok e (Qrg hgr e (List.mem_of_mem_take he))
  replace Y:=Y.more emp trivial
  refine QaH HM (so 77 13++[none]) [[],[],[],[],[],[],[],[],[],[],[87],[88]] [0,1,0,4,12,28,0,0,192,508,1020,2047,4095,8191] [pv (Pq b5 (0+1)),pv (.slice an6 ol.length cn6),pv (.slice an3 R.length cn3),pv (.pointer (some ⟨bkS (.slice an3 R.length cn3),ofS (.slice an3 R.length cn3)+(0:Int).toNat*7,none⟩)),pv (.pointer (some ⟨bkS (.slice an3 R.length cn3),ofS (.slice an3 R.length cn3)+(0:Int).toNat*7+1,none⟩)),pv (I7 ((gd R 0).item)),pv (.slice an3 R.length cn3),pv (I6 (j:Int)),pv (.slice (sla an3 0 cn3 7) ((R.take j).length) (cn3-0)),pv (.agg (lc (⟨(gd R 0).item,Qeg (R.take j)⟩:Line)).toArray),(true,fun J=>.slice (some ⟨(bOf (J 87)),0,none⟩) 1 1),(true,fun J=>.slice (aOf (J 88)) ((ol++[(⟨(gd R 0).item,Qeg (R.take j)⟩:Line)]).length) (cOf (J 88))),pv (Pq b5 (0+1)),pn] (fun D J=>[blk b1 ((vc s.known)++[(.slice a1 s.ents.length c1:Value),(.slice a2 s.ticks.length c2:Value) ]) 38,blk b3 [I7 0,.slice none 0 0,.bool false,.int .u32 0] 49,cond (D 13) (blk b5 [I7 n,.slice (aOf (J 88)) ((ol++[(⟨(gd R 0).item,Qeg (R.take j)⟩:Line)]).length) (cOf (J 88)),.bool ou,.int .u32 tk] 49) (blk b5 [I7 n,.slice an6 ol.length cn6,.bool ou,.int .u32 tk] 49),row (.slice an9 L9.length cn9) (sx28.map cec) 106 7,cond (D 11) (row (.slice (aOf (J 88)) ((ol++[(⟨(gd R 0).item,Qeg (R.take j)⟩:Line)]).length) (cOf (J 88))) ((ol++[(⟨(gd R 0).item,Qeg (R.take j)⟩:Line)]).map lc) 127 2) (row (.slice an6 ol.length cn6) (ol.map lc) 127 2),cond (D 10) (row (.slice (some ⟨(bOf (J 87)),0,none⟩) 1 1) ([(⟨(gd R 0).item,Qeg (R.take j)⟩:Line)].map lc) 127 2) (emp)]) [] (by kernel_rfl) Y ⟨?_,?_,?_,?_,?_,?_,?_,?_,?_,?_,?_,?_,?_,?_,trivial⟩ ?_
  ·exact oi [] fun Y=>Qac QcR rfl (Zz Y)
  ·exact ob [0] [13] rfl rfl fun D J w Y=>QaN (.slice an6 ol.length cn6) Qfl Y 2 (Zz Y)
  ·exact oi [] fun Y=>Qaf (.slice an3 R.length cn3) (Zz Y)
  ·exact oi [2] fun Y=>Qax QbK QaF.1 (hvia _ (Y.rd 3 rfl)) rfl rfl (by decide) (by rw [QQ6];omega) (Zz Y)
  ·exact oi [3] fun Y=>Qac QdJ rfl (Zz Y)
  ·exact oi [4] fun Y=>QaV (j:=1) (V:=.int .u16 ((gd R 0).item)) 0 Qar (hvia _ (Y.rd 3 rfl)) (Qa4 (by omega)) rfl rfl (by omega) (Zz Y)
  ·exact oi [] fun Y=>Qaf (.slice an3 R.length cn3) (Zz Y)
  ·exact oi [] fun Y=>Qaf (.int .i64 (j:Int)) (Zz Y)
  ·exact oi [6,7] fun Y=>QlO (l:=0) (h:=j) (m:=cn3) (n':=(R.take j).length) Qdi QaF.1 (hvia _ (Y.rd 3 rfl)) rfl (.inl ⟨rfl,rfl⟩) (.inr ⟨_,_,rfl,rfl⟩) (.inl ⟨rfl,rfl⟩) (by omega) (by omega) (Nat.le_trans (show j<=R.length by omega) (Rd.roomM (hvia _ (Y.rd 3 rfl)))) (Nat.le_refl _) (by simp only [List.length_take,List.length_drop]<;>omega) (Zz Y)
  ·exact oi [5,8] fun Y=>Qas (vs:=[.int .u16 ((gd R 0).item),.slice (sla an3 0 cn3 7) ((R.take j).length) (cn3-0)]) (V:=.agg (lc (⟨(gd R 0).item,Qeg (R.take j)⟩:Line)).toArray) Qxw rfl rfl (QsI _ ((gd R 0).item) (sla an3 0 cn3 7) (cn3-0) (R.take j) hGok (Rd.subM (hvia _ (Y.rd 3 rfl)) 0 j cn3 (by omega) (by omega) (Nat.le_trans (show j<=R.length by omega) (Rd.roomM (hvia _ (Y.rd 3 rfl)))) (Nat.le_refl _) _ (by simp only [List.length_take,List.length_drop]<;>omega))) Y fun _ Y=>Zz Y
  ·exact oi [9] fun Y=>Qho (vals:=[.agg (lc (⟨(gd R 0).item,Qeg (R.take j)⟩:Line)).toArray]) (ls:=List.map lc ([(⟨(gd R 0).item,Qeg (R.take j)⟩:Line)]:List Line)) QlL rfl rfl rfl (Qbn (enc:=lc) (fun _=>rfl) _) (QaW QgQ _) (QQ8 rfl) Y fun _ _ Y=>⟨rfl,Y.put 5 (QQ8 rfl)⟩
  ·exact ob [1,10] [13] rfl rfl fun D J w Y=>Qdj (ls':=(ol++[(⟨(gd R 0).item,Qeg (R.take j)⟩:Line)]).map lc) (n:=(ol++[(⟨(gd R 0).item,Qeg (R.take j)⟩:Line)]).length) QlL Y 4 rfl rfl rfl (Y.rd 5 rfl) (QaW QgQ _) (by simp only [QQ6,QQ7,List.length_cons,List.length_nil];omega) (by simp) (by simp) fun _ _ _ Y=>⟨rfl,Y⟩
  ·exact oi [] fun Y=>Qac QcR rfl (Zz Y)
  ·exact oa [11,12] fun D J w Y=>Qcs (V:=.slice (aOf (J 88)) ((ol++[(⟨(gd R 0).item,Qeg (R.take j)⟩:Line)]).length) (cOf (J 88))) (cs':=[.int .u16 n,.slice (aOf (J 88)) ((ol++[(⟨(gd R 0).item,Qeg (R.take j)⟩:Line)]).length) (cOf (J 88)),.bool ou,.int .u32 tk]) Qfl Y 2 rfl rfl rfl rfl (QQ8 rfl) rfl fun _ Y=>⟨trivial,Y⟩
  rintro J1 w39 J2 hJ Y
  replace hJ:J2=mix (sq 77 13) J1 _:=hJ
  replace Y:Own w no w39 [blk b1 ((vc s.known)++[(.slice a1 s.ents.length c1:Value),(.slice a2 s.ticks.length c2:Value) ]) 38,blk b3 [I7 0,.slice none 0 0,.bool false,.int .u32 0] 49,blk b5 [I7 n,.slice (aOf (J1 88)) ((ol++[(⟨(gd R 0).item,Qeg (R.take j)⟩:Line)]).length) (cOf (J1 88)),.bool ou,.int .u32 tk] 49,row (.slice an9 L9.length cn9) (sx28.map cec) 106 7,row (.slice (aOf (J1 88)) ((ol++[(⟨(gd R 0).item,Qeg (R.take j)⟩:Line)]).length) (cOf (J1 88))) ((ol++[(⟨(gd R 0).item,Qeg (R.take j)⟩:Line)]).map lc) 127 2,row (.slice (some ⟨(bOf (J1 87)),0,none⟩) 1 1) ([(⟨(gd R 0).item,Qeg (R.take j)⟩:Line)].map lc) 127 2]:=Y
  generalize (bOf (J1 87))=b40 at Y
  generalize (aOf (J1 88))=a41 at Y
  generalize (cOf (J1 88))=c42 at Y
  subst hJ
  refine Qab (Qaa (Qaf (.slice an3 R.length cn3) (Qaa (Qaf (I6 (j:Int)) (Qaa (QlO (l:=j) (h:=R.length) (m:=cn3) (n':=(R.drop j).length) Qdi QaF.1 (hvia _ (Y.rd 3 rfl)) rfl (.inr ⟨_,_,rfl,rfl⟩) (.inl ⟨rfl,rfl⟩) (.inl ⟨rfl,rfl⟩) (by omega) (by omega) (Nat.le_trans (show R.length<=R.length by omega) (Rd.roomM (hvia _ (Y.rd 3 rfl)))) (Nat.le_refl _) (by simp only [List.length_take,List.length_drop]<;>omega) ?_))))))
  refine Qaa (Qam (.slice (sla an3 j cn3 7) ((R.drop j).length) (cn3-j)) (Qad ?_))
  refine ⟨_,?_,_,R.drop j,I++[(gd R 0).item],(sla an3 j cn3 7),cn3-j,a41,c42,ol++[(⟨(gd R 0).item,Qeg (R.take j)⟩:Line)],Qai (Qao (ds:=([8,11]++sq 56 37)) (by repeat (first|exact Agr.refl _ _|refine Agr.upd ?_ rfl|refine Agr.mix ?_ rfl))) rfl,hga.1,(Qnt hol hga.2),(by simp only [QQ7,List.length_singleton,List.length_drop];omega),(fun w' h=>Rd.dropM (hvia w' h) j (by omega) _ (by rw [List.length_drop])),rfl,Y.take 5⟩
  (rw [List.length_drop];omega)
 replace c31:=QQ2 c31
 refine QaI (Qae (Qab (Qaa (QaK (cs:=[I7 n,.slice an6 ol.length cn6,.bool ou,.int .u32 tk]) Qdc Y 2 rfl rfl rfl (Qaa (Qcz (V:=.agg #[I7 n,.slice an6 ol.length cn6,.bool ou,.int .u32 tk]) (vs:=[I7 n,.slice an6 ol.length cn6,.bool ou,.int .u32 tk]) (cs':=[I7 n,.slice an6 ol.length cn6,.bool ou,.int .u32 tk]) Qdc.1 Y 1 rfl rfl rfl rfl rfl (QQ8 rfl) (Qat rfl (Qat rfl (Qat rfl (Qat rfl Qa2)))) (Qaz rfl) fun w43 Y=>(Qad (Qav ?_))))))))
 refine ⟨_,QcA (cs:=[I7 n,.slice an6 ol.length cn6,.bool ou,.int .u32 tk]) results33 Qdc Y 1 rfl rfl rfl,?_⟩
 have hV:=QsT c9 htk hobE hQp hgr (by omega) hol
 rw [hV]
 exact ⟨(an6,cn6),rfl,Y.only 4 rfl,trivial⟩
end Tt
end Go.Proofs
namespace Go.Proofs
open Go Go.Vx Go.RowKit
open Tryz
namespace Tt
theorem Qfx (w:World) (s:Sta) (a1:Option Addr) (c1:Nat) (a2:Option Addr) (c2:Nat) (n:Int) (V:Vw) (hV:QaM s n (Qaw s)=V) (hok:QdV s) (hle:s.ents.length<=1000) (hlt:s.ticks.length<=1000) (hr1:Rd w (.slice a1 s.ents.length c1) 7 (s.ents.map cec)) (hr2:Rd w (.slice a2 s.ticks.length c2) 2 (s.ticks.map lsc)):Calls prog 33 #[.agg ((vc s.known)++[(.slice a1 s.ents.length c1:Value),(.slice a2 s.ticks.length c2:Value) ]).toArray,.int .u16 n] w (fun e w'=>∃ x:Option Addr × Nat,e = .returned (.agg [.int .u16 (V).cart,.slice x.1 (V).lines.length x.2,.bool (V).out,.int .u32 (V).tick].toArray)/\Own w no w' [row (.slice x.1 (V).lines.length x.2) ((V).lines.map lc) 127 2]/\True):=by
 subst hV;exact Qqe w s a1 c1 a2 c2 n hok hle hlt hr1 hr2
end Tt
end Go.Proofs
namespace Go.Proofs
open Go Go.Vx Go.RowKit
open Tryz
namespace Tt
theorem Qil (w:World) (p:Pst) (a1:Option Addr) (c1:Nat) (a2:Option Addr) (c2:Nat) (a3:Option Addr) (c3:Nat) (cut:Vec) (hcut:QbH cut) (n:Int) (hsortE:Qhn prog 48 49 cec 106 7 Qlk) (hsortU:Qg2 prog 134 .u16 32) (hok:Qee p) (hle:p.base.ents.length<=400) (hlt:p.base.ticks.length<=400) (hlo:p.ops.length<=400) (hr1:Rd w (.slice a1 p.base.ents.length c1) 7 (p.base.ents.map cec)) (hr2:Rd w (.slice a2 p.base.ticks.length c2) 2 (p.base.ticks.map lsc)) (hr3:Rd w (.slice a3 p.ops.length c3) 23 (p.ops.map oc)):Calls prog 15 #[.agg (((vc p.base.known)++[(.slice a1 p.base.ents.length c1:Value),(.slice a2 p.base.ticks.length c2:Value) ])++[(.slice a3 p.ops.length c3:Value) ]++(vc p.known)).toArray,.agg (vc cut).toArray,.int .u16 n] w (fun e w'=>∃ x:Option Addr × Nat,e = .returned (.tuple #[.agg [.int .u16 (QaA p cut n).cart,.slice x.1 (QaA p cut n).lines.length x.2,.bool (QaA p cut n).out,.int .u32 (QaA p cut n).tick].toArray,.int .i64 (Qbu p cut)])/\Own w no w' [row (.slice x.1 (QaA p cut n).lines.length x.2) ((QaA p cut n).lines.map lc) 127 2]/\True):=by
 refine Qah (n:=23) func15 rfl ntmps15 rfl ?_
 have Y:=Own.start w
 have ⟨hokb,hoko,hokk⟩:=hok
 have hsl:=Qd5 p cut
 have hso:=QfE (cut:=cut) hok hcut
 refine Qae (Qab (Qaa (QaY (V:=.agg (((vc p.base.known)++[(.slice a1 p.base.ents.length c1:Value),(.slice a2 p.base.ticks.length c2:Value) ])++[(.slice a3 p.ops.length c3:Value) ]++(vc p.known)).toArray) (cs:=((vc p.base.known)++[(.slice a1 p.base.ents.length c1:Value),(.slice a2 p.base.ticks.length c2:Value) ])++[(.slice a3 p.ops.length c3:Value) ]++(vc p.known)) rfl rfl Y fun b1 w2 Y=>(Qaa (QaY (V:=.agg (vc cut).toArray) (cs:=vc cut) rfl rfl Y fun b3 w4 Y=>(Qaa (QaJ (cs:=[I7 0,.slice none 0 0,.bool false,.int .u32 0]) Qhe rfl Y fun b5 w6 Y=>(Qaa (Qam (I6 0) (Qad (Qae (Qab (Qaa (QaK (cs:=((vc p.base.known)++[(.slice a1 p.base.ents.length c1:Value),(.slice a2 p.base.ticks.length c2:Value) ])++[(.slice a3 p.ops.length c3:Value) ]++(vc p.known)) QdB Y 0 rfl rfl rfl (Qaa (QaK (cs:=vc cut) QbC Y 1 rfl rfl rfl (Qaa (Qbr (α:=(Option Addr × Nat) × (Option Addr × Nat)) (vs:=[.agg (((vc p.base.known)++[(.slice a1 p.base.ents.length c1:Value),(.slice a2 p.base.ticks.length c2:Value) ])++[(.slice a3 p.ops.length c3:Value) ]++(vc p.known)).toArray,.agg (vc cut).toArray]) (V:=fun x:(Option Addr × Nat) × (Option Addr × Nat)=>.tuple #[.agg (vc (Qag p cut).known++[(.slice x.1.1 ((Qag p cut).ents).length x.1.2:Value),(.slice x.2.1 ((Qag p cut).ticks).length x.2.2:Value)]).toArray,I6 (Qbu p cut)]) (Lo:=fun x=>[row (.slice x.1.1 ((Qag p cut).ents).length x.1.2) (((Qag p cut).ents).map cec) 106 7,row (.slice x.2.1 ((Qag p cut).ticks).length x.2.2) (((Qag p cut).ticks).map lsc) 102 2]) (F:=fun _ _=>True) Qnr rfl rfl ?hc Y fun x8 w7 Y _=>?_))))))))))))))))))
 case hc=>exact (Qek _ p a1 c1 a2 c2 a3 c3 cut hcut hsortE hsortU hok hle hlt hlo (Rd.own' hr1 Y) (Rd.own' hr2 Y) (Rd.own' hr3 Y))
 replace Y:=Ow [blk b1 (((vc p.base.known)++[(.slice a1 p.base.ents.length c1:Value),(.slice a2 p.base.ticks.length c2:Value) ])++[(.slice a3 p.ops.length c3:Value) ]++(vc p.known)) 43,blk b3 (vc cut) 24,blk b5 [I7 0,.slice none 0 0,.bool false,.int .u32 0] 49,row (.slice x8.1.1 (((Qag p cut).ents).length) x8.1.2) (((Qag p cut).ents).map cec) 106 7,row (.slice x8.2.1 (((Qag p cut).ticks).length) x8.2.2) (((Qag p cut).ticks).map lsc) 102 2] Y
 refine Qaa (Qaf (.tuple #[.agg ((vc ((Qag p cut).known))++[(.slice x8.1.1 (((Qag p cut).ents).length) x8.1.2:Value),(.slice x8.2.1 (((Qag p cut).ticks).length) x8.2.2:Value) ]).toArray,I6 (Qbu p cut)]) (Qaa (QaC (V:=.agg ((vc ((Qag p cut).known))++[(.slice x8.1.1 (((Qag p cut).ents).length) x8.1.2:Value),(.slice x8.2.1 (((Qag p cut).ticks).length) x8.2.2:Value) ]).toArray) rfl rfl (Qaa (QaC (V:=I6 (Qbu p cut)) rfl rfl (Qaa (QaJ (cs:=(vc vzero)++[(.slice none 0 0:Value),(.slice none 0 0:Value) ]) Qgg rfl Y fun b9 w10 Y=>(Qaa (Qcz (V:=.agg ((vc ((Qag p cut).known))++[(.slice x8.1.1 (((Qag p cut).ents).length) x8.1.2:Value),(.slice x8.2.1 (((Qag p cut).ticks).length) x8.2.2:Value) ]).toArray) (vs:=(vc ((Qag p cut).known))++[(.slice x8.1.1 (((Qag p cut).ents).length) x8.1.2:Value),(.slice x8.2.1 (((Qag p cut).ticks).length) x8.2.2:Value) ]) (cs':=(vc ((Qag p cut).known))++[(.slice x8.1.1 (((Qag p cut).ents).length) x8.1.2:Value),(.slice x8.2.1 (((Qag p cut).ticks).length) x8.2.2:Value) ]) Qb4.1 Y 5 rfl rfl rfl rfl rfl (QQ8 rfl) (Qbq (Qb0 _) (Qat rfl (Qat rfl Qa2))) (Qaz rfl) fun w11 Y=>(Qaa (Qam (I6 (Qbu p cut)) (Qad (Qae (Qae (Qab (Qaa (Qaf (I6 (Qbu p cut)) (Qaa (Qck rfl rfl (Qad (Qak (t:=!decide (Qbu p cut=0)) rfl (fun c12=>?_) (fun c12=>?_))))))))))))))))))))))
 ·
  replace c12:=QbE c12
  replace c12:=QQ2 c12
  refine Qae (Qab (Qaa (QbI (vs:=[]) (cs:=[I7 0,.slice none 0 0,.bool false,.int .u32 0]) Qpp (rfl) rfl (Qaa (Qaf (I6 (Qbu p cut)) (Qaa (Qcz (V:=.agg #[I7 0,.slice none 0 0,.bool false,.int .u32 0]) (vs:=[I7 0,.slice none 0 0,.bool false,.int .u32 0]) (cs':=[I7 0,.slice none 0 0,.bool false,.int .u32 0]) Qdc.1 Y 2 rfl rfl rfl rfl rfl (QQ8 rfl) (Qat rfl (Qat rfl (Qat rfl (Qat rfl Qa2)))) (Qaz rfl) fun w13 Y=>(Qaa (Qam (I6 (Qbu p cut)) (Qad (Qav ?_)))))))))))
  refine ⟨_,Qct (cs:=[I7 0,.slice none 0 0,.bool false,.int .u32 0]) (V:=I6 (Qbu p cut)) results15 Qdc Y 2 rfl rfl rfl rfl,?_⟩
  rw [QqA c12]
  exact ⟨(none,0),rfl,(Y.take 0).more _ (Qbi _ _ 127 2),trivial⟩
 replace c12:=Qbd c12
 replace c12:=QQ1 c12
 refine Qap (Qae (Qab (Qaa (QaK (cs:=(vc ((Qag p cut).known))++[(.slice x8.1.1 (((Qag p cut).ents).length) x8.1.2:Value),(.slice x8.2.1 (((Qag p cut).ticks).length) x8.2.2:Value) ]) Qb4 Y 5 rfl rfl rfl (Qaa (Qaf (I7 n) (Qaa (Qbr (α:=Option Addr × Nat) (vs:=[.agg ((vc ((Qag p cut).known))++[(.slice x8.1.1 (((Qag p cut).ents).length) x8.1.2:Value),(.slice x8.2.1 (((Qag p cut).ticks).length) x8.2.2:Value) ]).toArray,I7 n]) (V:=fun x=>.agg #[I7 ((QaM (Qag p cut) n (Qaw (Qag p cut))).cart),.slice x.1 (((QaM (Qag p cut) n (Qaw (Qag p cut))).lines).length) x.2,.bool ((QaM (Qag p cut) n (Qaw (Qag p cut))).out),.int .u32 ((QaM (Qag p cut) n (Qaw (Qag p cut))).tick)]) (Lo:=fun x=>[row (.slice x.1 ((QaM (Qag p cut) n (Qaw (Qag p cut))).lines).length x.2) (((QaM (Qag p cut) n (Qaw (Qag p cut))).lines).map lc) 127 2]) (F:=fun _ _=>True) Qqb rfl rfl ?hc Y fun x15 w14 Y _=>?_))))))))
 case hc=>exact (Qfx _ (Qag p cut) x8.1.1 x8.1.2 x8.2.1 x8.2.2 n (QaM (Qag p cut) n (Qaw (Qag p cut)):Vw) (rfl) hso (by omega) (by omega) (Y.rd 3 rfl) (Y.rd 4 rfl))
 refine Qaa (Qcz (V:=.agg #[I7 ((QaM (Qag p cut) n (Qaw (Qag p cut))).cart),.slice x15.1 (((QaM (Qag p cut) n (Qaw (Qag p cut))).lines).length) x15.2,.bool ((QaM (Qag p cut) n (Qaw (Qag p cut))).out),.int .u32 ((QaM (Qag p cut) n (Qaw (Qag p cut))).tick)]) (vs:=[I7 ((QaM (Qag p cut) n (Qaw (Qag p cut))).cart),.slice x15.1 (((QaM (Qag p cut) n (Qaw (Qag p cut))).lines).length) x15.2,.bool ((QaM (Qag p cut) n (Qaw (Qag p cut))).out),.int .u32 ((QaM (Qag p cut) n (Qaw (Qag p cut))).tick)]) (cs':=[I7 ((QaM (Qag p cut) n (Qaw (Qag p cut))).cart),.slice x15.1 (((QaM (Qag p cut) n (Qaw (Qag p cut))).lines).length) x15.2,.bool ((QaM (Qag p cut) n (Qaw (Qag p cut))).out),.int .u32 ((QaM (Qag p cut) n (Qaw (Qag p cut))).tick)]) Qdc.1 Y 2 rfl rfl rfl rfl rfl (QQ8 rfl) (Qat rfl (Qat rfl (Qat rfl (Qat rfl Qa2)))) (Qaz rfl) fun w16 Y=>?_)
 replace Y:=Ow [blk b1 (((vc p.base.known)++[(.slice a1 p.base.ents.length c1:Value),(.slice a2 p.base.ticks.length c2:Value) ])++[(.slice a3 p.ops.length c3:Value) ]++(vc p.known)) 43,blk b3 (vc cut) 24,blk b5 [I7 ((QaM (Qag p cut) n (Qaw (Qag p cut))).cart),.slice x15.1 (((QaM (Qag p cut) n (Qaw (Qag p cut))).lines).length) x15.2,.bool ((QaM (Qag p cut) n (Qaw (Qag p cut))).out),.int .u32 ((QaM (Qag p cut) n (Qaw (Qag p cut))).tick)] 49,row (.slice x8.1.1 (((Qag p cut).ents).length) x8.1.2) (((Qag p cut).ents).map cec) 106 7,row (.slice x8.2.1 (((Qag p cut).ticks).length) x8.2.2) (((Qag p cut).ticks).map lsc) 102 2,blk b9 ((vc ((Qag p cut).known))++[(.slice x8.1.1 (((Qag p cut).ents).length) x8.1.2:Value),(.slice x8.2.1 (((Qag p cut).ticks).length) x8.2.2:Value) ]) 38,row (.slice x15.1 (((QaM (Qag p cut) n (Qaw (Qag p cut))).lines).length) x15.2) (((QaM (Qag p cut) n (Qaw (Qag p cut))).lines).map lc) 127 2] Y
 refine Qaa (Qam (I6 0) (Qad (Qav ?_)))
 refine ⟨_,Qct (cs:=[I7 ((QaM (Qag p cut) n (Qaw (Qag p cut))).cart),.slice x15.1 (((QaM (Qag p cut) n (Qaw (Qag p cut))).lines).length) x15.2,.bool ((QaM (Qag p cut) n (Qaw (Qag p cut))).out),.int .u32 ((QaM (Qag p cut) n (Qaw (Qag p cut))).tick)]) (V:=I6 0) results15 Qdc Y 2 rfl rfl rfl rfl,?_⟩
 rw [QgA c12,c12]
 exact ⟨(x15.1,x15.2),rfl,Y.only 6 rfl,trivial⟩
end Tt
end Go.Proofs
namespace Go.Proofs
open Go Go.Vx Go.RowKit
open Tryz
namespace Tt
theorem Qjr (w:World) (s:Sta) (a1:Option Addr) (c1:Nat) (a2:Option Addr) (c2:Nat) (hok:QdV s) (hle:s.ents.length<=1000) (hlt:s.ticks.length<=1000) (hr1:Rd w (.slice a1 s.ents.length c1) 7 (s.ents.map cec)) (hr2:Rd w (.slice a2 s.ticks.length c2) 2 (s.ticks.map lsc)):Calls prog 63 #[.agg ((vc s.known)++[(.slice a1 s.ents.length c1:Value),(.slice a2 s.ticks.length c2:Value) ]).toArray] w (fun e w'=>∃ x:Option Addr × Nat,e = .returned (.slice x.1 (QaD s).length x.2)/\Own w no w' [row (.slice x.1 (QaD s).length x.2) ((QaD s).map (ic .u16)) 32 1]/\True):=by
 refine Qah (n:=23) func63 rfl ntmps63 rfl ?_
 have Y:=Own.start w
 have ⟨hv0,hE0,hT0⟩:=hok
 refine Qae (Qab (Qaa (QaY (V:=.agg ((vc s.known)++[(.slice a1 s.ents.length c1:Value),(.slice a2 s.ticks.length c2:Value) ]).toArray) (cs:=(vc s.known)++[(.slice a1 s.ents.length c1:Value),(.slice a2 s.ticks.length c2:Value) ]) rfl rfl Y fun b1 w2 Y=>(Qaa (Qam (.slice none 0 0) (Qad (Qae (Qae (Qab (Qaa (QaK (cs:=(vc s.known)++[(.slice a1 s.ents.length c1:Value),(.slice a2 s.ticks.length c2:Value) ]) Qb4 Y 0 rfl rfl rfl (Qaa (Qas (vs:=[.agg ((vc s.known)++[(.slice a1 s.ents.length c1:Value),(.slice a2 s.ticks.length c2:Value) ]).toArray]) (V:=.bool (Qaw s)) Qqo rfl rfl ?hc Y fun w3 Y=>?_)))))))))))))
 case hc=>exact (Qfb _ s a1 c1 a2 c2 hok (by omega) (by omega) (Rd.own' hr1 Y) (Rd.own' hr2 Y))
 refine Qaa (QbB rfl (Qad (Qak (t:=!(Qaw s)) rfl (fun c4=>?_) (fun c4=>?_))))
 ·
  replace c4:=QbE c4
  refine Qae (Qab (Qaa (Qam (.slice none 0 0) (Qad (Qav ?_)))))
  refine ⟨_,Qan (V:=.slice none 0 0) results63 rfl,?_⟩
  have hX:QaD s=[]:=by unfold QaD;rw [if_neg (by rw [c4];decide)]
  rw [hX]
  exact ⟨(none,0),rfl,(Y.take 0).more _ (Qbi _ _ _ _),trivial⟩
 replace c4:=Qbd c4
 refine Qap (Qae (Qab (Qaa (Qam (.slice none 0 0) (Qad (Qae (Qae (Qab (Qaa (Qac Qc0 rfl (Qaa (QaN (.slice a2 s.ticks.length c2) Qf5 Y 0 (Qaa (Qa5 (n:=s.ticks.length) QeS (Rd.own' hr2 Y) (by simp) rfl (Qaa (Qaf (I6 0) (Qad (Qal ?_))))))))))))))))))
 replace Y:=Y.more (row (.slice none 0 0) (List.map (ic .u16) []) 32 1) (Qbi _ _ _ _)
 refine QaE (fun J μ J' w'=>∃ (Jo:Env) (k:Nat) (a9:Option Addr) (c9:Nat) (L9:List Int),J'=upd (upd (mix ([3,5]++sq 12 10) Jo J) 12 (I6 (k:Int))) 3 (.slice a9 L9.length c9)/\(k<=s.ticks.length)/\(L9=(s.ticks.take k).map (·.cart))/\(L9.length<=k)/\μ=s.ticks.length-k/\Own w no w' [blk b1 ((vc s.known)++[(.slice a1 s.ents.length c1:Value),(.slice a2 s.ticks.length c2:Value) ]) 38,row (.slice a9 L9.length c9) (L9.map (ic .u16)) 32 1]) ?_ ?_
 ·exact ⟨_,_,0,none,0,[],Qai (Qai (Qao (ds:=([3,5]++sq 12 10)) (Agr.refl _ _)) rfl) rfl,(by omega),rfl,(Nat.le_refl _),rfl,Y⟩
 rintro μ J' w5 ⟨Jo,k,a9,c9,L9,rfl,hk,hL9,hl9,rfl,Y⟩
 refine Qae (Qab (Qaa (Qa0 rfl rfl (Qad (Qae (Qak (t:=decide ((k:Int)<((s.ticks.length:Nat):Int))) rfl (fun c6=>?_) (fun c6=>?_)))))))
 ·
  replace c6:=QQ1 c6
  refine Qap (Qae (Qal (Qae (Qab (Qaa (Qax QeS QbS.1 (Rd.own' hr2 Y) rfl rfl (by omega) (by rw [QQ6];omega) (Qaa (Qa9 (j:=0) (vs:=lsc (gd s.ticks k)) k QbS (Rd.own' hr2 Y) (Qa4 (by omega)) rfl rfl rfl (by omega) (Qaa (QaJ (cs:=lsc (⟨0,0⟩:Lst)) Qlm rfl Y fun b7 w8 Y=>(Qaa (Qcz (V:=.agg (lsc (gd s.ticks k)).toArray) (vs:=lsc (gd s.ticks k)) (cs':=lsc (gd s.ticks k)) QbS.1 Y 2 rfl rfl rfl rfl rfl (QQ8 rfl) (Qcp _) (Qaz rfl) fun w9 Y=>(Qad (Qab (Qaa (Qaf (.slice a9 L9.length c9) (Qaa (Qac QeP rfl (Qaa (QaN (I7 ((gd s.ticks k).cart)) Qar Y 2 (Qaa (Qho (vals:=[I7 ((gd s.ticks k).cart)]) (ls:=List.map (ic .u16) ([(gd s.ticks k).cart]:List Int)) Qno rfl rfl rfl (Qbn (enc:=(ic .u16)) (fun _=>rfl) _) (QaW (QfB .u16) _) (QQ8 rfl) Y fun b10 w11 Y=>?_))))))))))))))))))))))
  replace Y:=Ow [blk b1 ((vc s.known)++[(.slice a1 s.ents.length c1:Value),(.slice a2 s.ticks.length c2:Value) ]) 38,row (.slice a9 L9.length c9) (L9.map (ic .u16)) 32 1,blk b7 (lsc (gd s.ticks k)) 102,row (.slice (some ⟨b10,0,none⟩) 1 1) ([(gd s.ticks k).cart].map (ic .u16)) 32 1] Y
  refine Qaa (Qdj (ls':=(L9++[(gd s.ticks k).cart]).map (ic .u16)) (n:=(L9++[(gd s.ticks k).cart]).length) Qno Y 1 rfl rfl rfl (Y.rd 3 rfl) (QaW (QfB .u16) _) (by simp only [QQ6,QQ7,List.length_cons,List.length_nil];omega) (by simp) (by simp) fun a12 c12 w13 Y=>(Qaa (Qam (.slice a12 ((L9++[(gd s.ticks k).cart]).length) c12) (Qad (Qab (Qaa (QaB (a:=(k:Int)) (b:=1) (c:=((k+1:Nat):Int)) rfl rfl (Qaj (by omega) (by omega)) (Qaa (Qaf (I6 ((k+1:Nat):Int)) (Qad ?_))))))))))
  refine ⟨_,?_,_,k+1,a12,c12,L9++[(gd s.ticks k).cart],Qai (Qai (Qao (ds:=([3,5]++sq 12 10)) (by repeat (first|exact Agr.refl _ _|refine Agr.upd ?_ rfl|refine Agr.mix ?_ rfl))) rfl) rfl,(by omega),(QhX (f:=fun x:Lst=>x.cart) hL9 (by omega)),(by rw [QQ7,List.length_singleton];omega),rfl,Y.take 2⟩
  omega
 replace c6:=QQ2 c6
 refine QaI (Qae (Qab (Qaa (Qaf (.slice a9 L9.length c9) (Qaa (Qam (.slice a9 L9.length c9) (Qad (Qav ?_))))))))
 refine ⟨_,Qan (V:=.slice a9 L9.length c9) results63 rfl,?_⟩
 have hX:L9=QaD s:=by unfold QaD;rw [if_pos c4,hL9,QcC (by omega)]
 rw [hX] at Y ⊢
 exact ⟨(a9,c9),rfl,Y.only 1 rfl,trivial⟩
end Tt
end Go.Proofs
namespace Go.Proofs
open Go Go.Vx Go.RowKit
open Tryz
namespace Tt
theorem Qgn (w:World) (S:Nat->Prop) (b:Nat) (L:List Dif) (x:Dif) (hR:(QeY 60 83 b L).holds w S) (hlS:∀ x,S x->x<w.heap.size) (hL:L.length<=100000000):Calls prog 65 #[.agg (dfc x).toArray,.pointer (some ⟨b,0,none⟩)] w (fun e w'=>∃ x_:Unit,e = .returned (.tuple #[])/\Own w S w' [QeY 60 83 b (L++[x])]/\True):=by
 refine Qah (n:=7) func65 rfl ntmps65 rfl ?_
 obtain ⟨a0,c0,Y⟩:=QpD hR hlS
 refine Qae (Qab (Qaa (QaY (V:=.agg (dfc x).toArray) (cs:=dfc x) rfl rfl Y fun b1 w2 Y=>(Qad (Qab (Qaa (QaN (.slice a0 L.length c0) QtS Y 0 (Qaa (QaK (cs:=dfc x) QjO Y 2 rfl rfl rfl (Qaa (Qho (vals:=[.agg (dfc x).toArray]) (ls:=List.map dfc ([x]:List Dif)) Que rfl rfl rfl (Qbn (enc:=dfc) (fun _=>rfl) _) (QaW Qj7 _) (QQ8 rfl) Y fun b3 w4 Y=>(Qaa (Qdj (ls':=(L++[x]).map dfc) (n:=(L++[x]).length) Que Y 1 rfl rfl rfl (Y.rd 3 rfl) (QaW Qj7 _) (by simp only [QQ6,QQ7,List.length_cons,List.length_nil];omega) (by simp) (by simp) fun a5 c5 w6 Y=>(Qaa (Qcs (V:=.slice a5 ((L++[x]).length) c5) (cs':=[.slice a5 ((L++[x]).length) c5]) QtS Y 0 rfl rfl rfl rfl (QQ8 rfl) rfl fun w7 Y=>?_)))))))))))))))
 replace Y:=Ow [blk b [.slice a5 ((L++[x]).length) c5] 60,row (.slice a5 ((L++[x]).length) c5) ((L++[x]).map dfc) 83 5,blk b1 (dfc x) 83,row (.slice (some ⟨b3,0,none⟩) 1 1) ([x].map dfc) 83 5] Y
 refine Qad ?_
 refine ⟨_,Qbl results65,?_⟩
 exact ⟨(),rfl,QqC (Y.two 0 1 (by decide) rfl rfl),trivial⟩
end Tt
end Go.Proofs
namespace Go.Proofs
open Go Go.Vx Go.RowKit
open Tryz
namespace Tt
theorem Qnn (w:World) (S:Nat->Prop) (b:Nat) (L:List Dif) (va:Int) (la:List Line) (ao:Bool) (at_:Int) (aa:Option Addr) (ca:Nat) (vb:Int) (lb:List Line) (bo:Bool) (bt:Int) (ab:Option Addr) (cb:Nat) (hra:Qgh la) (hrb:Qgh lb) (hna:la.length<=100000) (hnb:lb.length<=100000) (hva:∀ (w1:World) (L1:List Res),Own w S w1 L1->Rd w1 (.slice aa la.length ca) 2 (la.map lc)) (hvb:∀ (w1:World) (L1:List Res),Own w S w1 L1->Rd w1 (.slice ab lb.length cb) 2 (lb.map lc)) (hR:(QeY 60 83 b L).holds w S) (hlS:∀ x,S x->x<w.heap.size) (hL:L.length<=10000000):Calls prog 64 #[.agg #[.int .u16 va,.slice aa la.length ca,.bool ao,.int .u32 at_],.agg #[.int .u16 vb,.slice ab lb.length cb,.bool bo,.int .u32 bt],.func (.func 65) #[] #[.pointer (some ⟨b,0,none⟩)]] w (fun e w'=>∃ x_:Unit,e = .returned (.tuple #[])/\Own w S w' [QeY 60 83 b (L++Qe1 (⟨va,la,ao,at_⟩:Vw) (⟨vb,lb,bo,bt⟩:Vw))]/\True):=by
 refine Qah (n:=126) func64 rfl ntmps64 rfl ?_
 have Y:=Own.lent hR hlS
 refine Qae (Qab (Qaa (QaY (V:=.agg #[I7 va,.slice aa la.length ca,.bool ao,.int .u32 at_]) (cs:=[I7 va,.slice aa la.length ca,.bool ao,.int .u32 at_]) rfl rfl Y fun b1 w2 Y=>(Qaa (QaY (V:=.agg #[I7 vb,.slice ab lb.length cb,.bool bo,.int .u32 bt]) (cs:=[I7 vb,.slice ab lb.length cb,.bool bo,.int .u32 bt]) rfl rfl Y fun b3 w4 Y=>(Qad (Qae (QaH HM (so 9 4++[some 6,some 7]) [] [0,1,0,4,3,31] [pv (Pq b1 (0+1)),pv (.slice aa la.length ca),pv (Pq b3 (0+1)),pv (.slice ab lb.length cb),pv (.slice aa la.length ca),pv (.slice ab lb.length cb)] (fun _ _=>_) [5,4] (by kernel_rfl) Y ⟨?_,?_,?_,?_,?_,?_,trivial⟩ ?_))))))))
 ·exact oi [] fun Y=>Qac QcR rfl (Zz Y)
 ·exact oi [0] fun Y=>QaN (.slice aa la.length ca) Qfl Y 1 (Zz Y)
 ·exact oi [] fun Y=>Qac QcR rfl (Zz Y)
 ·exact oi [2] fun Y=>QaN (.slice ab lb.length cb) Qfl Y 2 (Zz Y)
 ·exact oi [1] fun Y=>Qam (.slice aa la.length ca) (Zz Y)
 ·exact oi [3] fun Y=>Qam (.slice ab lb.length cb) (Zz Y)
 rintro J1 w5 J2 hJ Y
 replace hJ:J2=upd (upd (mix [9,10,11,12,6,7] J1 _) 6 (.slice aa la.length ca)) 7 (.slice ab lb.length cb):=hJ
 subst hJ
 refine Qae (Qal (QaE (fun J μ J' w'=>∃ (Jo:Env) (R1:List Line) (R2:List Line) (I:List Int) (out:List Dif) (a6:Option Addr) (cb6:Nat) (a7:Option Addr) (cb7:Nat),J'=upd (upd (mix ([6,7,8]++sq 13 97) Jo J) 6 (.slice a6 R1.length cb6)) 7 (.slice a7 R2.length cb7)/\(DifI la lb R1 R2 I)/\(out=L++I.flatMap (Qkf vb la lb))/\(∀ (w1:World) (L1:List Res),Own w S w1 L1->Rd w1 (.slice a6 R1.length cb6) 2 (R1.map lc))/\(∀ (w1:World) (L1:List Res),Own w S w1 L1->Rd w1 (.slice a7 R2.length cb7) 2 (R2.map lc))/\(R1.length<=la.length/\R2.length<=lb.length)/\(out.length+(R1.length+R2.length)<=L.length+(la.length+lb.length))/\μ=R1.length+R2.length/\Own w S w' [QeY 60 83 b out,blk b1 [I7 va,.slice aa la.length ca,.bool ao,.int .u32 at_] 49,blk b3 [I7 vb,.slice ab lb.length cb,.bool bo,.int .u32 bt] 49]) ?_ ?_))
 ·exact ⟨_,_,la,lb,[],L,aa,ca,ab,cb,Qai (Qai (Qao (ds:=([6,7,8]++sq 13 97)) (Agr.refl _ _)) rfl) rfl,(Ql5 _ _),(by simp),hva,hvb,(by omega),(by omega),rfl,Y⟩
 rintro μ J' w6 ⟨Jo,R1,R2,I,out,a6,cb6,a7,cb7,rfl,hdi,hout,hv6,hv7,hll,hol,rfl,Y⟩
 have hrr:=QpX hra hrb hdi
 have hmm:=Qra hdi
 refine Qae (Qae (Qbv (so 13 8) [] [0,1,3,7,15,31,63,127] [pv (.slice a6 R1.length cb6),pv (I6 ((R1.length:Nat):Int)),pv (.bool (decide (0<((R1.length:Nat):Int)))),pv (.bool (decide (0<((R1.length:Nat):Int)))),pg ((decide (0<((R1.length:Nat):Int))) == false) (.slice a7 R2.length cb7),pg ((decide (0<((R1.length:Nat):Int))) == false) (I6 ((R2.length:Nat):Int)),pg ((decide (0<((R1.length:Nat):Int))) == false) (.bool (decide (0<((R2.length:Nat):Int)))),pv (.bool ((decide (0<((R1.length:Nat):Int)))||(decide (0<((R2.length:Nat):Int)))))] (fun _ _=>_) [7] (by kernel_rfl) Y ⟨?_,?_,?_,?_,?_,?_,?_,?_,trivial⟩ ?_))
 ·exact oi [] fun Y=>Qaf (.slice a6 R1.length cb6) (Zz Y)
 ·exact oi [0] fun Y=>Qa5 (n:=R1.length) Qds (hv6 _ _ Y) (by simp) rfl (Zz Y)
 ·exact oi [1] fun Y=>Qca rfl rfl (Zz Y)
 ·exact oi [2] fun Y=>Qaf (.bool (decide (0<((R1.length:Nat):Int)))) (Zz Y)
 ·exact ogi [3] fun hG Y=>Qaf (.slice a7 R2.length cb7) (Zz Y)
 ·exact oyi [3,4] [4] fun hG Y=>Qa5 (n:=R2.length) Qds (hv7 _ _ Y) (by simp) rfl (Zz Y)
 ·exact oyi [3,5] [5] fun hG Y=>Qca rfl rfl (Zz Y)
 ·exact oi [3,6] fun Y=>QbP (h':=decide (0<((R2.length:Nat):Int))) rfl rfl rfl (Zz Y)
 rintro J1 w7 J2 hJ Y
 replace hJ:J2=upd (mix (sq 13 8) J1 _) 20 (.bool ((decide (0<((R1.length:Nat):Int)))||(decide (0<((R2.length:Nat):Int))))):=hJ
 subst hJ
 refine Qak (t:=(decide (0<((R1.length:Nat):Int)))||(decide (0<((R2.length:Nat):Int)))) rfl (fun c8=>?_) (fun c8=>?_)
 ·
  refine Qap (Qal (Qae (Qab (Qaa (Qac Qig rfl (Qaa (QaN (I7 vb) Qar Y 2 (Qaa (QbI (vs:=[(0,I7 vb)]) (cs:=dfc (⟨vb,0,false,0,0⟩:Dif)) QtV (rfl) rfl (Qaa (QaJ (cs:=dfc (⟨0,0,false,0,0⟩:Dif)) Qxx rfl Y fun b9 w10 Y=>(Qaa (Qcz (V:=.agg (dfc (⟨vb,0,false,0,0⟩:Dif)).toArray) (vs:=dfc (⟨vb,0,false,0,0⟩:Dif)) (cs':=dfc (⟨vb,0,false,0,0⟩:Dif)) QjO.1 Y 3 rfl rfl rfl rfl rfl (QQ8 rfl) (Qj7 _) (Qaz rfl) fun w11 Y=>?_)))))))))))))
  replace Y:=Ow [QeY 60 83 b out,blk b1 [I7 va,.slice aa la.length ca,.bool ao,.int .u32 at_] 49,blk b3 [I7 vb,.slice ab lb.length cb,.bool bo,.int .u32 bt] 49,blk b9 (dfc (⟨vb,0,false,0,0⟩:Dif)) 83] Y
  refine Qad (Qae (Qal (Qae (QaH HM (so 44 19++[some 43]) [] [0,1,3,7,15,31,63,127,255,511,1023,2047,255,4351,12543,28927,65535,131071,262143,524287] [pv (.slice a7 R2.length cb7),pv (I6 ((R2.length:Nat):Int)),pv (.bool (decide (((R2.length:Nat):Int)=0))),pv (.bool (decide (((R2.length:Nat):Int)=0))),pg ((decide (((R2.length:Nat):Int)=0)) == false) (.slice a6 R1.length cb6),pg ((decide (((R2.length:Nat):Int)=0)) == false) (I6 ((R1.length:Nat):Int)),pg ((decide (((R2.length:Nat):Int)=0)) == false) (.bool (decide (0<((R1.length:Nat):Int)))),pg ((decide (((R2.length:Nat):Int)=0)) == false) (.bool (decide (0<((R1.length:Nat):Int)))),pg (((decide (((R2.length:Nat):Int)=0)) == false)&&((decide (0<((R1.length:Nat):Int))) == true)) (.slice a6 R1.length cb6),pg (((decide (((R2.length:Nat):Int)=0)) == false)&&((decide (0<((R1.length:Nat):Int))) == true)) (.pointer (some ⟨bkS (.slice a6 R1.length cb6),ofS (.slice a6 R1.length cb6)+(0:Int).toNat*2,none⟩)),pg (((decide (((R2.length:Nat):Int)=0)) == false)&&((decide (0<((R1.length:Nat):Int))) == true)) (.pointer (some ⟨bkS (.slice a6 R1.length cb6),ofS (.slice a6 R1.length cb6)+(0:Int).toNat*2+0,none⟩)),pg (((decide (((R2.length:Nat):Int)=0)) == false)&&((decide (0<((R1.length:Nat):Int))) == true)) (I7 ((gd R1 0).item)),pg (((decide (((R2.length:Nat):Int)=0)) == false)&&((decide (0<((R1.length:Nat):Int))) == true)) (.slice a7 R2.length cb7),pg (((decide (((R2.length:Nat):Int)=0)) == false)&&((decide (0<((R1.length:Nat):Int))) == true)) (.pointer (some ⟨bkS (.slice a7 R2.length cb7),ofS (.slice a7 R2.length cb7)+(0:Int).toNat*2,none⟩)),pg (((decide (((R2.length:Nat):Int)=0)) == false)&&((decide (0<((R1.length:Nat):Int))) == true)) (.pointer (some ⟨bkS (.slice a7 R2.length cb7),ofS (.slice a7 R2.length cb7)+(0:Int).toNat*2+0,none⟩)),pg (((decide (((R2.length:Nat):Int)=0)) == false)&&((decide (0<((R1.length:Nat):Int))) == true)) (I7 ((gd R2 0).item)),pg (((decide (((R2.length:Nat):Int)=0)) == false)&&((decide (0<((R1.length:Nat):Int))) == true)) (.bool (decide ((gd R1 0).item<(gd R2 0).item))),pg ((decide (((R2.length:Nat):Int)=0)) == false) (.bool ((decide (0<((R1.length:Nat):Int)))&&(decide ((gd R1 0).item<(gd R2 0).item)))),pv (.bool ((decide (((R2.length:Nat):Int)=0))||((decide (0<((R1.length:Nat):Int)))&&(decide ((gd R1 0).item<(gd R2 0).item))))),pv (.bool ((decide (((R2.length:Nat):Int)=0))||((decide (0<((R1.length:Nat):Int)))&&(decide ((gd R1 0).item<(gd R2 0).item)))))] (fun _ _=>_) [19] (by kernel_rfl) Y ⟨?_,?_,?_,?_,?_,?_,?_,?_,?_,?_,?_,?_,?_,?_,?_,?_,?_,?_,?_,?_,trivial⟩ ?_))))
  ·exact oi [] fun Y=>Qaf (.slice a7 R2.length cb7) (Zz Y)
  ·exact oi [0] fun Y=>Qa5 (n:=R2.length) Qds (hv7 _ _ Y) (by simp) rfl (Zz Y)
  ·exact oi [1] fun Y=>QaT rfl rfl (Zz Y)
  ·exact oi [2] fun Y=>Qaf (.bool (decide (((R2.length:Nat):Int)=0))) (Zz Y)
  ·exact ogi [3] fun hG Y=>Qaf (.slice a6 R1.length cb6) (Zz Y)
  ·exact oyi [3,4] [4] fun hG Y=>Qa5 (n:=R1.length) Qds (hv6 _ _ Y) (by simp) rfl (Zz Y)
  ·exact oyi [3,5] [5] fun hG Y=>Qca rfl rfl (Zz Y)
  ·exact oyi [3,6] [6] fun hG Y=>Qaf (.bool (decide (0<((R1.length:Nat):Int)))) (Zz Y)
  ·exact ogi [7] fun hG Y=>Qaf (.slice a6 R1.length cb6) (Zz Y)
  ·refine oyi [7,8] [8] fun hG Y=>?_
   have hgd0:=QQ2 (eq_of_beq (QbZ (hG)))
   have hgd1:=QQ1 (eq_of_beq (Qcl (hG)))
   exact Qax Qds Qcw.1 (hv6 _ _ Y) rfl rfl (by decide) (by rw [QQ6];omega) (Zz Y)
  ·exact oyi [7,9] [9] fun hG Y=>Qac Qd1 rfl (Zz Y)
  ·refine oyi [7,10] [10] fun hG Y=>?_
   have hgd0:=QQ2 (eq_of_beq (QbZ (hG)))
   have hgd1:=QQ1 (eq_of_beq (Qcl (hG)))
   exact QaV (j:=0) (V:=.int .u16 ((gd R1 0).item)) 0 Qar (hv6 _ _ Y) (Qa4 (by omega)) rfl rfl (by omega) (Zz Y)
  ·exact ogi [7] fun hG Y=>Qaf (.slice a7 R2.length cb7) (Zz Y)
  ·refine oyi [7,12] [12] fun hG Y=>?_
   have hgd0:=QQ2 (eq_of_beq (QbZ (hG)))
   have hgd1:=QQ1 (eq_of_beq (Qcl (hG)))
   exact Qax Qds Qcw.1 (hv7 _ _ Y) rfl rfl (by decide) (by rw [QQ6];omega) (Zz Y)
  ·exact oyi [7,13] [13] fun hG Y=>Qac Qd1 rfl (Zz Y)
  ·refine oyi [7,14] [14] fun hG Y=>?_
   have hgd0:=QQ2 (eq_of_beq (QbZ (hG)))
   have hgd1:=QQ1 (eq_of_beq (Qcl (hG)))
   exact QaV (j:=0) (V:=.int .u16 ((gd R2 0).item)) 0 Qar (hv7 _ _ Y) (Qa4 (by omega)) rfl rfl (by omega) (Zz Y)
  ·exact oyi [7,11,15] [11,15] fun hG Y=>Qa0 rfl rfl (Zz Y)
  ·exact oyi [3,7,16] [7] fun hG Y=>Qi4 (h':=decide ((gd R1 0).item<(gd R2 0).item)) (G:=((decide (((R2.length:Nat):Int)=0)) == false)) hG rfl rfl rfl (Zz Y)
  ·exact oi [3,17] fun Y=>QbP (h':=(decide (0<((R1.length:Nat):Int)))&&(decide ((gd R1 0).item<(gd R2 0).item))) rfl rfl rfl (Zz Y)
  ·exact oi [18] fun Y=>Qam (.bool ((decide (((R2.length:Nat):Int)=0))||((decide (0<((R1.length:Nat):Int)))&&(decide ((gd R1 0).item<(gd R2 0).item))))) (Zz Y)
  rintro J1 w12 J2 hJ Y
  replace hJ:J2=upd (mix (sq 44 19++[43]) J1 _) 43 (.bool ((decide (((R2.length:Nat):Int)=0))||((decide (0<((R1.length:Nat):Int)))&&(decide ((gd R1 0).item<(gd R2 0).item))))):=hJ
  subst hJ
  refine Qak (t:=(decide (((R2.length:Nat):Int)=0))||((decide (0<((R1.length:Nat):Int)))&&(decide ((gd R1 0).item<(gd R2 0).item)))) rfl (fun c13=>?_) (fun c13=>?_)
  ·
   refine Qae ?_
   have ⟨hn9,hz9⟩:=QxA c8 c13
   refine QaH HM (so 63 9++[none,some 72,none]) [] [0,1,3,7,0,16,48,112,15,271,1023,2047] [pv (.slice a6 R1.length cb6),pv (.pointer (some ⟨bkS (.slice a6 R1.length cb6),ofS (.slice a6 R1.length cb6)+(0:Int).toNat*2,none⟩)),pv (.pointer (some ⟨bkS (.slice a6 R1.length cb6),ofS (.slice a6 R1.length cb6)+(0:Int).toNat*2+0,none⟩)),pv (I7 ((gd R1 0).item)),pv (.slice a6 R1.length cb6),pv (.pointer (some ⟨bkS (.slice a6 R1.length cb6),ofS (.slice a6 R1.length cb6)+(0:Int).toNat*2,none⟩)),pv (.pointer (some ⟨bkS (.slice a6 R1.length cb6),ofS (.slice a6 R1.length cb6)+(0:Int).toNat*2+1,none⟩)),pv (.int .u32 ((gd R1 0).qty)),pv (Pq b9 (0+1)),pn,pv (Pq b9 (0+3)),pn] (fun D J=>[QeY 60 83 b out,blk b1 [I7 va,.slice aa la.length ca,.bool ao,.int .u32 at_] 49,blk b3 [I7 vb,.slice ab lb.length cb,.bool bo,.int .u32 bt] 49,cond (D 11) (blk b9 (dfc (⟨vb,(gd R1 0).item,false,(gd R1 0).qty,0⟩:Dif)) 83) (cond (D 9) (blk b9 (dfc (⟨vb,(gd R1 0).item,false,0,0⟩:Dif)) 83) (blk b9 (dfc (⟨vb,0,false,0,0⟩:Dif)) 83))]) [] (by kernel_rfl) Y ⟨?_,?_,?_,?_,?_,?_,?_,?_,?_,?_,?_,?_,trivial⟩ ?_
   ·exact oi [] fun Y=>Qaf (.slice a6 R1.length cb6) (Zz Y)
   ·exact oi [0] fun Y=>Qax Qds Qcw.1 (hv6 _ _ Y) rfl rfl (by decide) (by rw [QQ6];omega) (Zz Y)
   ·exact oi [1] fun Y=>Qac Qd1 rfl (Zz Y)
   ·exact oi [2] fun Y=>QaV (j:=0) (V:=.int .u16 ((gd R1 0).item)) 0 Qar (hv6 _ _ Y) (Qa4 (by omega)) rfl rfl (by omega) (Zz Y)
   ·exact oi [] fun Y=>Qaf (.slice a6 R1.length cb6) (Zz Y)
   ·exact oi [4] fun Y=>Qax Qds Qcw.1 (hv6 _ _ Y) rfl rfl (by decide) (by rw [QQ6];omega) (Zz Y)
   ·exact oi [5] fun Y=>Qac Qgt rfl (Zz Y)
   ·exact oi [6] fun Y=>QaV (j:=1) (V:=.int .u32 ((gd R1 0).qty)) 0 QaU (hv6 _ _ Y) (Qa4 (by omega)) rfl rfl (by omega) (Zz Y)
   ·exact oi [] fun Y=>Qac Qj4 rfl (Zz Y)
   ·exact ob [3,8] [11] rfl rfl fun D J w Y=>Qcs (V:=I7 ((gd R1 0).item)) (cs':=dfc (⟨vb,(gd R1 0).item,false,0,0⟩:Dif)) Qar Y 3 rfl rfl rfl rfl (QQ8 rfl) rfl fun _ Y=>⟨trivial,Y⟩
   ·exact oi [] fun Y=>Qac QgB rfl (Zz Y)
   ·exact oi [7,9,10] fun Y=>Qcs (V:=.int .u32 ((gd R1 0).qty)) (cs':=dfc (⟨vb,(gd R1 0).item,false,(gd R1 0).qty,0⟩:Dif)) QaU Y 3 rfl rfl rfl rfl (QQ8 rfl) rfl fun _ Y=>⟨trivial,Y⟩
   rintro J1 w16 J2 hJ Y
   replace hJ:J2=mix (sq 63 10) J1 _:=hJ
   replace Y:Own w S w16 [QeY 60 83 b out,blk b1 [I7 va,.slice aa la.length ca,.bool ao,.int .u32 at_] 49,blk b3 [I7 vb,.slice ab lb.length cb,.bool bo,.int .u32 bt] 49,blk b9 (dfc (⟨vb,(gd R1 0).item,false,(gd R1 0).qty,0⟩:Dif)) 83]:=Y
   subst hJ
   refine Qab (Qaa (Qaf (.slice a6 R1.length cb6) (Qaa (QlO (l:=1) (h:=R1.length) (m:=cb6) (n':=(R1.drop 1).length) Qkx Qcw.1 (hv6 _ _ Y) rfl (.inr ⟨_,_,rfl,rfl⟩) (.inl ⟨rfl,rfl⟩) (.inl ⟨rfl,rfl⟩) (by omega) (by omega) (Nat.le_trans (show R1.length<=R1.length by omega) (Rd.roomM (hv6 _ _ Y))) (Nat.le_refl _) (by simp only [List.length_take,List.length_drop]<;>omega) ?_))))
   refine Qaa (Qam (.slice (sla a6 1 cb6 2) ((R1.drop 1).length) (cb6-1)) (Qad (Qae (Qab (Qaa (Qac QgB rfl (Qaa (QaN (.int .u32 ((gd R1 0).qty)) QaU Y 3 (Qaa (Qac Qg7 rfl (Qaa (QaN (.int .u32 0) QaU Y 3 (Qaa (Qck rfl rfl (Qad (Qak (t:=!decide ((gd R1 0).qty=0)) rfl (fun c17=>?_) (fun c17=>?_)))))))))))))))))
   ·
    replace c17:=QbE c17
    replace c17:=QQ2 c17
    refine Qab (Qaa (Qaf (.func (.func 65) #[] #[Pq b 0]) (Qaa (QaK (cs:=dfc (⟨vb,(gd R1 0).item,false,(gd R1 0).qty,0⟩:Dif)) QjO Y 3 rfl rfl rfl (Qaa (QpO (α:=Unit) (vs:=[.agg (dfc (⟨vb,(gd R1 0).item,false,(gd R1 0).qty,0⟩:Dif)).toArray]) (cs:=[Pq b 0]) (V:=fun _=>.tuple #[]) (R:=QeY 60 83 b out) (R':=fun _=>QeY 60 83 b (out++[(⟨vb,(gd R1 0).item,false,(gd R1 0).qty,0⟩:Dif)])) (Lo:=fun _=>[]) (F:=fun _ _=>True) Qqq rfl rfl Y 0 rfl (fun S hS hlS=>Qgn _ S b out (⟨vb,(gd R1 0).item,false,(gd R1 0).qty,0⟩:Dif) hS hlS (by omega)) fun _ w18 Y _=>(Qad ?_)))))))
    have hd9:=QmX hra hrb hdi (by omega) (Qgp hrr.2 hz9)
    refine ⟨_,?_,_,R1.drop 1,R2,I++[(gd R1 0).item],(out++[(⟨vb,(gd R1 0).item,false,(gd R1 0).qty,0⟩:Dif)]),(sla a6 1 cb6 2),cb6-1,a7,cb7,Qai (Qai (Qao (ds:=([6,7,8]++sq 13 97)) (by repeat (first|exact Agr.refl _ _|refine Agr.upd ?_ rfl|refine Agr.mix ?_ rfl))) rfl) rfl,hd9.1,(Qip hout hd9.2.1 hd9.2.2 c17),(fun w1 L1 h=>Rd.dropM (hv6 w1 L1 h) 1 (by omega) _ (by rw [List.length_drop])),hv7,(by simp only [List.length_drop];omega),(by simp only [QQ7,List.length_singleton,List.length_drop];omega),rfl,Y.take 3⟩
    (simp only [List.length_drop];omega)
   replace c17:=Qbd c17
   replace c17:=QQ1 c17
   refine Qap ?_
   have hd9:=QmX hra hrb hdi (by omega) (Qgp hrr.2 hz9)
   refine ⟨_,?_,_,R1.drop 1,R2,I++[(gd R1 0).item],out,(sla a6 1 cb6 2),cb6-1,a7,cb7,Qai (Qai (Qao (ds:=([6,7,8]++sq 13 97)) (by repeat (first|exact Agr.refl _ _|refine Agr.upd ?_ rfl|refine Agr.mix ?_ rfl))) rfl) rfl,hd9.1,(QmJ hout hd9.2.1 hd9.2.2 c17),(fun w1 L1 h=>Rd.dropM (hv6 w1 L1 h) 1 (by omega) _ (by rw [List.length_drop])),hv7,(by simp only [List.length_drop];omega),(by simp only [List.length_drop];omega),rfl,Y.take 3⟩
   (simp only [List.length_drop];omega)
  have c13r:=Qfa c13
  replace c13:=Qe8 c13
  replace c13:=QQ2 c13
  refine Qae ?_
  have hn9:0<R2.length:=by omega
  refine QaH HM (so 76 14++[some 75]) [] [0,1,3,7,15,31,63,127,15,271,783,1807,4095,8191,16383] [pv (.slice a6 R1.length cb6),pv (I6 ((R1.length:Nat):Int)),pv (.bool (decide (((R1.length:Nat):Int)=0))),pv (.bool (decide (((R1.length:Nat):Int)=0))),pg ((decide (((R1.length:Nat):Int)=0)) == false) (.slice a7 R2.length cb7),pg ((decide (((R1.length:Nat):Int)=0)) == false) (.pointer (some ⟨bkS (.slice a7 R2.length cb7),ofS (.slice a7 R2.length cb7)+(0:Int).toNat*2,none⟩)),pg ((decide (((R1.length:Nat):Int)=0)) == false) (.pointer (some ⟨bkS (.slice a7 R2.length cb7),ofS (.slice a7 R2.length cb7)+(0:Int).toNat*2+0,none⟩)),pg ((decide (((R1.length:Nat):Int)=0)) == false) (I7 ((gd R2 0).item)),pg ((decide (((R1.length:Nat):Int)=0)) == false) (.slice a6 R1.length cb6),pg ((decide (((R1.length:Nat):Int)=0)) == false) (.pointer (some ⟨bkS (.slice a6 R1.length cb6),ofS (.slice a6 R1.length cb6)+(0:Int).toNat*2,none⟩)),pg ((decide (((R1.length:Nat):Int)=0)) == false) (.pointer (some ⟨bkS (.slice a6 R1.length cb6),ofS (.slice a6 R1.length cb6)+(0:Int).toNat*2+0,none⟩)),pg ((decide (((R1.length:Nat):Int)=0)) == false) (I7 ((gd R1 0).item)),pg ((decide (((R1.length:Nat):Int)=0)) == false) (.bool (decide ((gd R2 0).item<(gd R1 0).item))),pv (.bool ((decide (((R1.length:Nat):Int)=0))||(decide ((gd R2 0).item<(gd R1 0).item)))),pv (.bool ((decide (((R1.length:Nat):Int)=0))||(decide ((gd R2 0).item<(gd R1 0).item))))] (fun _ _=>_) [14] (by kernel_rfl) Y ⟨?_,?_,?_,?_,?_,?_,?_,?_,?_,?_,?_,?_,?_,?_,?_,trivial⟩ ?_
  ·exact oi [] fun Y=>Qaf (.slice a6 R1.length cb6) (Zz Y)
  ·exact oi [0] fun Y=>Qa5 (n:=R1.length) Qds (hv6 _ _ Y) (by simp) rfl (Zz Y)
  ·exact oi [1] fun Y=>QaT rfl rfl (Zz Y)
  ·exact oi [2] fun Y=>Qaf (.bool (decide (((R1.length:Nat):Int)=0))) (Zz Y)
  ·exact ogi [3] fun hG Y=>Qaf (.slice a7 R2.length cb7) (Zz Y)
  ·refine oyi [3,4] [4] fun hG Y=>?_
   have hgd:=QQ2 (eq_of_beq (hG))
   exact Qax Qds Qcw.1 (hv7 _ _ Y) rfl rfl (by decide) (by rw [QQ6];omega) (Zz Y)
  ·exact oyi [3,5] [5] fun hG Y=>Qac Qd1 rfl (Zz Y)
  ·refine oyi [3,6] [6] fun hG Y=>?_
   have hgd:=QQ2 (eq_of_beq (hG))
   exact QaV (j:=0) (V:=.int .u16 ((gd R2 0).item)) 0 Qar (hv7 _ _ Y) (Qa4 (by omega)) rfl rfl (by omega) (Zz Y)
  ·exact ogi [3] fun hG Y=>Qaf (.slice a6 R1.length cb6) (Zz Y)
  ·refine oyi [3,8] [8] fun hG Y=>?_
   have hgd:=QQ2 (eq_of_beq (hG))
   exact Qax Qds Qcw.1 (hv6 _ _ Y) rfl rfl (by decide) (by rw [QQ6];omega) (Zz Y)
  ·exact oyi [3,9] [9] fun hG Y=>Qac Qd1 rfl (Zz Y)
  ·refine oyi [3,10] [10] fun hG Y=>?_
   have hgd:=QQ2 (eq_of_beq (hG))
   exact QaV (j:=0) (V:=.int .u16 ((gd R1 0).item)) 0 Qar (hv6 _ _ Y) (Qa4 (by omega)) rfl rfl (by omega) (Zz Y)
  ·exact oyi [3,7,11] [7,11] fun hG Y=>Qa0 rfl rfl (Zz Y)
  ·exact oi [3,12] fun Y=>QbP (h':=decide ((gd R2 0).item<(gd R1 0).item)) rfl rfl rfl (Zz Y)
  ·exact oi [13] fun Y=>Qam (.bool ((decide (((R1.length:Nat):Int)=0))||(decide ((gd R2 0).item<(gd R1 0).item)))) (Zz Y)
  rintro J1 w19 J2 hJ Y
  replace hJ:J2=upd (mix (sq 76 14++[75]) J1 _) 75 (.bool ((decide (((R1.length:Nat):Int)=0))||(decide ((gd R2 0).item<(gd R1 0).item)))):=hJ
  subst hJ
  refine Qak (t:=(decide (((R1.length:Nat):Int)=0))||(decide ((gd R2 0).item<(gd R1 0).item))) rfl (fun c20=>?_) (fun c20=>?_)
  ·
   refine Qae ?_
   have hz9:=Qxt hn9 c20
   refine QaH HM (so 90 9++[none,some 99,none]) [] [0,1,3,7,0,16,48,112,15,271,1023,2047] [pv (.slice a7 R2.length cb7),pv (.pointer (some ⟨bkS (.slice a7 R2.length cb7),ofS (.slice a7 R2.length cb7)+(0:Int).toNat*2,none⟩)),pv (.pointer (some ⟨bkS (.slice a7 R2.length cb7),ofS (.slice a7 R2.length cb7)+(0:Int).toNat*2+0,none⟩)),pv (I7 ((gd R2 0).item)),pv (.slice a7 R2.length cb7),pv (.pointer (some ⟨bkS (.slice a7 R2.length cb7),ofS (.slice a7 R2.length cb7)+(0:Int).toNat*2,none⟩)),pv (.pointer (some ⟨bkS (.slice a7 R2.length cb7),ofS (.slice a7 R2.length cb7)+(0:Int).toNat*2+1,none⟩)),pv (.int .u32 ((gd R2 0).qty)),pv (Pq b9 (0+1)),pn,pv (Pq b9 (0+4)),pn] (fun D J=>[QeY 60 83 b out,blk b1 [I7 va,.slice aa la.length ca,.bool ao,.int .u32 at_] 49,blk b3 [I7 vb,.slice ab lb.length cb,.bool bo,.int .u32 bt] 49,cond (D 11) (blk b9 (dfc (⟨vb,(gd R2 0).item,false,0,(gd R2 0).qty⟩:Dif)) 83) (cond (D 9) (blk b9 (dfc (⟨vb,(gd R2 0).item,false,0,0⟩:Dif)) 83) (blk b9 (dfc (⟨vb,0,false,0,0⟩:Dif)) 83))]) [] (by kernel_rfl) Y ⟨?_,?_,?_,?_,?_,?_,?_,?_,?_,?_,?_,?_,trivial⟩ ?_
   ·exact oi [] fun Y=>Qaf (.slice a7 R2.length cb7) (Zz Y)
   ·exact oi [0] fun Y=>Qax Qds Qcw.1 (hv7 _ _ Y) rfl rfl (by decide) (by rw [QQ6];omega) (Zz Y)
   ·exact oi [1] fun Y=>Qac Qd1 rfl (Zz Y)
   ·exact oi [2] fun Y=>QaV (j:=0) (V:=.int .u16 ((gd R2 0).item)) 0 Qar (hv7 _ _ Y) (Qa4 (by omega)) rfl rfl (by omega) (Zz Y)
   ·exact oi [] fun Y=>Qaf (.slice a7 R2.length cb7) (Zz Y)
   ·exact oi [4] fun Y=>Qax Qds Qcw.1 (hv7 _ _ Y) rfl rfl (by decide) (by rw [QQ6];omega) (Zz Y)
   ·exact oi [5] fun Y=>Qac Qgt rfl (Zz Y)
   ·exact oi [6] fun Y=>QaV (j:=1) (V:=.int .u32 ((gd R2 0).qty)) 0 QaU (hv7 _ _ Y) (Qa4 (by omega)) rfl rfl (by omega) (Zz Y)
   ·exact oi [] fun Y=>Qac Qj4 rfl (Zz Y)
   ·exact ob [3,8] [11] rfl rfl fun D J w Y=>Qcs (V:=I7 ((gd R2 0).item)) (cs':=dfc (⟨vb,(gd R2 0).item,false,0,0⟩:Dif)) Qar Y 3 rfl rfl rfl rfl (QQ8 rfl) rfl fun _ Y=>⟨trivial,Y⟩
   ·exact oi [] fun Y=>Qac Qg7 rfl (Zz Y)
   ·exact oi [7,9,10] fun Y=>Qcs (V:=.int .u32 ((gd R2 0).qty)) (cs':=dfc (⟨vb,(gd R2 0).item,false,0,(gd R2 0).qty⟩:Dif)) QaU Y 3 rfl rfl rfl rfl (QQ8 rfl) rfl fun _ Y=>⟨trivial,Y⟩
   rintro J1 w23 J2 hJ Y
   replace hJ:J2=mix (sq 90 10) J1 _:=hJ
   replace Y:Own w S w23 [QeY 60 83 b out,blk b1 [I7 va,.slice aa la.length ca,.bool ao,.int .u32 at_] 49,blk b3 [I7 vb,.slice ab lb.length cb,.bool bo,.int .u32 bt] 49,blk b9 (dfc (⟨vb,(gd R2 0).item,false,0,(gd R2 0).qty⟩:Dif)) 83]:=Y
   subst hJ
   refine Qab (Qaa (Qaf (.slice a7 R2.length cb7) (Qaa (QlO (l:=1) (h:=R2.length) (m:=cb7) (n':=(R2.drop 1).length) Qkx Qcw.1 (hv7 _ _ Y) rfl (.inr ⟨_,_,rfl,rfl⟩) (.inl ⟨rfl,rfl⟩) (.inl ⟨rfl,rfl⟩) (by omega) (by omega) (Nat.le_trans (show R2.length<=R2.length by omega) (Rd.roomM (hv7 _ _ Y))) (Nat.le_refl _) (by simp only [List.length_take,List.length_drop]<;>omega) ?_))))
   refine Qaa (Qam (.slice (sla a7 1 cb7 2) ((R2.drop 1).length) (cb7-1)) (Qad (Qae (Qab (Qaa (Qac QgB rfl (Qaa (QaN (.int .u32 0) QaU Y 3 (Qaa (Qac Qg7 rfl (Qaa (QaN (.int .u32 ((gd R2 0).qty)) QaU Y 3 (Qaa (Qck rfl rfl (Qad (Qak (t:=!decide (0=(gd R2 0).qty)) rfl (fun c24=>?_) (fun c24=>?_)))))))))))))))))
   ·
    replace c24:=QbE c24
    replace c24:=QQ2 c24
    refine Qab (Qaa (Qaf (.func (.func 65) #[] #[Pq b 0]) (Qaa (QaK (cs:=dfc (⟨vb,(gd R2 0).item,false,0,(gd R2 0).qty⟩:Dif)) QjO Y 3 rfl rfl rfl (Qaa (QpO (α:=Unit) (vs:=[.agg (dfc (⟨vb,(gd R2 0).item,false,0,(gd R2 0).qty⟩:Dif)).toArray]) (cs:=[Pq b 0]) (V:=fun _=>.tuple #[]) (R:=QeY 60 83 b out) (R':=fun _=>QeY 60 83 b (out++[(⟨vb,(gd R2 0).item,false,0,(gd R2 0).qty⟩:Dif)])) (Lo:=fun _=>[]) (F:=fun _ _=>True) Qqq rfl rfl Y 0 rfl (fun S hS hlS=>Qgn _ S b out (⟨vb,(gd R2 0).item,false,0,(gd R2 0).qty⟩:Dif) hS hlS (by omega)) fun _ w25 Y _=>(Qad ?_)))))))
    have hd9:=Qry hra hrb hdi (by omega) (Qgp hrr.1 hz9)
    refine ⟨_,?_,_,R1,R2.drop 1,I++[(gd R2 0).item],(out++[(⟨vb,(gd R2 0).item,false,0,(gd R2 0).qty⟩:Dif)]),a6,cb6,(sla a7 1 cb7 2),cb7-1,Qai (Qai (Qao (ds:=([6,7,8]++sq 13 97)) (by repeat (first|exact Agr.refl _ _|refine Agr.upd ?_ rfl|refine Agr.mix ?_ rfl))) rfl) rfl,hd9.1,(Qip hout hd9.2.1 hd9.2.2 c24),hv6,(fun w1 L1 h=>Rd.dropM (hv7 w1 L1 h) 1 (by omega) _ (by rw [List.length_drop])),(by simp only [List.length_drop];omega),(by simp only [QQ7,List.length_singleton,List.length_drop];omega),rfl,Y.take 3⟩
    (simp only [List.length_drop];omega)
   replace c24:=Qbd c24
   replace c24:=QQ1 c24
   refine Qap ?_
   have hd9:=Qry hra hrb hdi (by omega) (Qgp hrr.1 hz9)
   refine ⟨_,?_,_,R1,R2.drop 1,I++[(gd R2 0).item],out,a6,cb6,(sla a7 1 cb7 2),cb7-1,Qai (Qai (Qao (ds:=([6,7,8]++sq 13 97)) (by repeat (first|exact Agr.refl _ _|refine Agr.upd ?_ rfl|refine Agr.mix ?_ rfl))) rfl) rfl,hd9.1,(QmJ hout hd9.2.1 hd9.2.2 c24),hv6,(fun w1 L1 h=>Rd.dropM (hv7 w1 L1 h) 1 (by omega) _ (by rw [List.length_drop])),(by simp only [List.length_drop];omega),(by simp only [List.length_drop];omega),rfl,Y.take 3⟩
   (simp only [List.length_drop];omega)
  have c20r:=Qfa c20
  replace c20:=Qe8 c20
  replace c20:=QQ2 c20
  replace c20r:=QQ2 c20r
  refine Qae ?_
  have hz9:=Qxc c13r (by omega) (by omega)
  refine QaH HM (so 24 13++[none,some 37,none,some 38,none]) [] [0,1,3,7,0,16,48,112,0,256,768,1792,15,4111,12543,28927,65535,131071] [pv (.slice a6 R1.length cb6),pv (.pointer (some ⟨bkS (.slice a6 R1.length cb6),ofS (.slice a6 R1.length cb6)+(0:Int).toNat*2,none⟩)),pv (.pointer (some ⟨bkS (.slice a6 R1.length cb6),ofS (.slice a6 R1.length cb6)+(0:Int).toNat*2+0,none⟩)),pv (I7 ((gd R1 0).item)),pv (.slice a6 R1.length cb6),pv (.pointer (some ⟨bkS (.slice a6 R1.length cb6),ofS (.slice a6 R1.length cb6)+(0:Int).toNat*2,none⟩)),pv (.pointer (some ⟨bkS (.slice a6 R1.length cb6),ofS (.slice a6 R1.length cb6)+(0:Int).toNat*2+1,none⟩)),pv (.int .u32 ((gd R1 0).qty)),pv (.slice a7 R2.length cb7),pv (.pointer (some ⟨bkS (.slice a7 R2.length cb7),ofS (.slice a7 R2.length cb7)+(0:Int).toNat*2,none⟩)),pv (.pointer (some ⟨bkS (.slice a7 R2.length cb7),ofS (.slice a7 R2.length cb7)+(0:Int).toNat*2+1,none⟩)),pv (.int .u32 ((gd R2 0).qty)),pv (Pq b9 (0+1)),pn,pv (Pq b9 (0+3)),pn,pv (Pq b9 (0+4)),pn] (fun D J=>[QeY 60 83 b out,blk b1 [I7 va,.slice aa la.length ca,.bool ao,.int .u32 at_] 49,blk b3 [I7 vb,.slice ab lb.length cb,.bool bo,.int .u32 bt] 49,cond (D 17) (blk b9 (dfc (⟨vb,(gd R1 0).item,false,(gd R1 0).qty,(gd R2 0).qty⟩:Dif)) 83) (cond (D 15) (blk b9 (dfc (⟨vb,(gd R1 0).item,false,(gd R1 0).qty,0⟩:Dif)) 83) (cond (D 13) (blk b9 (dfc (⟨vb,(gd R1 0).item,false,0,0⟩:Dif)) 83) (blk b9 (dfc (⟨vb,0,false,0,0⟩:Dif)) 83)))]) [] (by kernel_rfl) Y ⟨?_,?_,?_,?_,?_,?_,?_,?_,?_,?_,?_,?_,?_,?_,?_,?_,?_,?_,trivial⟩ ?_
  ·exact oi [] fun Y=>Qaf (.slice a6 R1.length cb6) (Zz Y)
  ·exact oi [0] fun Y=>Qax Qds Qcw.1 (hv6 _ _ Y) rfl rfl (by decide) (by rw [QQ6];omega) (Zz Y)
  ·exact oi [1] fun Y=>Qac Qd1 rfl (Zz Y)
  ·exact oi [2] fun Y=>QaV (j:=0) (V:=.int .u16 ((gd R1 0).item)) 0 Qar (hv6 _ _ Y) (Qa4 (by omega)) rfl rfl (by omega) (Zz Y)
  ·exact oi [] fun Y=>Qaf (.slice a6 R1.length cb6) (Zz Y)
  ·exact oi [4] fun Y=>Qax Qds Qcw.1 (hv6 _ _ Y) rfl rfl (by decide) (by rw [QQ6];omega) (Zz Y)
  ·exact oi [5] fun Y=>Qac Qgt rfl (Zz Y)
  ·exact oi [6] fun Y=>QaV (j:=1) (V:=.int .u32 ((gd R1 0).qty)) 0 QaU (hv6 _ _ Y) (Qa4 (by omega)) rfl rfl (by omega) (Zz Y)
  ·exact oi [] fun Y=>Qaf (.slice a7 R2.length cb7) (Zz Y)
  ·exact oi [8] fun Y=>Qax Qds Qcw.1 (hv7 _ _ Y) rfl rfl (by decide) (by rw [QQ6];omega) (Zz Y)
  ·exact oi [9] fun Y=>Qac Qgt rfl (Zz Y)
  ·exact oi [10] fun Y=>QaV (j:=1) (V:=.int .u32 ((gd R2 0).qty)) 0 QaU (hv7 _ _ Y) (Qa4 (by omega)) rfl rfl (by omega) (Zz Y)
  ·exact oi [] fun Y=>Qac Qj4 rfl (Zz Y)
  ·exact ob [3,12] [15,17] rfl rfl fun D J w Y=>Qcs (V:=I7 ((gd R1 0).item)) (cs':=dfc (⟨vb,(gd R1 0).item,false,0,0⟩:Dif)) Qar Y 3 rfl rfl rfl rfl (QQ8 rfl) rfl fun _ Y=>⟨trivial,Y⟩
  ·exact oi [] fun Y=>Qac QgB rfl (Zz Y)
  ·exact ob [7,13,14] [17] rfl rfl fun D J w Y=>Qcs (V:=.int .u32 ((gd R1 0).qty)) (cs':=dfc (⟨vb,(gd R1 0).item,false,(gd R1 0).qty,0⟩:Dif)) QaU Y 3 rfl rfl rfl rfl (QQ8 rfl) rfl fun _ Y=>⟨trivial,Y⟩
  ·exact oi [] fun Y=>Qac Qg7 rfl (Zz Y)
  ·exact oi [11,13,15,16] fun Y=>Qcs (V:=.int .u32 ((gd R2 0).qty)) (cs':=dfc (⟨vb,(gd R1 0).item,false,(gd R1 0).qty,(gd R2 0).qty⟩:Dif)) QaU Y 3 rfl rfl rfl rfl (QQ8 rfl) rfl fun _ Y=>⟨trivial,Y⟩
  rintro J1 w29 J2 hJ Y
  replace hJ:J2=mix (sq 24 15) J1 _:=hJ
  replace Y:Own w S w29 [QeY 60 83 b out,blk b1 [I7 va,.slice aa la.length ca,.bool ao,.int .u32 at_] 49,blk b3 [I7 vb,.slice ab lb.length cb,.bool bo,.int .u32 bt] 49,blk b9 (dfc (⟨vb,(gd R1 0).item,false,(gd R1 0).qty,(gd R2 0).qty⟩:Dif)) 83]:=Y
  subst hJ
  refine QaH HM (so 39 4++[some 6,some 7]) [] [0,1,0,4,3,31] [pv (.slice a6 R1.length cb6),pv (.slice (sla a6 1 cb6 2) ((R1.drop 1).length) (cb6-1)),pv (.slice a7 R2.length cb7),pv (.slice (sla a7 1 cb7 2) ((R2.drop 1).length) (cb7-1)),pv (.slice (sla a6 1 cb6 2) ((R1.drop 1).length) (cb6-1)),pv (.slice (sla a7 1 cb7 2) ((R2.drop 1).length) (cb7-1))] (fun _ _=>_) [5,4] (by kernel_rfl) Y ⟨?_,?_,?_,?_,?_,?_,trivial⟩ ?_
  ·exact ob [] [4] rfl rfl fun D J w Y=>Qaf (.slice a6 R1.length cb6) (Zz Y)
  ·exact oi [0] fun Y=>QlO (l:=1) (h:=R1.length) (m:=cb6) (n':=(R1.drop 1).length) Qkx Qcw.1 (hv6 _ _ Y) rfl (.inr ⟨_,_,rfl,rfl⟩) (.inl ⟨rfl,rfl⟩) (.inl ⟨rfl,rfl⟩) (by omega) (by omega) (Nat.le_trans (show R1.length<=R1.length by omega) (Rd.roomM (hv6 _ _ Y))) (Nat.le_refl _) (by simp only [List.length_take,List.length_drop]<;>omega) (Zz Y)
  ·exact ob [] [5] rfl rfl fun D J w Y=>Qaf (.slice a7 R2.length cb7) (Zz Y)
  ·exact oi [2] fun Y=>QlO (l:=1) (h:=R2.length) (m:=cb7) (n':=(R2.drop 1).length) Qkx Qcw.1 (hv7 _ _ Y) rfl (.inr ⟨_,_,rfl,rfl⟩) (.inl ⟨rfl,rfl⟩) (.inl ⟨rfl,rfl⟩) (by omega) (by omega) (Nat.le_trans (show R2.length<=R2.length by omega) (Rd.roomM (hv7 _ _ Y))) (Nat.le_refl _) (by simp only [List.length_take,List.length_drop]<;>omega) (Zz Y)
  ·exact oi [1] fun Y=>Qam (.slice (sla a6 1 cb6 2) ((R1.drop 1).length) (cb6-1)) (Zz Y)
  ·exact oi [3] fun Y=>Qam (.slice (sla a7 1 cb7 2) ((R2.drop 1).length) (cb7-1)) (Zz Y)
  rintro J1 w30 J2 hJ Y
  replace hJ:J2=upd (upd (mix [39,40,41,42,6,7] J1 _) 6 (.slice (sla a6 1 cb6 2) ((R1.drop 1).length) (cb6-1))) 7 (.slice (sla a7 1 cb7 2) ((R2.drop 1).length) (cb7-1)):=hJ
  subst hJ
  refine Qae (Qab (Qaa (Qac QgB rfl (Qaa (QaN (.int .u32 ((gd R1 0).qty)) QaU Y 3 (Qaa (Qac Qg7 rfl (Qaa (QaN (.int .u32 ((gd R2 0).qty)) QaU Y 3 (Qaa (Qck rfl rfl (Qad (Qak (t:=!decide ((gd R1 0).qty=(gd R2 0).qty)) rfl (fun c31=>?_) (fun c31=>?_))))))))))))))
  ·
   replace c31:=QbE c31
   replace c31:=QQ2 c31
   refine Qab (Qaa (Qaf (.func (.func 65) #[] #[Pq b 0]) (Qaa (QaK (cs:=dfc (⟨vb,(gd R1 0).item,false,(gd R1 0).qty,(gd R2 0).qty⟩:Dif)) QjO Y 3 rfl rfl rfl (Qaa (QpO (α:=Unit) (vs:=[.agg (dfc (⟨vb,(gd R1 0).item,false,(gd R1 0).qty,(gd R2 0).qty⟩:Dif)).toArray]) (cs:=[Pq b 0]) (V:=fun _=>.tuple #[]) (R:=QeY 60 83 b out) (R':=fun _=>QeY 60 83 b (out++[(⟨vb,(gd R1 0).item,false,(gd R1 0).qty,(gd R2 0).qty⟩:Dif)])) (Lo:=fun _=>[]) (F:=fun _ _=>True) Qqq rfl rfl Y 0 rfl (fun S hS hlS=>Qgn _ S b out (⟨vb,(gd R1 0).item,false,(gd R1 0).qty,(gd R2 0).qty⟩:Dif) hS hlS (by omega)) fun _ w32 Y _=>(Qad ?_)))))))
   have hd9:=QrA hra hrb hdi (by omega) (by omega) hz9
   refine ⟨_,?_,_,R1.drop 1,R2.drop 1,I++[(gd R1 0).item],(out++[(⟨vb,(gd R1 0).item,false,(gd R1 0).qty,(gd R2 0).qty⟩:Dif)]),(sla a6 1 cb6 2),cb6-1,(sla a7 1 cb7 2),cb7-1,Qai (Qai (Qao (ds:=([6,7,8]++sq 13 97)) (by repeat (first|exact Agr.refl _ _|refine Agr.upd ?_ rfl|refine Agr.mix ?_ rfl))) rfl) rfl,hd9.1,(Qip hout hd9.2.1 hd9.2.2 c31),(fun w1 L1 h=>Rd.dropM (hv6 w1 L1 h) 1 (by omega) _ (by rw [List.length_drop])),(fun w1 L1 h=>Rd.dropM (hv7 w1 L1 h) 1 (by omega) _ (by rw [List.length_drop])),(by simp only [List.length_drop];omega),(by simp only [QQ7,List.length_singleton,List.length_drop];omega),rfl,Y.take 3⟩
   (simp only [List.length_drop];omega)
  replace c31:=Qbd c31
  replace c31:=QQ1 c31
  refine Qap ?_
  have hd9:=QrA hra hrb hdi (by omega) (by omega) hz9
  refine ⟨_,?_,_,R1.drop 1,R2.drop 1,I++[(gd R1 0).item],out,(sla a6 1 cb6 2),cb6-1,(sla a7 1 cb7 2),cb7-1,Qai (Qai (Qao (ds:=([6,7,8]++sq 13 97)) (by repeat (first|exact Agr.refl _ _|refine Agr.upd ?_ rfl|refine Agr.mix ?_ rfl))) rfl) rfl,hd9.1,(QmJ hout hd9.2.1 hd9.2.2 c31),(fun w1 L1 h=>Rd.dropM (hv6 w1 L1 h) 1 (by omega) _ (by rw [List.length_drop])),(fun w1 L1 h=>Rd.dropM (hv7 w1 L1 h) 1 (by omega) _ (by rw [List.length_drop])),(by simp only [List.length_drop];omega),(by simp only [List.length_drop];omega),rfl,Y.take 3⟩
  (simp only [List.length_drop];omega)
 have c8r:=Qfa c8
 replace c8:=Qe8 c8
 replace c8:=QQ2 c8
 replace c8r:=QQ2 c8r
 refine QaI (Qae (Qab (Qaa (Qac Qdv rfl (Qaa (QaN (.bool ao) QlF Y 1 (Qaa (Qac Qdv rfl (Qaa (QaN (.bool bo) QlF Y 2 (Qaa (Qu3 QuE rfl rfl (Qad (Qak (t:=!(ao == bo)) rfl (fun c33=>?_) (fun c33=>?_)))))))))))))))
 ·
  replace c33:=QbE c33
  refine QaH HM (so 115 11) [] [0,0,2,0,8,24,0,64,248,510,1023] [pv (.func (.func 65) #[] #[Pq b 0]),pv (Pq b3 (0+0)),pv (I7 vb),pv (Pq b1 (0+2)),pv (.bool ao),pv (.int .u32 (Qfh ao)),pv (Pq b3 (0+2)),pv (.bool bo),pv (.int .u32 (Qfh bo)),pv (.agg (dfc (⟨vb,0,true,Qfh ao,Qfh bo⟩:Dif)).toArray),pv (.tuple #[])] (fun D J=>[cond (D 10) (QeY 60 83 b (out++[(⟨vb,0,true,Qfh ao,Qfh bo⟩:Dif)])) (QeY 60 83 b out),blk b1 [I7 va,.slice aa la.length ca,.bool ao,.int .u32 at_] 49,blk b3 [I7 vb,.slice ab lb.length cb,.bool bo,.int .u32 bt] 49]) [] (by kernel_rfl) Y ⟨?_,?_,?_,?_,?_,?_,?_,?_,?_,?_,?_,trivial⟩ ?_
  ·exact oi [] fun Y=>Qaf (.func (.func 65) #[] #[.pointer (some ⟨b,0,none⟩)]) (Zz Y)
  ·exact oi [] fun Y=>Qac Qig rfl (Zz Y)
  ·exact oi [1] fun Y=>QaN (.int .u16 vb) Qar Y 2 (Zz Y)
  ·exact oi [] fun Y=>Qac Qdv rfl (Zz Y)
  ·exact oi [3] fun Y=>QaN (.bool ao) QlF Y 1 (Zz Y)
  ·exact oi [4] fun Y=>Qas (vs:=[.bool ao]) (V:=.int .u32 (Qfh ao)) QrR rfl rfl (Qlj _ ao) Y fun _ Y=>Zz Y
  ·exact oi [] fun Y=>Qac Qdv rfl (Zz Y)
  ·exact oi [6] fun Y=>QaN (.bool bo) QlF Y 2 (Zz Y)
  ·exact oi [7] fun Y=>Qas (vs:=[.bool bo]) (V:=.int .u32 (Qfh bo)) QrR rfl rfl (Qlj _ bo) Y fun _ Y=>Zz Y
  ·exact oi [2,5,8] fun Y=>QbI (vs:=[(0,.int .u16 vb),(2,.bool true),(3,.int .u32 (Qfh ao)),(4,.int .u32 (Qfh bo))]) (cs:=dfc (⟨vb,0,true,Qfh ao,Qfh bo⟩:Dif)) QtV (rfl) rfl (Zz Y)
  ·exact oi [0,9] fun Y=>QpO (α:=Unit) (vs:=[.agg (dfc (⟨vb,0,true,Qfh ao,Qfh bo⟩:Dif)).toArray]) (cs:=[.pointer (some ⟨b,0,none⟩)]) (V:=fun _=>.tuple #[]) (R:=QeY 60 83 b out) (R':=fun _=>QeY 60 83 b (out++[(⟨vb,0,true,Qfh ao,Qfh bo⟩:Dif)])) (Lo:=fun _=>[]) (F:=fun _ _=>True) Qqq rfl rfl Y 0 rfl (fun S hS hlS=>Qgn _ S b out (⟨vb,0,true,Qfh ao,Qfh bo⟩:Dif) hS hlS (by omega)) fun _ _ Y _=>⟨rfl,Y⟩
  rintro J1 w37 J2 hJ Y
  replace hJ:J2=mix (sq 115 11) J1 _:=hJ
  replace Y:Own w S w37 [QeY 60 83 b (out++[(⟨vb,0,true,Qfh ao,Qfh bo⟩:Dif)]),blk b1 [I7 va,.slice aa la.length ca,.bool ao,.int .u32 at_] 49,blk b3 [I7 vb,.slice ab lb.length cb,.bool bo,.int .u32 bt] 49]:=Y
  subst hJ
  refine ⟨_,Qbl results64,?_⟩
  have hof:=QkM hdi (by omega) (by omega) hout
  have hX:(out++[(⟨vb,0,true,Qfh ao,Qfh bo⟩:Dif)])=L++Qe1 (⟨va,la,ao,at_⟩:Vw) (⟨vb,lb,bo,bt⟩:Vw):=QmN hof (fun e=>by subst e;simp at c33)
  exact ⟨(),rfl,by rw [← hX];exact Y.only 0 rfl,trivial⟩
 replace c33:=Qbd c33
 refine Qap ?_
 refine ⟨_,Qbl results64,?_⟩
 have hof:=QkM hdi (by omega) (by omega) hout
 have hX:out=L++Qe1 (⟨va,la,ao,at_⟩:Vw) (⟨vb,lb,bo,bt⟩:Vw):=Qoj hof (eq_of_beq c33)
 exact ⟨(),rfl,by rw [← hX];exact Y.only 0 rfl,trivial⟩
end Tt
end Go.Proofs
namespace Go.Proofs
open Go Go.Vx Go.RowKit
open Tryz
namespace Tt
theorem QpE (w:World) (p:Pst) (a1:Option Addr) (c1:Nat) (a2:Option Addr) (c2:Nat) (a3:Option Addr) (c3:Nat) (a b:Vec) (ha:QbH a) (hb:QbH b) (hsortE:Qhn prog 48 49 cec 106 7 Qlk) (hsortU:Qg2 prog 134 .u16 32) (hok:Qee p) (hle:p.base.ents.length<=400) (hlt:p.base.ticks.length<=400) (hlo:p.ops.length<=400) (hr1:Rd w (.slice a1 p.base.ents.length c1) 7 (p.base.ents.map cec)) (hr2:Rd w (.slice a2 p.base.ticks.length c2) 2 (p.base.ticks.map lsc)) (hr3:Rd w (.slice a3 p.ops.length c3) 23 (p.ops.map oc)):Calls prog 22 #[.agg (((vc p.base.known)++[(.slice a1 p.base.ents.length c1:Value),(.slice a2 p.base.ticks.length c2:Value) ])++[(.slice a3 p.ops.length c3:Value) ]++(vc p.known)).toArray,.agg (vc a).toArray,.agg (vc b).toArray] w (fun e w'=>∃ x:Option Addr × Nat,e = .returned (.tuple #[.slice x.1 (Qde p a b).length x.2,.int .i64 (Qdz p a b)])/\Own w no w' [row (.slice x.1 (Qde p a b).length x.2) ((Qde p a b).map dfc) 83 5]/\True):=by
 refine Qah (n:=55) func22 rfl ntmps22 rfl ?_
 have Y:=Own.start w
 have ⟨hokb,hoko,hokk⟩:=hok
 have hsa:=Qd5 p a
 have hsoa:=QfE (cut:=a) hok ha
 have hsb:=Qd5 p b
 have hsob:=QfE (cut:=b) hok hb
 refine Qae (Qab (Qaa (QaY (V:=.agg (((vc p.base.known)++[(.slice a1 p.base.ents.length c1:Value),(.slice a2 p.base.ticks.length c2:Value) ])++[(.slice a3 p.ops.length c3:Value) ]++(vc p.known)).toArray) (cs:=((vc p.base.known)++[(.slice a1 p.base.ents.length c1:Value),(.slice a2 p.base.ticks.length c2:Value) ])++[(.slice a3 p.ops.length c3:Value) ]++(vc p.known)) rfl rfl Y fun b1 w2 Y=>(Qaa (QaY (V:=.agg (vc a).toArray) (cs:=vc a) rfl rfl Y fun b3 w4 Y=>(Qaa (QaY (V:=.agg (vc b).toArray) (cs:=vc b) rfl rfl Y fun b5 w6 Y=>(Qaa (Qam (.slice none 0 0) (Qaa (Qam (I6 0) (Qad (Qae (Qab (Qaa (QaK (cs:=((vc p.base.known)++[(.slice a1 p.base.ents.length c1:Value),(.slice a2 p.base.ticks.length c2:Value) ])++[(.slice a3 p.ops.length c3:Value) ]++(vc p.known)) QdB Y 0 rfl rfl rfl (Qaa (QaK (cs:=vc a) QbC Y 1 rfl rfl rfl (Qaa (Qbr (α:=(Option Addr × Nat) × (Option Addr × Nat)) (vs:=[.agg (((vc p.base.known)++[(.slice a1 p.base.ents.length c1:Value),(.slice a2 p.base.ticks.length c2:Value) ])++[(.slice a3 p.ops.length c3:Value) ]++(vc p.known)).toArray,.agg (vc a).toArray]) (V:=fun x:(Option Addr × Nat) × (Option Addr × Nat)=>.tuple #[.agg (vc (Qag p a).known++[(.slice x.1.1 ((Qag p a).ents).length x.1.2:Value),(.slice x.2.1 ((Qag p a).ticks).length x.2.2:Value)]).toArray,I6 (Qbu p a)]) (Lo:=fun x=>[row (.slice x.1.1 ((Qag p a).ents).length x.1.2) (((Qag p a).ents).map cec) 106 7,row (.slice x.2.1 ((Qag p a).ticks).length x.2.2) (((Qag p a).ticks).map lsc) 102 2]) (F:=fun _ _=>True) Qnr rfl rfl ?hc Y fun x8 w7 Y _=>?_))))))))))))))))))))
 case hc=>exact (Qek _ p a1 c1 a2 c2 a3 c3 a ha hsortE hsortU hok hle hlt hlo (Rd.own' hr1 Y) (Rd.own' hr2 Y) (Rd.own' hr3 Y))
 replace Y:=Ow [blk b1 (((vc p.base.known)++[(.slice a1 p.base.ents.length c1:Value),(.slice a2 p.base.ticks.length c2:Value) ])++[(.slice a3 p.ops.length c3:Value) ]++(vc p.known)) 43,blk b3 (vc a) 24,blk b5 (vc b) 24,row (.slice x8.1.1 (((Qag p a).ents).length) x8.1.2) (((Qag p a).ents).map cec) 106 7,row (.slice x8.2.1 (((Qag p a).ticks).length) x8.2.2) (((Qag p a).ticks).map lsc) 102 2] Y
 refine Qaa (Qaf (.tuple #[.agg ((vc ((Qag p a).known))++[(.slice x8.1.1 (((Qag p a).ents).length) x8.1.2:Value),(.slice x8.2.1 (((Qag p a).ticks).length) x8.2.2:Value) ]).toArray,I6 (Qbu p a)]) (Qaa (QaC (V:=.agg ((vc ((Qag p a).known))++[(.slice x8.1.1 (((Qag p a).ents).length) x8.1.2:Value),(.slice x8.2.1 (((Qag p a).ticks).length) x8.2.2:Value) ]).toArray) rfl rfl (Qaa (QaC (V:=I6 (Qbu p a)) rfl rfl (Qaa (QaJ (cs:=(vc vzero)++[(.slice none 0 0:Value),(.slice none 0 0:Value) ]) Qgg rfl Y fun b9 w10 Y=>(Qaa (Qcz (V:=.agg ((vc ((Qag p a).known))++[(.slice x8.1.1 (((Qag p a).ents).length) x8.1.2:Value),(.slice x8.2.1 (((Qag p a).ticks).length) x8.2.2:Value) ]).toArray) (vs:=(vc ((Qag p a).known))++[(.slice x8.1.1 (((Qag p a).ents).length) x8.1.2:Value),(.slice x8.2.1 (((Qag p a).ticks).length) x8.2.2:Value) ]) (cs':=(vc ((Qag p a).known))++[(.slice x8.1.1 (((Qag p a).ents).length) x8.1.2:Value),(.slice x8.2.1 (((Qag p a).ticks).length) x8.2.2:Value) ]) Qb4.1 Y 5 rfl rfl rfl rfl rfl (QQ8 rfl) (Qbq (Qb0 _) (Qat rfl (Qat rfl Qa2))) (Qaz rfl) fun w11 Y=>(Qaa (Qam (I6 (Qbu p a)) (Qad (Qae (Qae (Qab (Qaa (Qaf (I6 (Qbu p a)) (Qaa (Qck rfl rfl (Qad (Qak (t:=!decide (Qbu p a=0)) rfl (fun c12=>?_) (fun c12=>?_))))))))))))))))))))))
 ·
  replace c12:=QbE c12
  replace c12:=QQ2 c12
  refine Qae (Qab (Qaa (Qaf (I6 (Qbu p a)) (Qaa (Qam (.slice none 0 0) (Qaa (Qam (I6 (Qbu p a)) (Qad (Qav ?_)))))))))
  refine ⟨_,QbO (U:=.slice none 0 0) (V:=I6 (Qbu p a)) results22 rfl rfl,?_⟩
  have hX:Qdz p a b=Qbu p a:=QsX c12
  rw [QjL (by rw [hX];exact c12),hX]
  exact ⟨(none,0),rfl,(Y.take 0).more _ (Qbi _ _ _ _),trivial⟩
 replace c12:=Qbd c12
 replace c12:=QQ1 c12
 refine Qap (Qae (Qab (Qaa (QaK (cs:=((vc p.base.known)++[(.slice a1 p.base.ents.length c1:Value),(.slice a2 p.base.ticks.length c2:Value) ])++[(.slice a3 p.ops.length c3:Value) ]++(vc p.known)) QdB Y 0 rfl rfl rfl (Qaa (QaK (cs:=vc b) QbC Y 2 rfl rfl rfl (Qaa (Qbr (α:=(Option Addr × Nat) × (Option Addr × Nat)) (vs:=[.agg (((vc p.base.known)++[(.slice a1 p.base.ents.length c1:Value),(.slice a2 p.base.ticks.length c2:Value) ])++[(.slice a3 p.ops.length c3:Value) ]++(vc p.known)).toArray,.agg (vc b).toArray]) (V:=fun x:(Option Addr × Nat) × (Option Addr × Nat)=>.tuple #[.agg (vc (Qag p b).known++[(.slice x.1.1 ((Qag p b).ents).length x.1.2:Value),(.slice x.2.1 ((Qag p b).ticks).length x.2.2:Value)]).toArray,I6 (Qbu p b)]) (Lo:=fun x=>[row (.slice x.1.1 ((Qag p b).ents).length x.1.2) (((Qag p b).ents).map cec) 106 7,row (.slice x.2.1 ((Qag p b).ticks).length x.2.2) (((Qag p b).ticks).map lsc) 102 2]) (F:=fun _ _=>True) Qnr rfl rfl ?hc Y fun x14 w13 Y _=>?_))))))))
 case hc=>exact (Qek _ p a1 c1 a2 c2 a3 c3 b hb hsortE hsortU hok hle hlt hlo (Rd.own' hr1 Y) (Rd.own' hr2 Y) (Rd.own' hr3 Y))
 refine Qaa (Qaf (.tuple #[.agg ((vc ((Qag p b).known))++[(.slice x14.1.1 (((Qag p b).ents).length) x14.1.2:Value),(.slice x14.2.1 (((Qag p b).ticks).length) x14.2.2:Value) ]).toArray,I6 (Qbu p b)]) (Qaa (QaC (V:=.agg ((vc ((Qag p b).known))++[(.slice x14.1.1 (((Qag p b).ents).length) x14.1.2:Value),(.slice x14.2.1 (((Qag p b).ticks).length) x14.2.2:Value) ]).toArray) rfl rfl (Qaa (QaC (V:=I6 (Qbu p b)) rfl rfl (Qaa (QaJ (cs:=(vc vzero)++[(.slice none 0 0:Value),(.slice none 0 0:Value) ]) Qgg rfl Y fun b15 w16 Y=>?_)))))))
 replace Y:=Ow [blk b1 (((vc p.base.known)++[(.slice a1 p.base.ents.length c1:Value),(.slice a2 p.base.ticks.length c2:Value) ])++[(.slice a3 p.ops.length c3:Value) ]++(vc p.known)) 43,blk b3 (vc a) 24,blk b5 (vc b) 24,row (.slice x8.1.1 (((Qag p a).ents).length) x8.1.2) (((Qag p a).ents).map cec) 106 7,row (.slice x8.2.1 (((Qag p a).ticks).length) x8.2.2) (((Qag p a).ticks).map lsc) 102 2,blk b9 ((vc ((Qag p a).known))++[(.slice x8.1.1 (((Qag p a).ents).length) x8.1.2:Value),(.slice x8.2.1 (((Qag p a).ticks).length) x8.2.2:Value) ]) 38,row (.slice x14.1.1 (((Qag p b).ents).length) x14.1.2) (((Qag p b).ents).map cec) 106 7,row (.slice x14.2.1 (((Qag p b).ticks).length) x14.2.2) (((Qag p b).ticks).map lsc) 102 2,blk b15 ((vc vzero)++[(.slice none 0 0:Value),(.slice none 0 0:Value) ]) 38] Y
 refine Qaa (Qcz (V:=.agg ((vc ((Qag p b).known))++[(.slice x14.1.1 (((Qag p b).ents).length) x14.1.2:Value),(.slice x14.2.1 (((Qag p b).ticks).length) x14.2.2:Value) ]).toArray) (vs:=(vc ((Qag p b).known))++[(.slice x14.1.1 (((Qag p b).ents).length) x14.1.2:Value),(.slice x14.2.1 (((Qag p b).ticks).length) x14.2.2:Value) ]) (cs':=(vc ((Qag p b).known))++[(.slice x14.1.1 (((Qag p b).ents).length) x14.1.2:Value),(.slice x14.2.1 (((Qag p b).ticks).length) x14.2.2:Value) ]) Qb4.1 Y 8 rfl rfl rfl rfl rfl (QQ8 rfl) (Qbq (Qb0 _) (Qat rfl (Qat rfl Qa2))) (Qaz rfl) fun w17 Y=>(Qaa (Qam (I6 (Qbu p b)) (Qad (Qae (Qal (Qae (Qab (Qaa (Qaf (I6 (Qbu p b)) (Qaa (Qck rfl rfl (Qaa (Qam (.bool (!decide (Qbu p b=0))) (Qad (Qak (t:=!decide (Qbu p b=0)) rfl (fun c18=>?_) (fun c18=>?_)))))))))))))))))
 ·
  replace c18:=QbE c18
  replace c18:=QQ2 c18
  refine Qae (Qab (Qaa (Qaf (I6 (Qbu p b)) (Qaa (Qam (.slice none 0 0) (Qaa (Qam (I6 (Qbu p b)) (Qad (Qav ?_)))))))))
  refine ⟨_,QbO (U:=.slice none 0 0) (V:=I6 (Qbu p b)) results22 rfl rfl,?_⟩
  have hX:Qdz p a b=Qbu p b:=QsQ c12 c18
  rw [QjL (by rw [hX];exact c18),hX]
  exact ⟨(none,0),rfl,(Y.take 0).more _ (Qbi _ _ _ _),trivial⟩
 replace c18:=Qbd c18
 replace c18:=QQ1 c18
 refine Qae (Qab (Qaa (QaK (cs:=vc a) QbC Y 1 rfl rfl rfl (Qaa (QaK (cs:=vc b) QbC Y 2 rfl rfl rfl (Qaa (Qas (vs:=[.agg (vc a).toArray,.agg (vc b).toArray]) (V:=.bool (vle a b)) Qq5 rfl rfl ?hc Y fun w19 Y=>?_)))))))
 case hc=>exact (Qfc _ a b)
 refine Qaa (QbB rfl (Qaa (Qam (.bool (!(vle a b))) (Qad (Qak (t:=!(vle a b)) rfl (fun c20=>?_) (fun c20=>?_))))))
 ·
  replace c20:=QbE c20
  refine Qae (Qab (Qaa (Qam (.slice none 0 0) (Qaa (Qam (I6 14) (Qad (Qav ?_)))))))
  refine ⟨_,QbO (U:=.slice none 0 0) (V:=I6 14) results22 rfl rfl,?_⟩
  have hX:Qdz p a b=14:=QsC c12 c18 c20
  rw [QjL (by rw [hX];decide),hX]
  exact ⟨(none,0),rfl,(Y.take 0).more _ (Qbi _ _ _ _),trivial⟩
 replace c20:=Qbd c20
 refine Qap (Qae (Qab (Qaa (QaJ (cs:=[.slice none 0 0]) QxV rfl Y fun b21 w22 Y=>(Qad (Qae (Qae (Qab (Qaa (QaK (cs:=(vc ((Qag p b).known))++[(.slice x14.1.1 (((Qag p b).ents).length) x14.1.2:Value),(.slice x14.2.1 (((Qag p b).ticks).length) x14.2.2:Value) ]) Qb4 Y 8 rfl rfl rfl (Qaa (Qbr (vs:=[.agg ((vc ((Qag p b).known))++[(.slice x14.1.1 (((Qag p b).ents).length) x14.1.2:Value),(.slice x14.2.1 (((Qag p b).ticks).length) x14.2.2:Value) ]).toArray]) (V:=fun x:Option Addr × Nat=>.slice x.1 (QaD (Qag p b)).length x.2) Qv1 rfl rfl (Qjr _ (Qag p b) x14.1.1 x14.1.2 x14.2.1 x14.2.2 hsob (by omega) (by omega) (Y.rd 6 rfl) (Y.rd 7 rfl)) Y fun x23 w24 Y _=>(Qaa (Qa5 (n:=(QaD (Qag p b)).length) QaP (Y.rd 10 rfl) (by simp) rfl (Qaa (Qaf (I6 0) (Qad (Qal ?_))))))))))))))))))
 replace Y:=Y.more (row (.slice none 0 0) (List.map dfc []) 83 5) (Qbi _ _ _ _)
 have ho:=(Y.join 9 11 (by decide) rfl rfl).conv 9 (R':=QeY 60 83 b21 []) rfl fun _ h=>⟨(none,0),h⟩
 replace Y:=ho
 have hcl:=Qji (Qag p b)
 refine QaE (fun J μ J' w'=>∃ (Jo:Env) (k:Nat) (out:List Dif),J'=upd (mix ([13]++sq 41 13) Jo J) 41 (I6 (k:Int))/\(k<=(QaD (Qag p b)).length)/\(out=((QaD (Qag p b)).take k).flatMap (Qkk p a b))/\(out.length<=k*2000)/\μ=(QaD (Qag p b)).length-k/\Own w no w' [blk b1 (((vc p.base.known)++[(.slice a1 p.base.ents.length c1:Value),(.slice a2 p.base.ticks.length c2:Value) ])++[(.slice a3 p.ops.length c3:Value) ]++(vc p.known)) 43,blk b3 (vc a) 24,blk b5 (vc b) 24,row (.slice x8.1.1 (((Qag p a).ents).length) x8.1.2) (((Qag p a).ents).map cec) 106 7,row (.slice x8.2.1 (((Qag p a).ticks).length) x8.2.2) (((Qag p a).ticks).map lsc) 102 2,blk b9 ((vc ((Qag p a).known))++[(.slice x8.1.1 (((Qag p a).ents).length) x8.1.2:Value),(.slice x8.2.1 (((Qag p a).ticks).length) x8.2.2:Value) ]) 38,row (.slice x14.1.1 (((Qag p b).ents).length) x14.1.2) (((Qag p b).ents).map cec) 106 7,row (.slice x14.2.1 (((Qag p b).ticks).length) x14.2.2) (((Qag p b).ticks).map lsc) 102 2,blk b15 ((vc ((Qag p b).known))++[(.slice x14.1.1 (((Qag p b).ents).length) x14.1.2:Value),(.slice x14.2.1 (((Qag p b).ticks).length) x14.2.2:Value) ]) 38,QeY 60 83 b21 out,row (.slice x23.1 ((QaD (Qag p b)).length) x23.2) ((QaD (Qag p b)).map (ic .u16)) 32 1,emp]) ?_ ?_
 ·exact ⟨_,_,0,[],Qai (Qao (ds:=([13]++sq 41 13)) (Agr.refl _ _)) rfl,(by omega),rfl,(Nat.le_refl _),rfl,Y⟩
 rintro μ J' w25 ⟨Jo,k,out,rfl,hk,hout,hol,rfl,Y⟩
 have hvl1:(Qbc p a (gd (QaD (Qag p b)) k)).lines.length<=800:=Nat.le_trans (Qft _ _ _) (by omega)
 have hvl2:(Qbc p b (gd (QaD (Qag p b)) k)).lines.length<=800:=Nat.le_trans (Qft _ _ _) (by omega)
 refine Qae (Qab (Qaa (Qa0 rfl rfl (Qad (Qae (Qak (t:=decide ((k:Int)<(((QaD (Qag p b)).length:Nat):Int))) rfl (fun c26=>?_) (fun c26=>?_)))))))
 ·
  replace c26:=QQ1 c26
  refine Qap (Qae (Qal (Qae (Qab (Qaa (Qax QaP Qar.1 (Y.rd 10 rfl) rfl rfl (by omega) (by rw [QQ6];omega) (Qaa (QaV (j:=0) (V:=I7 (gd (QaD (Qag p b)) k)) k Qar (Y.rd 10 rfl) (Qa4 (by omega)) rfl rfl (by omega) (Qaa (Qam (I7 (gd (QaD (Qag p b)) k)) (Qad ?_)))))))))))
  replace Y:=Y.more emp trivial
  replace Y:=Y.more emp trivial
  refine QaH HM (so 45 8) [[],[],[47],[],[],[50]] [0,0,3,0,0,31,0,127] [pv (.agg ((vc ((Qag p a).known))++[(.slice x8.1.1 (((Qag p a).ents).length) x8.1.2:Value),(.slice x8.2.1 (((Qag p a).ticks).length) x8.2.2:Value) ]).toArray),pv (I7 (gd (QaD (Qag p b)) k)),(true,fun J=>.agg #[I7 ((Qbc p a (gd (QaD (Qag p b)) k)).cart),.slice (aOf (Qdq (J 47) 1)) (((Qbc p a (gd (QaD (Qag p b)) k)).lines).length) (cOf (Qdq (J 47) 1)),.bool ((Qbc p a (gd (QaD (Qag p b)) k)).out),.int .u32 ((Qbc p a (gd (QaD (Qag p b)) k)).tick)]),pv (.agg ((vc ((Qag p b).known))++[(.slice x14.1.1 (((Qag p b).ents).length) x14.1.2:Value),(.slice x14.2.1 (((Qag p b).ticks).length) x14.2.2:Value) ]).toArray),pv (I7 (gd (QaD (Qag p b)) k)),(true,fun J=>.agg #[I7 ((Qbc p b (gd (QaD (Qag p b)) k)).cart),.slice (aOf (Qdq (J 50) 1)) (((Qbc p b (gd (QaD (Qag p b)) k)).lines).length) (cOf (Qdq (J 50) 1)),.bool ((Qbc p b (gd (QaD (Qag p b)) k)).out),.int .u32 ((Qbc p b (gd (QaD (Qag p b)) k)).tick)]),pv (.func (.func 65) #[] #[Pq b21 0]),pv (.tuple #[])] (fun D J=>[blk b1 (((vc p.base.known)++[(.slice a1 p.base.ents.length c1:Value),(.slice a2 p.base.ticks.length c2:Value) ])++[(.slice a3 p.ops.length c3:Value) ]++(vc p.known)) 43,blk b3 (vc a) 24,blk b5 (vc b) 24,row (.slice x8.1.1 (((Qag p a).ents).length) x8.1.2) (((Qag p a).ents).map cec) 106 7,row (.slice x8.2.1 (((Qag p a).ticks).length) x8.2.2) (((Qag p a).ticks).map lsc) 102 2,blk b9 ((vc ((Qag p a).known))++[(.slice x8.1.1 (((Qag p a).ents).length) x8.1.2:Value),(.slice x8.2.1 (((Qag p a).ticks).length) x8.2.2:Value) ]) 38,row (.slice x14.1.1 (((Qag p b).ents).length) x14.1.2) (((Qag p b).ents).map cec) 106 7,row (.slice x14.2.1 (((Qag p b).ticks).length) x14.2.2) (((Qag p b).ticks).map lsc) 102 2,blk b15 ((vc ((Qag p b).known))++[(.slice x14.1.1 (((Qag p b).ents).length) x14.1.2:Value),(.slice x14.2.1 (((Qag p b).ticks).length) x14.2.2:Value) ]) 38,cond (D 7) (QeY 60 83 b21 (out++Qe1 (Qbc p a (gd (QaD (Qag p b)) k)) (Qbc p b (gd (QaD (Qag p b)) k)))) (QeY 60 83 b21 out),row (.slice x23.1 ((QaD (Qag p b)).length) x23.2) ((QaD (Qag p b)).map (ic .u16)) 32 1,emp,cond (D 2) (row (.slice (aOf (Qdq (J 47) 1)) (((Qbc p a (gd (QaD (Qag p b)) k)).lines).length) (cOf (Qdq (J 47) 1))) (((Qbc p a (gd (QaD (Qag p b)) k)).lines).map lc) 127 2) (emp),cond (D 5) (row (.slice (aOf (Qdq (J 50) 1)) (((Qbc p b (gd (QaD (Qag p b)) k)).lines).length) (cOf (Qdq (J 50) 1))) (((Qbc p b (gd (QaD (Qag p b)) k)).lines).map lc) 127 2) (emp)]) [] (by kernel_rfl) Y ⟨?_,?_,?_,?_,?_,?_,?_,?_,trivial⟩ ?_
  ·exact oi [] fun Y=>QaK (cs:=(vc ((Qag p a).known))++[(.slice x8.1.1 (((Qag p a).ents).length) x8.1.2:Value),(.slice x8.2.1 (((Qag p a).ticks).length) x8.2.2:Value) ]) Qb4 Y 5 rfl rfl rfl (Zz Y)
  ·exact oi [] fun Y=>Qaf (.int .u16 (gd (QaD (Qag p b)) k)) (Zz Y)
  ·exact oi [0,1] fun Y=>Qbr (α:=Option Addr × Nat) (vs:=[.agg ((vc ((Qag p a).known))++[(.slice x8.1.1 (((Qag p a).ents).length) x8.1.2:Value),(.slice x8.2.1 (((Qag p a).ticks).length) x8.2.2:Value) ]).toArray,.int .u16 (gd (QaD (Qag p b)) k)]) (V:=fun x=>.agg #[.int .u16 ((Qbc p a (gd (QaD (Qag p b)) k)).cart),.slice x.1 (((Qbc p a (gd (QaD (Qag p b)) k)).lines).length) x.2,.bool ((Qbc p a (gd (QaD (Qag p b)) k)).out),.int .u32 ((Qbc p a (gd (QaD (Qag p b)) k)).tick)]) (Lo:=fun x=>[row (.slice x.1 ((Qbc p a (gd (QaD (Qag p b)) k)).lines).length x.2) (((Qbc p a (gd (QaD (Qag p b)) k)).lines).map lc) 127 2]) (F:=fun _ _=>True) Qqb rfl rfl (Qfx _ (Qag p a) x8.1.1 x8.1.2 x8.2.1 x8.2.2 (gd (QaD (Qag p b)) k) (Qbc p a (gd (QaD (Qag p b)) k):Vw) (rfl) hsoa (by omega) (by omega) (Y.rd 3 rfl) (Y.rd 4 rfl)) Y fun _ _ Y _=>⟨rfl,Y.put 12 (QQ8 rfl)⟩
  ·exact oi [] fun Y=>QaK (cs:=(vc ((Qag p b).known))++[(.slice x14.1.1 (((Qag p b).ents).length) x14.1.2:Value),(.slice x14.2.1 (((Qag p b).ticks).length) x14.2.2:Value) ]) Qb4 Y 8 rfl rfl rfl (Zz Y)
  ·exact oi [] fun Y=>Qaf (.int .u16 (gd (QaD (Qag p b)) k)) (Zz Y)
  ·exact oi [3,4] fun Y=>Qbr (α:=Option Addr × Nat) (vs:=[.agg ((vc ((Qag p b).known))++[(.slice x14.1.1 (((Qag p b).ents).length) x14.1.2:Value),(.slice x14.2.1 (((Qag p b).ticks).length) x14.2.2:Value) ]).toArray,.int .u16 (gd (QaD (Qag p b)) k)]) (V:=fun x=>.agg #[.int .u16 ((Qbc p b (gd (QaD (Qag p b)) k)).cart),.slice x.1 (((Qbc p b (gd (QaD (Qag p b)) k)).lines).length) x.2,.bool ((Qbc p b (gd (QaD (Qag p b)) k)).out),.int .u32 ((Qbc p b (gd (QaD (Qag p b)) k)).tick)]) (Lo:=fun x=>[row (.slice x.1 ((Qbc p b (gd (QaD (Qag p b)) k)).lines).length x.2) (((Qbc p b (gd (QaD (Qag p b)) k)).lines).map lc) 127 2]) (F:=fun _ _=>True) Qqb rfl rfl (Qfx _ (Qag p b) x14.1.1 x14.1.2 x14.2.1 x14.2.2 (gd (QaD (Qag p b)) k) (Qbc p b (gd (QaD (Qag p b)) k):Vw) (rfl) hsob (by omega) (by omega) (Y.rd 6 rfl) (Y.rd 7 rfl)) Y fun _ _ Y _=>⟨rfl,Y.put 13 (QQ8 rfl)⟩
  ·exact oi [] fun Y=>QcL (cs:=[.pointer (some ⟨b21,0,none⟩)]) rfl rfl (Zz Y)
  ·exact oa [2,5,6] fun D J w Y=>Qj6 (α:=Unit) (vs:=[.agg #[.int .u16 ((Qbc p a (gd (QaD (Qag p b)) k)).cart),.slice (aOf (Qdq (J 47) 1)) (((Qbc p a (gd (QaD (Qag p b)) k)).lines).length) (cOf (Qdq (J 47) 1)),.bool ((Qbc p a (gd (QaD (Qag p b)) k)).out),.int .u32 ((Qbc p a (gd (QaD (Qag p b)) k)).tick)],.agg #[.int .u16 ((Qbc p b (gd (QaD (Qag p b)) k)).cart),.slice (aOf (Qdq (J 50) 1)) (((Qbc p b (gd (QaD (Qag p b)) k)).lines).length) (cOf (Qdq (J 50) 1)),.bool ((Qbc p b (gd (QaD (Qag p b)) k)).out),.int .u32 ((Qbc p b (gd (QaD (Qag p b)) k)).tick)],.func (.func 65) #[] #[.pointer (some ⟨b21,0,none⟩)]]) (V:=fun _=>.tuple #[]) (R:=QeY 60 83 b21 out) (R':=fun _=>QeY 60 83 b21 (out++Qe1 (Qbc p a (gd (QaD (Qag p b)) k)) (Qbc p b (gd (QaD (Qag p b)) k)))) (Lo:=fun _=>[]) (F:=fun _ _=>True) Qxr rfl rfl Y 9 rfl (fun S hS hlS hK=>Qnn _ S b21 out ((Qbc p a (gd (QaD (Qag p b)) k)).cart) ((Qbc p a (gd (QaD (Qag p b)) k)).lines) ((Qbc p a (gd (QaD (Qag p b)) k)).out) ((Qbc p a (gd (QaD (Qag p b)) k)).tick) (aOf (Qdq (J 47) 1)) (cOf (Qdq (J 47) 1)) ((Qbc p b (gd (QaD (Qag p b)) k)).cart) ((Qbc p b (gd (QaD (Qag p b)) k)).lines) ((Qbc p b (gd (QaD (Qag p b)) k)).out) ((Qbc p b (gd (QaD (Qag p b)) k)).tick) (aOf (Qdq (J 50) 1)) (cOf (Qdq (J 50) 1)) (QkQ _ _ _) (QkQ _ _ _) (Nat.le_trans (Qft _ _ _) (by omega)) (Nat.le_trans (Qft _ _ _) (by omega)) (fun w1 L1 h=>(hK 12 (by decide) _ rfl).rd h) (fun w1 L1 h=>(hK 13 (by decide) _ rfl).rd h) hS hlS (by omega)) fun _ _ Y _=>⟨rfl,Y⟩
  rintro J1 w30 J2 hJ Y
  replace hJ:J2=mix (sq 45 8) J1 _:=hJ
  replace Y:Own w no w30 [blk b1 (((vc p.base.known)++[(.slice a1 p.base.ents.length c1:Value),(.slice a2 p.base.ticks.length c2:Value) ])++[(.slice a3 p.ops.length c3:Value) ]++(vc p.known)) 43,blk b3 (vc a) 24,blk b5 (vc b) 24,row (.slice x8.1.1 (((Qag p a).ents).length) x8.1.2) (((Qag p a).ents).map cec) 106 7,row (.slice x8.2.1 (((Qag p a).ticks).length) x8.2.2) (((Qag p a).ticks).map lsc) 102 2,blk b9 ((vc ((Qag p a).known))++[(.slice x8.1.1 (((Qag p a).ents).length) x8.1.2:Value),(.slice x8.2.1 (((Qag p a).ticks).length) x8.2.2:Value) ]) 38,row (.slice x14.1.1 (((Qag p b).ents).length) x14.1.2) (((Qag p b).ents).map cec) 106 7,row (.slice x14.2.1 (((Qag p b).ticks).length) x14.2.2) (((Qag p b).ticks).map lsc) 102 2,blk b15 ((vc ((Qag p b).known))++[(.slice x14.1.1 (((Qag p b).ents).length) x14.1.2:Value),(.slice x14.2.1 (((Qag p b).ticks).length) x14.2.2:Value) ]) 38,QeY 60 83 b21 (out++Qe1 (Qbc p a (gd (QaD (Qag p b)) k)) (Qbc p b (gd (QaD (Qag p b)) k))),row (.slice x23.1 ((QaD (Qag p b)).length) x23.2) ((QaD (Qag p b)).map (ic .u16)) 32 1,emp,row (.slice (aOf (Qdq (J1 47) 1)) (((Qbc p a (gd (QaD (Qag p b)) k)).lines).length) (cOf (Qdq (J1 47) 1))) (((Qbc p a (gd (QaD (Qag p b)) k)).lines).map lc) 127 2,row (.slice (aOf (Qdq (J1 50) 1)) (((Qbc p b (gd (QaD (Qag p b)) k)).lines).length) (cOf (Qdq (J1 50) 1))) (((Qbc p b (gd (QaD (Qag p b)) k)).lines).map lc) 127 2]:=Y
  generalize (aOf (Qdq (J1 47) 1))=na31 at Y
  generalize (cOf (Qdq (J1 47) 1))=nc32 at Y
  generalize (aOf (Qdq (J1 50) 1))=na33 at Y
  generalize (cOf (Qdq (J1 50) 1))=nc34 at Y
  subst hJ
  refine Qab (Qaa (QaB (a:=(k:Int)) (b:=1) (c:=((k+1:Nat):Int)) rfl rfl (Qaj (by omega) (by omega)) (Qaa (Qaf (I6 ((k+1:Nat):Int)) (Qad ?_)))))
  refine ⟨_,?_,_,k+1,(out++Qe1 (Qbc p a (gd (QaD (Qag p b)) k)) (Qbc p b (gd (QaD (Qag p b)) k))),Qai (Qao (ds:=([13]++sq 41 13)) (by repeat (first|exact Agr.refl _ _|refine Agr.upd ?_ rfl|refine Agr.mix ?_ rfl))) rfl,(by omega),(Qm7 hout (by omega)),(by have h9:=Qp2 (Qbc p a (gd (QaD (Qag p b)) k)) (Qbc p b (gd (QaD (Qag p b)) k));rw [QQ7];omega),rfl,Y.take 12⟩
  omega
 replace c26:=QQ2 c26
 refine QaI (Qae ?_)
 obtain ⟨⟨ao9,co9⟩,Y⟩:=Y.unpack 9 rfl
 replace Y:=Y.split 9 rfl
 refine Qab (Qaa (QaN (.slice ao9 out.length co9) QtS Y 9 (Qaa (Qam (.slice ao9 out.length co9) (Qaa (Qam (I6 0) (Qad (Qav ?_))))))))
 refine ⟨_,QbO (U:=.slice ao9 out.length co9) (V:=I6 0) results22 rfl rfl,?_⟩
 have hX:Qdz p a b=0:=QmO c12 c18 c20
 rw [Qri hX hout (by omega),hX]
 exact ⟨(ao9,co9),rfl,Y.only 12 rfl,trivial⟩
end Tt
end Go.Proofs
namespace Go.Proofs
open Go Go.Vx Go.RowKit
open Tryz
namespace Tt
theorem QqG (w:World) (a:Option Addr) (c:Nat) (l:List Int) (g:Nat) (caps:List Value) (hg:En prog g) (p:Int->Bool) (hp:∀ (w1:World) (L1:List Res),Own w no w1 L1->∀ x∈l,Calls prog g ([(.int .u16 x:Value)]++caps).toArray w1 (fun e w'=>e = .returned (.bool (p x))/\Own w1 no w' [])) (hr:Rd w (.slice a l.length c) 1 (l.map (ic .u16))):Calls prog 110 #[.slice a l.length c,.func (.func g) #[] caps.toArray] w (fun e w'=>e = .returned (.int .i64 (Qe7 p l))/\Own w no w' []):=by
 refine Qah (n:=19) func110 rfl ntmps110 rfl ?_
 have Y:=Own.start w
 have hn:=hr.sml
 refine Qae (Qab (Qaa (Qam (I6 0) (Qad (Qae (Qae (Qab (Qaa (Qaf (.slice a l.length c) (Qaa (Qa5 (n:=l.length) QaP (Rd.own' hr Y) (by simp) rfl (Qaa (Qaf (I6 0) (Qad (Qal (QaE (fun J μ J' w'=>∃ (Jo:Env) (k:Nat),J'=upd (mix ([4,5]++sq 8 11) Jo J) 8 (I6 (k:Int))/\(k<=l.length)/\(∀ j:Nat,j<k->p (gd l j)=false)/\μ=l.length-k/\Own w no w' []) ?_ ?_))))))))))))))))
 ·exact ⟨_,_,0,Qai (Qao (ds:=([4,5]++sq 8 11)) (Agr.refl _ _)) rfl,(by omega),(fun j hj=>absurd hj (Nat.not_lt_zero j)),rfl,Y⟩
 rintro μ J' w1 ⟨Jo,k,rfl,hk,hno,rfl,Y⟩
 refine Qae (Qab (Qaa (Qa0 rfl rfl (Qad (Qae (Qak (t:=decide ((k:Int)<((l.length:Nat):Int))) rfl (fun c2=>?_) (fun c2=>?_)))))))
 ·
  replace c2:=QQ1 c2
  refine Qap (Qae (Qal (Qae (Qab (Qaa (Qaf (I6 (k:Int)) (Qaa (Qam (I6 (k:Int)) (Qad (Qae (Qab (Qaa (Qaf (.func (.func g) #[] caps.toArray) (Qaa (Qaf (.slice a l.length c) (Qaa (Qaf (I6 (k:Int)) (Qaa (Qax QaP Qar.1 (Rd.own' hr Y) rfl rfl (by omega) (by rw [QQ6];omega) (Qaa (QaV (j:=0) (V:=I7 (gd l k)) k Qar (Rd.own' hr Y) (Qa4 (by omega)) rfl rfl (by omega) (Qaa (Qfu (vs:=[I7 (gd l k)]) (cs:=caps) (V:=.bool (p (gd l k))) hg rfl rfl (hp _ _ Y (gd l k) (Qbo (by omega))) Y fun w3 Y=>(Qad (Qak (t:=p (gd l k)) rfl (fun c4=>?_) (fun c4=>?_))))))))))))))))))))))))))
  ·
   refine Qae (Qab (Qaa (Qaf (I6 (k:Int)) (Qaa (Qam (I6 (k:Int)) (Qad (Qav ?_)))))))
   refine ⟨_,Qan (V:=I6 (k:Int)) results110 rfl,(Zr Y ?_)⟩
   exact congrArg (Value.int .i64) (QjR (by omega) hno c4).symm
  refine Qap (Qab (Qaa (QaB (a:=(k:Int)) (b:=1) (c:=(k:Int)+1) rfl rfl (Qbx (by omega) (by omega)) (Qaa (Qaf (I6 ((k:Int)+1)) (Qad ?_))))))
  refine ⟨_,?_,_,k+1,Qai (Qao (ds:=([4,5]++sq 8 11)) (by repeat (first|exact Agr.refl _ _|refine Agr.upd ?_ rfl|refine Agr.mix ?_ rfl))) rfl,(by omega),(Qdo hno c4),rfl,Y.take 0⟩
  omega
 replace c2:=QQ2 c2
 refine QaI (Qae (Qab (Qaa (Qam (I6 (-1)) (Qad (Qav ?_))))))
 refine ⟨_,Qan (V:=I6 (-1)) results110 rfl,(Zr Y ?_)⟩
 exact congrArg (Value.int .i64) (Qoy fun j hj=>hno j (by omega)).symm
end Tt
end Go.Proofs
namespace Go.Proofs
open Go Go.Vx Go.RowKit
open Tryz
namespace Tt
theorem Qq1 (w:World) (S:Nat->Prop) (a:Option Addr) (c:Nat) (l:List Int) (g:Nat) (caps:List Value) (hg:En prog g) (p:Int->Bool) (hp:∀ (w1:World) (L1:List Res),Own w S w1 L1->∀ x∈l,Calls prog g ([(.int .u16 x:Value)]++caps).toArray w1 (fun e w'=>e = .returned (.bool (p x))/\Own w1 no w' [])) (hR:(row (.slice a l.length c) (l.map (ic .u16)) 32 1).holds w S) (hlt:∀ b,S b->b<w.heap.size):Calls prog 67 #[.slice a l.length c,.func (.func g) #[] caps.toArray] w (fun e w'=>∃ x:Unit,e = .returned (.slice a (l.filter fun x=>!p x).length c)/\Own w S w' [row (.slice a (l.filter fun x=>!p x).length c) ((l.filter fun x=>!p x).map (ic .u16)) 32 1]/\True):=by
 refine Qah (n:=42) func67 rfl ntmps67 rfl ?_
 have Y:=Own.lent hR hlt
 have hn:=(Y.rd 0 rfl).sml
 have hlc:=(Y.rd 0 rfl).roomM
 refine Qae (Qab (Qaa (Qam (.slice none 0 0) (Qad (Qae (Qab (Qaa (Qaf (.slice a l.length c) (Qaa (Qaf (.func (.func g) #[] caps.toArray) (Qaa (Qas (vs:=[.slice a l.length c,.func (.func g) #[] caps.toArray]) (V:=I6 (Qe7 p l)) Qun rfl rfl ?hc Y fun w1 Y=>?_))))))))))))
 case hc=>exact (QqG _ a c l g caps hg p (fun w1 L1 h=>hp w1 _ (Y.call h)) (Y.rd 0 rfl))
 refine Qaa (Qam (I6 (Qe7 p l)) (Qad (Qae (Qae ?_))))
 rcases Qlh (p:=p) (l:=l) with hk2|hk2
 ·
  obtain ⟨hf1,hfl⟩:=hk2
  refine Qab (Qaa (Qa8 (V:=I6 (Qe7 p l)) (V':=I6 (-1)) (Qaf (I6 (Qe7 p l)) ⟨rfl,rfl⟩) (congrArg (Value.int .i64) hf1) (Qaa (Qa8 (V:=.bool (decide ((-1:Int) = -1))) (V':=.bool true) (QaT rfl rfl ⟨rfl,rfl⟩) (congrArg Value.bool (QQ3 rfl)) (Qad (QcO rfl ?_))))))
  refine Qae (Qab (Qaa (Qaf (.slice a l.length c) (Qaa (Qam (.slice a l.length c) (Qad (Qav ?_)))))))
  refine ⟨_,Qan (V:=.slice a l.length c) results67 rfl,?_⟩
  rw [hfl]
  exact ⟨(),rfl,Y.take 1,trivial⟩
 obtain ⟨k0,hf1,hk0l,hpk,hft⟩:=hk2
 refine Qab (Qaa (Qa8 (V:=I6 (Qe7 p l)) (V':=I6 (k0:Int)) (Qaf (I6 (Qe7 p l)) ⟨rfl,rfl⟩) (congrArg (Value.int .i64) hf1) (Qaa (Qa8 (V:=.bool (decide ((k0:Int) = -1))) (V':=.bool false) (QaT rfl rfl ⟨rfl,rfl⟩) (congrArg Value.bool (QQ4 (by omega))) (Qad (Qce rfl ?_))))))
 refine Qap (Qae (Qae (Qab (Qaa (Qa8 (V:=I6 (Qe7 p l)) (V':=I6 (k0:Int)) (Qaf (I6 (Qe7 p l)) ⟨rfl,rfl⟩) (congrArg (Value.int .i64) hf1) (Qaa (QaB (a:=(k0:Int)) (b:=1) (c:=((k0+1:Nat):Int)) rfl rfl (Qaj (by omega) (by omega)) (Qaa (Qam (I6 ((k0+1:Nat):Int)) (Qad (Qal (QaE (fun J μ J' w'=>∃ (Jo:Env) (i:Nat) (j:Nat) (m:List Int),J'=upd (upd (mix ([5,6,7]++sq 16 20) Jo J) 5 (I6 (i:Int))) 6 (I6 (j:Int))/\(i<j)/\(j<=l.length)/\(Moved p l m i j)/\μ=l.length-j/\Own w S w' [row (.slice a l.length c) (m.map (ic .u16)) 32 1]) ?_ ?_))))))))))))
 ·exact ⟨_,_,k0,k0+1,l,Qai (Qai (Qao (ds:=([5,6,7]++sq 16 20)) (Agr.refl _ _)) (congrArg (Value.int .i64) hf1)) rfl,(by omega),(by omega),(QgC hk0l hpk hft),rfl,Y⟩
 rintro μ J' w2 ⟨Jo,i,j,m,rfl,hij,hj,hmv,rfl,Y⟩
 have hml:=hmv.1
 refine Qae (Qae (Qab (Qaa (Qaf (I6 (j:Int)) (Qaa (Qaf (.slice a l.length c) (Qaa (Qa5 (n:=l.length) QaP (Y.rd 0 rfl) (by simp [hmv.1]) rfl (Qaa (Qa0 rfl rfl (Qad (Qak (t:=decide ((j:Int)<((l.length:Nat):Int))) rfl (fun c3=>?_) (fun c3=>?_)))))))))))))
 ·
  replace c3:=QQ1 c3
  refine Qap (Qae (Qal (Qae (Qab (Qaa (Qaf (.slice a l.length c) (Qaa (Qaf (I6 (j:Int)) (Qaa (Qax QaP Qar.1 (Y.rd 0 rfl) rfl rfl (by omega) (by rw [QQ6];omega) (Qaa (QaV (j:=0) (V:=I7 (gd m j)) j Qar (Y.rd 0 rfl) (Qa4 (by omega)) rfl rfl (by omega) (Qaa (Qam (I7 (gd m j)) (Qad (Qae (Qab (Qaa (Qaf (.func (.func g) #[] caps.toArray) (Qaa (Qaf (I7 (gd m j)) (Qaa (Qfu (vs:=[I7 (gd m j)]) (cs:=caps) (V:=.bool (p (gd m j))) hg rfl rfl (hp _ _ Y (gd m j) (by rw [hmv.2.2 _ (Nat.le_refl _)];exact Qbo (by omega))) Y fun w4 Y=>(Qaa (QbB rfl (Qad (Qak (t:=!(p (gd m j))) rfl (fun c5=>?_) (fun c5=>?_))))))))))))))))))))))))))))
  ·
   replace c5:=QbE c5
   refine Qae (Qab (Qaa (Qaf (.slice a l.length c) (Qaa (Qaf (I6 (i:Int)) (Qaa (Qaf (I7 (gd m j)) (Qaa (Qax QaP Qar.1 (Y.rd 0 rfl) rfl rfl (by omega) (by rw [QQ6];omega) (Qaa (QvR (z:=gd m j) (vs:=[I7 (gd m j)]) i 0 Qar.1 Y 0 rfl rfl (by omega) (by first|omega|(simp only [List.length_set];omega)) rfl rfl rfl rfl (QQ8 rfl) ((QfB .u16) _) (Qat rfl Qa2) fun w6 Y=>(Qad (Qab (Qaa (Qaf (I6 (i:Int)) (Qaa (QaB (a:=(i:Int)) (b:=1) (c:=((i+1:Nat):Int)) rfl rfl (Qaj (by omega) (by omega)) (Qaa (Qam (I6 ((i+1:Nat):Int)) (Qad (Qab (Qaa (Qaf (I6 (j:Int)) (Qaa (QaB (a:=(j:Int)) (b:=1) (c:=((j+1:Nat):Int)) rfl rfl (Qaj (by omega) (by omega)) (Qaa (Qam (I6 ((j+1:Nat):Int)) (Qad ?_))))))))))))))))))))))))))))
   refine ⟨_,?_,_,i+1,j+1,m.set i (gd m j),Qai (Qai (Qao (ds:=([5,6,7]++sq 16 20)) (by repeat (first|exact Agr.refl _ _|refine Agr.upd ?_ rfl|refine Agr.mix ?_ rfl))) rfl) rfl,(by omega),(by omega),(Qhr hmv (by omega) (by omega) c5),rfl,Y.take 1⟩
   omega
  replace c5:=Qbd c5
  refine Qap (Qab (Qaa (Qaf (I6 (j:Int)) (Qaa (QaB (a:=(j:Int)) (b:=1) (c:=((j+1:Nat):Int)) rfl rfl (Qaj (by omega) (by omega)) (Qaa (Qam (I6 ((j+1:Nat):Int)) (Qad ?_))))))))
  refine ⟨_,?_,_,i,j+1,m,Qai (Qai (Qao (ds:=([5,6,7]++sq 16 20)) (by repeat (first|exact Agr.refl _ _|refine Agr.upd ?_ rfl|refine Agr.mix ?_ rfl))) rfl) rfl,(by omega),(by omega),(QhR hmv (by omega) c5),rfl,Y.take 1⟩
  omega
 replace c3:=QQ2 c3
 refine QaI (Qae (Qab (Qaa (Qaf (.slice a l.length c) (Qaa (Qaf (I6 (i:Int)) (Qaa (QlO (l:=i) (h:=l.length) (m:=c) (n':=(m.drop i).length) Qr4 Qar.1 (Y.rd 0 rfl) rfl (.inr ⟨_,_,rfl,rfl⟩) (.inl ⟨rfl,rfl⟩) (.inl ⟨rfl,rfl⟩) (by omega) (by omega) (Nat.le_trans (show l.length<=m.length by omega) (Rd.roomM (Y.rd 0 rfl))) (Nat.le_refl _) (by simp only [List.length_take,List.length_drop]<;>omega) ?_))))))))
 refine Qaa (Qk8 Qno Y 0 rfl rfl (by rw [QQ6]<;>omega) (by simp only [QQ6,List.length_drop]<;>omega) (by intro v hv;have e:=Qnl hv Qx2;subst e;exact (by intro u hu;simp [Value.cells] at hu;subst hu;rfl)) fun w7 Y=>(Qad (Qae (Qab (Qaa (Qaf (.slice a l.length c) (Qaa (Qaf (I6 (i:Int)) (Qaa (Qed (l:=0) (h:=i) (n':=i) Qr4 Qar.1 (by omega) rfl (.inl ⟨rfl,rfl⟩) (.inr ⟨_,_,rfl,rfl⟩) (by omega) (by omega) (by omega) (Qaa (Qam (.slice (sla a 0 c 1) i (c-0)) (Qad (Qav ?_))))))))))))))
 refine ⟨_,Qan (V:=.slice (sla a 0 c 1) i (c-0)) results67 rfl,?_⟩
 have he:=Qjq hmv (by omega)
 have hil:i=(l.filter fun x=>!p x).length:=by rw [← he,List.length_take,hmv.1];omega
 replace Y:=Y.take 1
 simp only [List.set_cons_zero,List.take_succ_cons,List.take_zero,← List.map_take,he] at Y
 rw [← hil]
 refine ⟨(),?_,Y,trivial⟩
 rw [QfI,Nat.sub_zero]
end Tt
end Go.Proofs
namespace Go.Proofs
open Go Go.Vx Go.RowKit
open Tryz
namespace Tt
theorem Qu6 (w:World) (n:Int) (bs bn bi:Nat) (s:Sta) (a1:Option Addr) (c1:Nat) (a2:Option Addr) (c2:Nat) (now idle:Int) (hnw:0<=idle/\idle<=now/\now<4294967296) (hok:QdV s) (hle:s.ents.length<=1000) (hlt:s.ticks.length<=1000) (hcs:QbW w bs ((vc s.known)++[(.slice a1 s.ents.length c1:Value),(.slice a2 s.ticks.length c2:Value) ])) (hcn:QbW w bn [(.int .u32 now:Value)]) (hci:QbW w bi [(.int .u32 idle:Value)]) (hr1:Rd w (.slice a1 s.ents.length c1) 7 (s.ents.map cec)) (hr2:Rd w (.slice a2 s.ticks.length c2) 2 (s.ticks.map lsc)):Calls prog 68 #[.int .u16 n,.pointer (some ⟨bs,0,none⟩),.pointer (some ⟨bn,0,none⟩),.pointer (some ⟨bi,0,none⟩)] w (fun e w'=>e = .returned (.bool (Qhj (QaM s n (Qaw s)) now idle))/\Own w no w' []):=by
 refine Qah (n:=26) func68 rfl ntmps68 rfl ?_
 have Y:=Own.start w
 have ⟨hnw1,hnw2,hnw3⟩:=hnw
 refine Qae (Qab (Qaa (Qam (.bool false) (Qad (Qae (Qab (Qaa (QkK (vs:=(vc s.known)++[(.slice a1 s.ents.length c1:Value),(.slice a2 s.ticks.length c2:Value) ]) Qb4 (hcs.own' Y) rfl rfl rfl (Qaa (Qaf (I7 n) (Qaa (Qbr (α:=Option Addr × Nat) (vs:=[.agg ((vc s.known)++[(.slice a1 s.ents.length c1:Value),(.slice a2 s.ticks.length c2:Value) ]).toArray,I7 n]) (V:=fun x=>.agg #[I7 ((QaM s n (Qaw s)).cart),.slice x.1 (((QaM s n (Qaw s)).lines).length) x.2,.bool ((QaM s n (Qaw s)).out),.int .u32 ((QaM s n (Qaw s)).tick)]) (Lo:=fun x=>[row (.slice x.1 ((QaM s n (Qaw s)).lines).length x.2) (((QaM s n (Qaw s)).lines).map lc) 127 2]) (F:=fun _ _=>True) Qqb rfl rfl ?hc Y fun x2 w1 Y _=>?_))))))))))))
 case hc=>exact (Qfx _ s a1 c1 a2 c2 n (QaM s n (Qaw s):Vw) (rfl) hok hle hlt (Rd.own' hr1 Y) (Rd.own' hr2 Y))
 refine Qaa (QaJ (cs:=[I7 0,.slice none 0 0,.bool false,.int .u32 0]) Qhe rfl Y fun b3 w4 Y=>(Qaa (Qcz (V:=.agg #[I7 ((QaM s n (Qaw s)).cart),.slice x2.1 (((QaM s n (Qaw s)).lines).length) x2.2,.bool ((QaM s n (Qaw s)).out),.int .u32 ((QaM s n (Qaw s)).tick)]) (vs:=[I7 ((QaM s n (Qaw s)).cart),.slice x2.1 (((QaM s n (Qaw s)).lines).length) x2.2,.bool ((QaM s n (Qaw s)).out),.int .u32 ((QaM s n (Qaw s)).tick)]) (cs':=[I7 ((QaM s n (Qaw s)).cart),.slice x2.1 (((QaM s n (Qaw s)).lines).length) x2.2,.bool ((QaM s n (Qaw s)).out),.int .u32 ((QaM s n (Qaw s)).tick)]) Qdc.1 Y 1 rfl rfl rfl rfl rfl (QQ8 rfl) (Qat rfl (Qat rfl (Qat rfl (Qat rfl Qa2)))) (Qaz rfl) fun w5 Y=>(Qad (Qae (Qbv (so 10 16++[some 5]) [] [0,1,3,7,15,31,63,127,255,511,1023,511,511,6655,16383,32767,65535] [pv (Pq b3 (0+1)),pv (.slice x2.1 (((QaM s n (Qaw s)).lines).length) x2.2),pv (I6 ((((QaM s n (Qaw s)).lines).length:Nat):Int)),pv (.bool (decide (((((QaM s n (Qaw s)).lines).length:Nat):Int)=0))),pv (.bool (decide (((((QaM s n (Qaw s)).lines).length:Nat):Int)=0))),pg ((decide (((((QaM s n (Qaw s)).lines).length:Nat):Int)=0)) == false) (Pq b3 (0+2)),pg ((decide (((((QaM s n (Qaw s)).lines).length:Nat):Int)=0)) == false) (.bool ((QaM s n (Qaw s)).out)),pv (.bool ((decide (((((QaM s n (Qaw s)).lines).length:Nat):Int)=0))||((QaM s n (Qaw s)).out))),pv (.bool ((decide (((((QaM s n (Qaw s)).lines).length:Nat):Int)=0))||((QaM s n (Qaw s)).out))),pg (((decide (((((QaM s n (Qaw s)).lines).length:Nat):Int)=0))||((QaM s n (Qaw s)).out)) == false) (Pq b3 (0+3)),pg (((decide (((((QaM s n (Qaw s)).lines).length:Nat):Int)=0))||((QaM s n (Qaw s)).out)) == false) (.int .u32 ((QaM s n (Qaw s)).tick)),pg (((decide (((((QaM s n (Qaw s)).lines).length:Nat):Int)=0))||((QaM s n (Qaw s)).out)) == false) (.int .u32 now),pg (((decide (((((QaM s n (Qaw s)).lines).length:Nat):Int)=0))||((QaM s n (Qaw s)).out)) == false) (.int .u32 idle),pg (((decide (((((QaM s n (Qaw s)).lines).length:Nat):Int)=0))||((QaM s n (Qaw s)).out)) == false) (.int .u32 (now-idle)),pg (((decide (((((QaM s n (Qaw s)).lines).length:Nat):Int)=0))||((QaM s n (Qaw s)).out)) == false) (.bool (decide (now-idle<(QaM s n (Qaw s)).tick))),pv (.bool (((decide (((((QaM s n (Qaw s)).lines).length:Nat):Int)=0))||((QaM s n (Qaw s)).out))||(decide (now-idle<(QaM s n (Qaw s)).tick)))),pv (.bool (((decide (((((QaM s n (Qaw s)).lines).length:Nat):Int)=0))||((QaM s n (Qaw s)).out))||(decide (now-idle<(QaM s n (Qaw s)).tick))))] (fun _ _=>_) [16] (by kernel_rfl) Y ⟨?_,?_,?_,?_,?_,?_,?_,?_,?_,?_,?_,?_,?_,?_,?_,?_,?_,trivial⟩ ?_))))))
 ·exact oi [] fun Y=>Qac QcR rfl (Zz Y)
 ·exact oi [0] fun Y=>QaN (.slice x2.1 (((QaM s n (Qaw s)).lines).length) x2.2) Qfl Y 1 (Zz Y)
 ·exact oi [1] fun Y=>Qa5 (n:=((QaM s n (Qaw s)).lines).length) Qds (Y.rd 0 rfl) (by simp) rfl (Zz Y)
 ·exact oi [2] fun Y=>QaT rfl rfl (Zz Y)
 ·exact oi [3] fun Y=>Qaf (.bool (decide (((((QaM s n (Qaw s)).lines).length:Nat):Int)=0))) (Zz Y)
 ·exact ogi [4] fun hG Y=>Qac Qdv rfl (Zz Y)
 ·exact oyi [4,5] [5] fun hG Y=>QaN (.bool ((QaM s n (Qaw s)).out)) QlF Y 1 (Zz Y)
 ·exact oi [4,6] fun Y=>QbP (h':=(QaM s n (Qaw s)).out) rfl rfl rfl (Zz Y)
 ·exact oi [7] fun Y=>Qaf (.bool ((decide (((((QaM s n (Qaw s)).lines).length:Nat):Int)=0))||((QaM s n (Qaw s)).out))) (Zz Y)
 ·exact ogi [8] fun hG Y=>Qac Qeu rfl (Zz Y)
 ·exact oyi [8,9] [9] fun hG Y=>QaN (.int .u32 ((QaM s n (Qaw s)).tick)) QaU Y 1 (Zz Y)
 ·exact ogi [8] fun hG Y=>Qnm (V:=.int .u32 now) QaU (hcn.own' Y) rfl rfl (Zz Y)
 ·exact ogi [8] fun hG Y=>Qnm (V:=.int .u32 idle) QaU (hci.own' Y) rfl rfl (Zz Y)
 ·exact oyi [8,11,12] [11,12] fun hG Y=>Qbb (a:=now) (b:=idle) (c:=now-idle) rfl rfl (QeX (by omega) (by omega)) (Zz Y)
 ·exact oyi [8,10,13] [10,13] fun hG Y=>Qca rfl rfl (Zz Y)
 ·exact oi [8,14] fun Y=>QbP (h':=decide (now-idle<(QaM s n (Qaw s)).tick)) rfl rfl rfl (Zz Y)
 ·exact oi [15] fun Y=>Qam (.bool (((decide (((((QaM s n (Qaw s)).lines).length:Nat):Int)=0))||((QaM s n (Qaw s)).out))||(decide (now-idle<(QaM s n (Qaw s)).tick)))) (Zz Y)
 rintro J1 w6 J2 hJ Y
 replace hJ:J2=upd (mix (sq 10 16++[5]) J1 _) 5 (.bool (((decide (((((QaM s n (Qaw s)).lines).length:Nat):Int)=0))||((QaM s n (Qaw s)).out))||(decide (now-idle<(QaM s n (Qaw s)).tick)))):=hJ
 subst hJ
 refine Qav ?_
 refine ⟨_,Qan (V:=.bool (((decide (((((QaM s n (Qaw s)).lines).length:Nat):Int)=0))||((QaM s n (Qaw s)).out))||(decide (now-idle<(QaM s n (Qaw s)).tick)))) results68 rfl,(Zr Y ?_)⟩
 rfl
end Tt
end Go.Proofs
namespace Go.Proofs
open Go Go.Vx Go.RowKit
open Tryz
namespace Tt
theorem Qwu (w:World) (p:Pst) (a1:Option Addr) (c1:Nat) (a2:Option Addr) (c2:Nat) (a3:Option Addr) (c3:Nat) (cut:Vec) (hcut:QbH cut) (now idle:Int) (hb2:(0<=now/\now<4294967296)/\0<=idle) (hsortE:Qhn prog 48 49 cec 106 7 Qlk) (hsortU:Qg2 prog 134 .u16 32) (hok:Qee p) (hle:p.base.ents.length<=400) (hlt:p.base.ticks.length<=400) (hlo:p.ops.length<=400) (hr1:Rd w (.slice a1 p.base.ents.length c1) 7 (p.base.ents.map cec)) (hr2:Rd w (.slice a2 p.base.ticks.length c2) 2 (p.base.ticks.map lsc)) (hr3:Rd w (.slice a3 p.ops.length c3) 23 (p.ops.map oc)):Calls prog 25 #[.agg (((vc p.base.known)++[(.slice a1 p.base.ents.length c1:Value),(.slice a2 p.base.ticks.length c2:Value) ])++[(.slice a3 p.ops.length c3:Value) ]++(vc p.known)).toArray,.agg (vc cut).toArray,.int .u32 now,.int .u32 idle] w (fun e w'=>∃ x:Option Addr × Nat,e = .returned (.tuple #[.slice x.1 (abR p cut now idle).length x.2,.int .i64 (abI p cut now idle)])/\Own w no w' [row (.slice x.1 (abR p cut now idle).length x.2) ((abR p cut now idle).map (ic .u16)) 32 1]/\True):=by
 refine Qah (n:=30) func25 rfl ntmps25 rfl ?_
 have Y:=Own.start w
 have ⟨hokb,hoko,hokk⟩:=hok
 have hsl:=Qd5 p cut
 have hso:=QfE (cut:=cut) hok hcut
 have hcl:=Qji (Qag p cut)
 refine Qae (Qab (Qaa (QaY (V:=.agg (((vc p.base.known)++[(.slice a1 p.base.ents.length c1:Value),(.slice a2 p.base.ticks.length c2:Value) ])++[(.slice a3 p.ops.length c3:Value) ]++(vc p.known)).toArray) (cs:=((vc p.base.known)++[(.slice a1 p.base.ents.length c1:Value),(.slice a2 p.base.ticks.length c2:Value) ])++[(.slice a3 p.ops.length c3:Value) ]++(vc p.known)) rfl rfl Y fun b1 w2 Y=>(Qaa (QaY (V:=.agg (vc cut).toArray) (cs:=vc cut) rfl rfl Y fun b3 w4 Y=>(Qaa (QaY (V:=.int .u32 now) (cs:=[.int .u32 now]) rfl rfl Y fun b5 w6 Y=>(Qaa (QaY (V:=.int .u32 idle) (cs:=[.int .u32 idle]) rfl rfl Y fun b7 w8 Y=>?_)))))))))
 replace Y:=Ow [blk b1 (((vc p.base.known)++[(.slice a1 p.base.ents.length c1:Value),(.slice a2 p.base.ticks.length c2:Value) ])++[(.slice a3 p.ops.length c3:Value) ]++(vc p.known)) 43,blk b3 (vc cut) 24,blk b5 [.int .u32 now] 22,blk b7 [.int .u32 idle] 22] Y
 refine Qaa (Qam (.slice none 0 0) (Qaa (Qam (I6 0) (Qad (Qae (Qab (Qaa (QaK (cs:=((vc p.base.known)++[(.slice a1 p.base.ents.length c1:Value),(.slice a2 p.base.ticks.length c2:Value) ])++[(.slice a3 p.ops.length c3:Value) ]++(vc p.known)) QdB Y 0 rfl rfl rfl (Qaa (QaK (cs:=vc cut) QbC Y 1 rfl rfl rfl (Qaa (Qbr (α:=(Option Addr × Nat) × (Option Addr × Nat)) (vs:=[.agg (((vc p.base.known)++[(.slice a1 p.base.ents.length c1:Value),(.slice a2 p.base.ticks.length c2:Value) ])++[(.slice a3 p.ops.length c3:Value) ]++(vc p.known)).toArray,.agg (vc cut).toArray]) (V:=fun x:(Option Addr × Nat) × (Option Addr × Nat)=>.tuple #[.agg (vc (Qag p cut).known++[(.slice x.1.1 ((Qag p cut).ents).length x.1.2:Value),(.slice x.2.1 ((Qag p cut).ticks).length x.2.2:Value)]).toArray,I6 (Qbu p cut)]) (Lo:=fun x=>[row (.slice x.1.1 ((Qag p cut).ents).length x.1.2) (((Qag p cut).ents).map cec) 106 7,row (.slice x.2.1 ((Qag p cut).ticks).length x.2.2) (((Qag p cut).ticks).map lsc) 102 2]) (F:=fun _ _=>True) Qnr rfl rfl ?hc Y fun x10 w9 Y _=>?_))))))))))))
 case hc=>exact (Qek _ p a1 c1 a2 c2 a3 c3 cut hcut hsortE hsortU hok hle hlt hlo (Rd.own' hr1 Y) (Rd.own' hr2 Y) (Rd.own' hr3 Y))
 refine Qaa (Qaf (.tuple #[.agg ((vc ((Qag p cut).known))++[(.slice x10.1.1 (((Qag p cut).ents).length) x10.1.2:Value),(.slice x10.2.1 (((Qag p cut).ticks).length) x10.2.2:Value) ]).toArray,I6 (Qbu p cut)]) (Qaa (QaC (V:=.agg ((vc ((Qag p cut).known))++[(.slice x10.1.1 (((Qag p cut).ents).length) x10.1.2:Value),(.slice x10.2.1 (((Qag p cut).ticks).length) x10.2.2:Value) ]).toArray) rfl rfl (Qaa (QaC (V:=I6 (Qbu p cut)) rfl rfl (Qaa (QaJ (cs:=(vc vzero)++[(.slice none 0 0:Value),(.slice none 0 0:Value) ]) Qgg rfl Y fun b11 w12 Y=>(Qaa (Qcz (V:=.agg ((vc ((Qag p cut).known))++[(.slice x10.1.1 (((Qag p cut).ents).length) x10.1.2:Value),(.slice x10.2.1 (((Qag p cut).ticks).length) x10.2.2:Value) ]).toArray) (vs:=(vc ((Qag p cut).known))++[(.slice x10.1.1 (((Qag p cut).ents).length) x10.1.2:Value),(.slice x10.2.1 (((Qag p cut).ticks).length) x10.2.2:Value) ]) (cs':=(vc ((Qag p cut).known))++[(.slice x10.1.1 (((Qag p cut).ents).length) x10.1.2:Value),(.slice x10.2.1 (((Qag p cut).ticks).length) x10.2.2:Value) ]) Qb4.1 Y 6 rfl rfl rfl rfl rfl (QQ8 rfl) (Qbq (Qb0 _) (Qat rfl (Qat rfl Qa2))) (Qaz rfl) fun w13 Y=>(Qaa (Qam (I6 (Qbu p cut)) (Qad (Qae (Qal (Qae (Qab (Qaa (Qaf (I6 (Qbu p cut)) (Qaa (Qck rfl rfl (Qaa (Qam (.bool (!decide (Qbu p cut=0))) (Qad (Qak (t:=!decide (Qbu p cut=0)) rfl (fun c14=>?_) (fun c14=>?_)))))))))))))))))))))))))
 ·
  replace c14:=QbE c14
  replace c14:=QQ2 c14
  refine Qae (Qab (Qaa (Qaf (I6 (Qbu p cut)) (Qaa (Qam (.slice none 0 0) (Qaa (Qam (I6 (Qbu p cut)) (Qad (Qav ?_)))))))))
  refine ⟨_,QbO (U:=.slice none 0 0) (V:=I6 (Qbu p cut)) results25 rfl rfl,?_⟩
  have hX:abI p cut now idle=Qbu p cut:=QwL c14
  rw [QvZ (by rw [hX];exact c14),hX]
  exact ⟨(none,0),rfl,(Y.take 0).more _ (Qbi _ _ _ _),trivial⟩
 replace c14:=Qbd c14
 replace c14:=QQ1 c14
 refine Qae (Qab (Qaa (QaN (.int .u32 idle) QaU Y 3 (Qaa (QaN (.int .u32 now) QaU Y 2 (Qaa (Qca rfl rfl (Qaa (Qam (.bool (decide (now<idle))) (Qad (Qak (t:=decide (now<idle)) rfl (fun c15=>?_) (fun c15=>?_))))))))))))
 ·
  replace c15:=QQ1 c15
  refine Qae (Qab (Qaa (Qam (.slice none 0 0) (Qaa (Qam (I6 2) (Qad (Qav ?_)))))))
  refine ⟨_,QbO (U:=.slice none 0 0) (V:=I6 2) results25 rfl rfl,?_⟩
  have hX:abI p cut now idle=2:=Qxg c14 c15
  rw [QvZ (by rw [hX];decide),hX]
  exact ⟨(none,0),rfl,(Y.take 0).more _ (Qbi _ _ _ _),trivial⟩
 replace c15:=QQ2 c15
 refine Qap (Qae ?_)
 have hnow:0<=idle/\idle<=now/\now<4294967296:=by omega
 refine Qab (Qaa (QaK (cs:=(vc ((Qag p cut).known))++[(.slice x10.1.1 (((Qag p cut).ents).length) x10.1.2:Value),(.slice x10.2.1 (((Qag p cut).ticks).length) x10.2.2:Value) ]) Qb4 Y 6 rfl rfl rfl (Qaa (Qbr (vs:=[.agg ((vc ((Qag p cut).known))++[(.slice x10.1.1 (((Qag p cut).ents).length) x10.1.2:Value),(.slice x10.2.1 (((Qag p cut).ticks).length) x10.2.2:Value) ]).toArray]) (V:=fun x:Option Addr × Nat=>.slice x.1 (QaD (Qag p cut)).length x.2) Qv1 rfl rfl (Qjr _ (Qag p cut) x10.1.1 x10.1.2 x10.2.1 x10.2.2 hso (by omega) (by omega) (Y.rd 4 rfl) (Y.rd 5 rfl)) Y fun x16 w17 Y _=>?_))))
 replace Y:=Ow [blk b1 (((vc p.base.known)++[(.slice a1 p.base.ents.length c1:Value),(.slice a2 p.base.ticks.length c2:Value) ])++[(.slice a3 p.ops.length c3:Value) ]++(vc p.known)) 43,blk b3 (vc cut) 24,blk b5 [.int .u32 now] 22,blk b7 [.int .u32 idle] 22,row (.slice x10.1.1 (((Qag p cut).ents).length) x10.1.2) (((Qag p cut).ents).map cec) 106 7,row (.slice x10.2.1 (((Qag p cut).ticks).length) x10.2.2) (((Qag p cut).ticks).map lsc) 102 2,blk b11 ((vc ((Qag p cut).known))++[(.slice x10.1.1 (((Qag p cut).ents).length) x10.1.2:Value),(.slice x10.2.1 (((Qag p cut).ticks).length) x10.2.2:Value) ]) 38,row (.slice x16.1 ((QaD (Qag p cut)).length) x16.2) ((QaD (Qag p cut)).map (ic .u16)) 32 1] Y
 refine Qaa (QcL (cs:=[Pq b11 0,Pq b5 0,Pq b7 0]) rfl rfl (Qaa (Qj6 (α:=Unit) (vs:=[.slice x16.1 ((QaD (Qag p cut)).length) x16.2,.func (.func 68) #[] #[Pq b11 0,Pq b5 0,Pq b7 0]]) (V:=fun _=>.slice x16.1 ((QaD (Qag p cut)).filter fun x=>!(fun n=>Qhj (Qbc p cut n) now idle) x).length x16.2) (R:=row (.slice x16.1 ((QaD (Qag p cut)).length) x16.2) ((QaD (Qag p cut)).map (ic .u16)) 32 1) (R':=fun _=>row (.slice x16.1 ((QaD (Qag p cut)).filter fun x=>!(fun n=>Qhj (Qbc p cut n) now idle) x).length x16.2) (((QaD (Qag p cut)).filter fun x=>!(fun n=>Qhj (Qbc p cut n) now idle) x).map (ic .u16)) 32 1) (Lo:=fun _=>[]) (F:=fun _ _=>True) QxI rfl rfl Y 7 rfl (fun S hS hlS hK=>Qq1 _ S x16.1 x16.2 (QaD (Qag p cut)) 68 [Pq b11 0,Pq b5 0,Pq b7 0] Qxd (fun n=>Qhj (Qbc p cut n) now idle) (fun w1 L1 h x hx=>Qu6 w1 x b11 b5 b7 (Qag p cut) x10.1.1 x10.1.2 x10.2.1 x10.2.2 now idle hnow hso (by omega) (by omega) ((hK 6 (by decide) _ rfl).cells h) ((hK 2 (by decide) _ rfl).cells h) ((hK 3 (by decide) _ rfl).cells h) ((hK 4 (by decide) _ rfl).rd h) ((hK 5 (by decide) _ rfl).rd h)) hS hlS) fun _ w18 Y _=>(Qaa (Qam (.slice x16.1 (((QaD (Qag p cut)).filter fun x=>!(fun n=>Qhj (Qbc p cut n) now idle) x).length) x16.2) (Qaa (Qam (I6 0) (Qad (Qav ?_)))))))))
 refine ⟨_,QbO (U:=.slice x16.1 (((QaD (Qag p cut)).filter fun x=>!(fun n=>Qhj (Qbc p cut n) now idle) x).length) x16.2) (V:=I6 0) results25 rfl rfl,?_⟩
 have hX:abI p cut now idle=0:=Quo c14 c15
 rw [QrV hX,hX]
 exact ⟨(x16.1,x16.2),rfl,Y.only 7 rfl,trivial⟩
end Tt
end Go.Proofs
