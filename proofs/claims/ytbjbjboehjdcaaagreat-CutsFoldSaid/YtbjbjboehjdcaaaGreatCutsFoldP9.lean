/- A part of a proof: what functions of the program compute, and plain facts on that. -/
import Derived.Test.YtbjbjboehjdcaaaGreatCutsFoldP8
set_option linter.unusedVariables false
set_option linter.unusedSimpArgs false
set_option maxHeartbeats 4000000
set_option maxRecDepth 100000
namespace Go.Proofs
open Go Go.Vx Go.RowKit
open Go.Sort (ltInt medianAdjacent order2 partition)
open Tryz
namespace Tt
section
variable {p:Int->Bool} {b:Bool} {i j:Nat} {d:Array Int}
theorem QnH (hb:b=p d[i]!) (h:(i:Int)<=(j:Int)) (h2:b=true):Sort.scanUp p d j i=Sort.scanUp p d j (i+1):=by
 rw [Sort.scanUp,if_pos]
 rw [← hb,h2,Bool.and_true];exact QQ3 (by omega)
theorem Qs0 (hb:b=p d[i]!) (h:(decide ((i:Int)<=(j:Int))&&b)=false):Sort.scanUp p d j i=i:=by
 rw [Sort.scanUp,if_neg]
 rw [← hb]
 intro h2
 rw [Bool.and_eq_true,decide_eq_true_iff] at h2
 rw [h2.2,Bool.and_true,decide_eq_false_iff_not] at h
 exact h (by omega)
theorem Qm2 (h0:1<=j) (hb:b=p d[j]!) (h:(i:Int)<=(j:Int)) (h2:b=true):Sort.scanDown p d i j=Sort.scanDown p d i (j-1):=by
 obtain ⟨k,rfl⟩:∃ k,j=k+1:=⟨j-1,by omega⟩
 rw [Sort.scanDown,if_pos]
 ·rfl
 rw [← hb,h2,Bool.and_true];exact QQ3 (by omega)
theorem Qth (hb:b=p d[j]!) (h:(decide ((i:Int)<=(j:Int))&&b)=false):Sort.scanDown p d i j=j:=by
 cases j with
 | zero=>rfl
 | succ k =>
  rw [Sort.scanDown,if_neg]
  rw [← hb]
  intro h2
  rw [Bool.and_eq_true,decide_eq_true_iff] at h2
  rw [h2.2,Bool.and_true,decide_eq_false_iff_not] at h
  exact h (by omega)
theorem Qsu {lo i2 j2:Nat} (hi:i2=Sort.scanUp (fun x=>!ltInt d[lo]! x) d j i) (hj:j2=Sort.scanDown (fun x=>ltInt d[lo]! x) d i2 j) (h:(j2:Int)<(i2:Int)):Sort.partEqLoop ltInt lo i j d=(i2,d):=by
 rw [Sort.partEqLoop_eq,← hi,← hj,if_pos (by omega)]
theorem QxN {lo i2 j2:Nat} (hi:i2=Sort.scanUp (fun x=>!ltInt d[lo]! x) d j i) (hj:j2=Sort.scanDown (fun x=>ltInt d[lo]! x) d i2 j) (h:¬(j2:Int)<(i2:Int)):Sort.partEqLoop ltInt lo i j d=Sort.partEqLoop ltInt lo (i2+1) (j2-1) (Sort.swp d i2 j2):=by
 rw [Sort.partEqLoop_eq,← hi,← hj,if_neg (by omega)]
theorem QsZ {lo i2 j2:Nat} (hi:i2=Sort.scanUp (fun x=>ltInt x d[lo]!) d j i) (hj:j2=Sort.scanDown (fun x=>!ltInt x d[lo]!) d i2 j) (h:(j2:Int)<(i2:Int)):Sort.partLoop ltInt lo i j d=(j2,d):=by
 rw [Sort.partLoop_eq,← hi,← hj,if_pos (by omega)]
theorem QxF {lo i2 j2:Nat} (hi:i2=Sort.scanUp (fun x=>ltInt x d[lo]!) d j i) (hj:j2=Sort.scanDown (fun x=>!ltInt x d[lo]!) d i2 j) (h:¬(j2:Int)<(i2:Int)):Sort.partLoop ltInt lo i j d=Sort.partLoop ltInt lo (i2+1) (j2-1) (Sort.swp d i2 j2):=by
 rw [Sort.partLoop_eq,← hi,← hj,if_neg (by omega)]
theorem Qs1 {lo hi pvx i2 j2:Nat} {D:Array Int} (hD:D=Sort.swp d lo pvx) (h1:i2=Sort.scanUp (fun x=>ltInt x D[lo]!) D (hi-1) (lo+1)) (h2:j2=Sort.scanDown (fun x=>!ltInt x D[lo]!) D i2 (hi-1)) (h:(j2:Int)<(i2:Int)):partition ltInt d lo hi pvx=(j2,true,Sort.swp D j2 lo):=by
 subst hD;unfold partition;dsimp only;rw [← h1,← h2,if_pos (by omega)]
theorem Qxb {lo hi pvx i2 j2:Nat} {D:Array Int} (hD:D=Sort.swp d lo pvx) (h1:i2=Sort.scanUp (fun x=>ltInt x D[lo]!) D (hi-1) (lo+1)) (h2:j2=Sort.scanDown (fun x=>!ltInt x D[lo]!) D i2 (hi-1)) (h:¬(j2:Int)<(i2:Int)):partition ltInt d lo hi pvx=((Sort.partLoop ltInt lo (i2+1) (j2-1) (Sort.swp D i2 j2)).1,false,Sort.swp (Sort.partLoop ltInt lo (i2+1) (j2-1) (Sort.swp D i2 j2)).2 (Sort.partLoop ltInt lo (i2+1) (j2-1) (Sort.swp D i2 j2)).1 lo):=by
 subst hD;unfold partition;dsimp only;rw [← h1,← h2,if_neg (by omega)]
end
theorem QwP (w:World) (S:Nat->Prop) (a:Option Addr) (N c:Nat) (d:Array Int) (hsz:d.size=N) (hN:N<=2305843009213693951) (lo hi pvx:Nat) (h1:lo<=pvx) (h2:pvx<hi) (h3:hi<=N) (hR:(row (.slice a N c) (d.toList.map (ic .u16)) 32 1).holds w S) (hlt:∀ x,S x->x<w.heap.size):Calls prog 179 #[.slice a N c,.int .i64 (lo:Int),.int .i64 (hi:Int),.int .i64 (pvx:Int)] w (fun e w'=>∃ _u:Unit,e = .returned (.int .i64 (((Sort.partitionEqual ltInt d lo hi pvx).1:Nat):Int))/\Own w S w' [row (.slice a N c) (((Sort.partitionEqual ltInt d lo hi pvx).2).toList.map (ic .u16)) 32 1]/\(Sort.partitionEqual ltInt d lo hi pvx).2.size=N):=by
 refine Qah (n:=84) func179 rfl ntmps179 rfl ?_
 have Y:=Own.lent hR hlt
 refine Qae (Qab (Qaa (Qam (I6 0) (Qad (Qae (QaH HM (so 11 13++[none,some 24,none]) [] [0,0,0,0,0,0,48,112,0,0,768,1792,4083,8179,16383,32767] [pv (.slice a N c),pv (I6 (lo:Int)),pv (.slice a N c),pv (I6 (pvx:Int)),pv (.slice a N c),pv (I6 (pvx:Int)),pv (.pointer (some ⟨bkS (.slice a N c),ofS (.slice a N c)+(pvx:Int).toNat*1,none⟩)),pv (I7 (d[pvx]!)),pv (.slice a N c),pv (I6 (lo:Int)),pv (.pointer (some ⟨bkS (.slice a N c),ofS (.slice a N c)+(lo:Int).toNat*1,none⟩)),pv (I7 (d[lo]!)),pv (.pointer (some ⟨bkS (.slice a N c),ofS (.slice a N c)+(lo:Int).toNat*1,none⟩)),pn,pv (.pointer (some ⟨bkS (.slice a N c),ofS (.slice a N c)+(pvx:Int).toNat*1,none⟩)),pn] (fun D J=>[cond (D 15) (row (.slice a N c) ((((d.setIfInBounds lo (d[pvx]!)).setIfInBounds pvx (d[lo]!)).toList).map (ic .u16)) 32 1) (cond (D 13) (row (.slice a N c) (((d.setIfInBounds lo (d[pvx]!)).toList).map (ic .u16)) 32 1) (row (.slice a N c) (d.toList.map (ic .u16)) 32 1))]) [] (by kernel_rfl) Y ⟨?_,?_,?_,?_,?_,?_,?_,?_,?_,?_,?_,?_,?_,?_,?_,?_,trivial⟩ ?_))))))
 ·exact oi [] fun Y=>Qaf (.slice a N c) (Zz Y)
 ·exact oi [] fun Y=>Qaf (.int .i64 (lo:Int)) (Zz Y)
 ·exact oi [] fun Y=>Qaf (.slice a N c) (Zz Y)
 ·exact oi [] fun Y=>Qaf (.int .i64 (pvx:Int)) (Zz Y)
 ·exact oi [] fun Y=>Qaf (.slice a N c) (Zz Y)
 ·exact oi [] fun Y=>Qaf (.int .i64 (pvx:Int)) (Zz Y)
 ·exact ob [4,5] [13,15] rfl rfl fun D J w Y=>Qax QaP Qar.1 (Y.rd 0 rfl) rfl rfl (by omega) (by simp only [QQ6,QQ9,QQ5,Go.Sort.size_swp];omega) (Zz Y)
 ·exact ob [6] [13,15] rfl rfl fun D J w Y=>QaV (j:=0) (V:=I7 (d[pvx]!)) pvx Qar (Y.rd 0 rfl) (QbA (by omega)) rfl rfl (by omega) (Zz Y)
 ·exact oi [] fun Y=>Qaf (.slice a N c) (Zz Y)
 ·exact oi [] fun Y=>Qaf (.int .i64 (lo:Int)) (Zz Y)
 ·exact ob [8,9] [13,15] rfl rfl fun D J w Y=>Qax QaP Qar.1 (Y.rd 0 rfl) rfl rfl (by omega) (by simp only [QQ6,QQ9,QQ5,Go.Sort.size_swp];omega) (Zz Y)
 ·exact ob [10] [13,15] rfl rfl fun D J w Y=>QaV (j:=0) (V:=I7 (d[lo]!)) lo Qar (Y.rd 0 rfl) (QbA (by omega)) rfl rfl (by omega) (Zz Y)
 ·exact ob [0,1] [13,15] rfl rfl fun D J w Y=>Qax QaP Qar.1 (Y.rd 0 rfl) rfl rfl (by omega) (by simp only [QQ6,QQ9,QQ5,Go.Sort.size_swp];omega) (Zz Y)
 ·exact ob [7,12] [15] rfl rfl fun D J w Y=>Qcv (z:=d[pvx]!) lo Qar Y 0 rfl rfl (by omega) (by first|omega|(simp only [QQ5,Go.Sort.size_swp];omega)) rfl rfl rfl fun _ Y=>⟨trivial,Y⟩
 ·exact ob [2,3,13] [15] rfl rfl fun D J w Y=>Qax QaP Qar.1 (Y.rd 0 rfl) rfl rfl (by omega) (by simp only [QQ6,QQ9,QQ5,Go.Sort.size_swp];omega) (Zz Y)
 ·exact oi [11,13,14] fun Y=>Qcv (z:=d[lo]!) pvx Qar Y 0 rfl rfl (by omega) (by first|omega|(simp only [QQ5,Go.Sort.size_swp];omega)) rfl rfl rfl fun _ Y=>⟨trivial,Y⟩
 rintro J1 w3 J2 hJ Y
 replace hJ:J2=mix (sq 11 14) J1 _:=hJ
 replace Y:Own w S w3 [row (.slice a N c) ((((d.setIfInBounds lo (d[pvx]!)).setIfInBounds pvx (d[lo]!)).toList).map (ic .u16)) 32 1]:=Y
 subst hJ
 refine Qae (Qab (Qaa (Qaf (I6 (lo:Int)) (Qaa (QaB (a:=(lo:Int)) (b:=1) (c:=((lo+1:Nat):Int)) rfl rfl (Qaj (by omega) (by omega)) (Qaa (Qaf (I6 (hi:Int)) (Qaa (Qbb (a:=(hi:Int)) (b:=1) (c:=((hi-1:Nat):Int)) rfl rfl (Qaj (by omega) (by omega)) (Qaa (Qam (I6 ((lo+1:Nat):Int)) (Qaa (Qam (I6 ((hi-1:Nat):Int)) (Qad (Qae (Qal (QaE (fun J μ J' w'=>∃ (Jo:Env) (i:Nat) (j:Nat) (d1:Array Int),J'=upd (upd (mix ([9,10]++sq 29 54) Jo J) 9 (I6 (i:Int))) 10 (I6 (j:Int))/\(lo+1<=i)/\(i<=hi+1)/\(j<hi)/\(d1.size=N)/\(Sort.partEqLoop ltInt lo i j d1=Sort.partitionEqual ltInt d lo hi pvx)/\μ=j+1-i/\Own w S w' [row (.slice a N c) (d1.toList.map (ic .u16)) 32 1]) ?_ ?_)))))))))))))))))
 ·exact ⟨_,_,lo+1,hi-1,(Sort.swp d lo pvx),Qai (Qai (Qao (ds:=([9,10]++sq 29 54)) (Agr.refl _ _)) rfl) rfl,(Nat.le_refl _),(by omega),(by omega),(by rw [Go.Sort.size_swp];exact hsz),rfl,rfl,Y⟩
 rintro μ J' w4 ⟨Jo,i,j,d1,rfl,hi0,hi1,hj,hz1,hev,rfl,Y⟩
 refine Qal (Qae (Qal (QaE (fun J μ J' w'=>∃ (Jo:Env) (i2:Nat),J'=upd (mix ([9]++sq 29 17) Jo J) 9 (I6 (i2:Int))/\(i<=i2)/\(i2<=hi+1)/\(Sort.scanUp (fun x=>!ltInt d1[lo]! x) d1 (j) i2=Sort.scanUp (fun x=>!ltInt d1[lo]! x) d1 (j) (i))/\μ=j+1-i2/\Own w S w' [row (.slice a N c) (d1.toList.map (ic .u16)) 32 1]) ?_ ?_)))
 ·exact ⟨_,_,i,Qai (Qao (ds:=([9]++sq 29 17)) (Agr.refl _ _)) rfl,(Nat.le_refl _),(by omega),rfl,rfl,Y⟩
 rintro μ J' w5 ⟨Jo,i2,rfl,hi2a,hi2b,hsu,rfl,Y⟩
 refine Qae (Qae (QaH HM (so 29 15) [] [0,0,3,7,15,15,63,127,15,15,783,1807,4095,8191,16383] [pv (I6 (i2:Int)),pv (I6 (j:Int)),pv (.bool (decide ((i2:Int)<=(j:Int)))),pv (.bool (decide ((i2:Int)<=(j:Int)))),pg ((decide ((i2:Int)<=(j:Int))) == true) (.slice a N c),pg ((decide ((i2:Int)<=(j:Int))) == true) (I6 (lo:Int)),pg ((decide ((i2:Int)<=(j:Int))) == true) (.pointer (some ⟨bkS (.slice a N c),ofS (.slice a N c)+(lo:Int).toNat*1,none⟩)),pg ((decide ((i2:Int)<=(j:Int))) == true) (I7 (d1[lo]!)),pg ((decide ((i2:Int)<=(j:Int))) == true) (.slice a N c),pg ((decide ((i2:Int)<=(j:Int))) == true) (I6 (i2:Int)),pg ((decide ((i2:Int)<=(j:Int))) == true) (.pointer (some ⟨bkS (.slice a N c),ofS (.slice a N c)+(i2:Int).toNat*1,none⟩)),pg ((decide ((i2:Int)<=(j:Int))) == true) (I7 (d1[i2]!)),pg ((decide ((i2:Int)<=(j:Int))) == true) (.bool (decide (d1[lo]!<d1[i2]!))),pg ((decide ((i2:Int)<=(j:Int))) == true) (.bool (!decide (d1[lo]!<d1[i2]!))),pv (.bool ((decide ((i2:Int)<=(j:Int)))&&(!decide (d1[lo]!<d1[i2]!))))] (fun _ _=>_) [14] (by kernel_rfl) Y ⟨?_,?_,?_,?_,?_,?_,?_,?_,?_,?_,?_,?_,?_,?_,?_,trivial⟩ ?_))
 ·exact oi [] fun Y=>Qaf (.int .i64 (i2:Int)) (Zz Y)
 ·exact oi [] fun Y=>Qaf (.int .i64 (j:Int)) (Zz Y)
 ·exact oi [0,1] fun Y=>Qew rfl rfl (Zz Y)
 ·exact oi [2] fun Y=>Qaf (.bool (decide ((i2:Int)<=(j:Int)))) (Zz Y)
 ·refine ogi [3] fun hG Y=>?_
  have hgd:=QQ1 (eq_of_beq hG)
  exact Qaf (.slice a N c) (Zz Y)
 ·refine ogi [3] fun hG Y=>?_
  have hgd:=QQ1 (eq_of_beq hG)
  exact Qaf (.int .i64 (lo:Int)) (Zz Y)
 ·refine oyi [3,4,5] [4,5] fun hG Y=>?_
  have hgd:=QQ1 (eq_of_beq hG)
  exact Qax QaP Qar.1 (Y.rd 0 rfl) rfl rfl (by omega) (by simp only [QQ6,QQ9,QQ5,Go.Sort.size_swp];omega) (Zz Y)
 ·refine oyi [3,6] [6] fun hG Y=>?_
  have hgd:=QQ1 (eq_of_beq hG)
  exact QaV (j:=0) (V:=.int .u16 (d1[lo]!)) lo Qar (Y.rd 0 rfl) (QbA (by omega)) rfl rfl (by omega) (Zz Y)
 ·refine ogi [3] fun hG Y=>?_
  have hgd:=QQ1 (eq_of_beq hG)
  exact Qaf (.slice a N c) (Zz Y)
 ·refine ogi [3] fun hG Y=>?_
  have hgd:=QQ1 (eq_of_beq hG)
  exact Qaf (.int .i64 (i2:Int)) (Zz Y)
 ·refine oyi [3,8,9] [8,9] fun hG Y=>?_
  have hgd:=QQ1 (eq_of_beq hG)
  exact Qax QaP Qar.1 (Y.rd 0 rfl) rfl rfl (by omega) (by simp only [QQ6,QQ9,QQ5,Go.Sort.size_swp];omega) (Zz Y)
 ·refine oyi [3,10] [10] fun hG Y=>?_
  have hgd:=QQ1 (eq_of_beq hG)
  exact QaV (j:=0) (V:=.int .u16 (d1[i2]!)) i2 Qar (Y.rd 0 rfl) (QbA (by omega)) rfl rfl (by omega) (Zz Y)
 ·refine oyi [3,7,11] [7,11] fun hG Y=>?_
  have hgd:=QQ1 (eq_of_beq hG)
  exact Qas (vs:=[.int .u16 (d1[lo]!),.int .u16 (d1[i2]!)]) (V:=.bool (decide (d1[lo]!<d1[i2]!))) Qdr rfl rfl (QcF _ (d1[lo]!) (d1[i2]!)) Y fun _ Y=>Zz Y
 ·refine oyi [3,12] [12] fun hG Y=>?_
  have hgd:=QQ1 (eq_of_beq hG)
  exact QbB rfl (Zz Y)
 ·exact oi [3,13] fun Y=>Qbg (h':=!decide (d1[lo]!<d1[i2]!)) rfl rfl rfl (Zz Y)
 rintro J1 w7 J2 hJ Y
 replace hJ:J2=upd (mix (sq 29 15) J1 _) 43 (.bool ((decide ((i2:Int)<=(j:Int)))&&(!decide (d1[lo]!<d1[i2]!)))):=hJ
 subst hJ
 refine Qak (t:=(decide ((i2:Int)<=(j:Int)))&&(!decide (d1[lo]!<d1[i2]!))) rfl (fun c8=>?_) (fun c8=>?_)
 ·
  have c8r:=Qcl c8
  replace c8:=QbZ c8
  replace c8:=QQ1 c8
  replace c8r:=QbE c8r
  replace c8r:=QQ2 c8r
  refine Qap (Qal (Qab (Qaa (Qaf (I6 (i2:Int)) (Qaa (QaB (a:=(i2:Int)) (b:=1) (c:=((i2+1:Nat):Int)) rfl rfl (Qaj (by omega) (by omega)) (Qaa (Qam (I6 ((i2+1:Nat):Int)) (Qad ?_)))))))))
  refine ⟨_,?_,_,i2+1,Qai (Qao (ds:=([9]++sq 29 17)) (by repeat (first|exact Agr.refl _ _|refine Agr.upd ?_ rfl|refine Agr.mix ?_ rfl))) rfl,(by omega),(by omega),(by rw [← hsu,QnH (p:=fun x=>!ltInt d1[lo]! x) (b:=!decide (d1[lo]!<d1[i2]!)) rfl c8 (by rw [QQ4 c8r];rfl)]),rfl,Y.take 1⟩
  omega
 refine QaI (Qae (Qal ?_))
 have hi2:i2=Sort.scanUp (fun x=>!ltInt d1[lo]! x) d1 j i:=by rw [← hsu,Qs0 (p:=fun x=>!ltInt d1[lo]! x) (b:=!decide (d1[lo]!<d1[i2]!)) rfl c8]
 refine QaE (fun J μ J' w'=>∃ (Jo:Env) (j2:Nat),J'=upd (mix ([10]++sq 46 16) Jo J) 10 (I6 (j2:Int))/\(j2<=j)/\(Sort.scanDown (fun x=>ltInt d1[lo]! x) d1 i2 j2=Sort.scanDown (fun x=>ltInt d1[lo]! x) d1 i2 (j))/\μ=2*j2/\Own w S w' [row (.slice a N c) (d1.toList.map (ic .u16)) 32 1]) ?_ ?_
 ·exact ⟨_,_,j,Qai (Qao (ds:=([10]++sq 46 16)) (Agr.refl _ _)) rfl,(Nat.le_refl _),rfl,rfl,Y⟩
 rintro μ J' w9 ⟨Jo,j2,rfl,hj2b,hsd,rfl,Y⟩
 refine Qae (Qae (QaH HM (so 46 14) [] [0,0,3,7,15,15,63,127,15,15,783,1807,4095,8191] [pv (I6 (i2:Int)),pv (I6 (j2:Int)),pv (.bool (decide ((i2:Int)<=(j2:Int)))),pv (.bool (decide ((i2:Int)<=(j2:Int)))),pg ((decide ((i2:Int)<=(j2:Int))) == true) (.slice a N c),pg ((decide ((i2:Int)<=(j2:Int))) == true) (I6 (lo:Int)),pg ((decide ((i2:Int)<=(j2:Int))) == true) (.pointer (some ⟨bkS (.slice a N c),ofS (.slice a N c)+(lo:Int).toNat*1,none⟩)),pg ((decide ((i2:Int)<=(j2:Int))) == true) (I7 (d1[lo]!)),pg ((decide ((i2:Int)<=(j2:Int))) == true) (.slice a N c),pg ((decide ((i2:Int)<=(j2:Int))) == true) (I6 (j2:Int)),pg ((decide ((i2:Int)<=(j2:Int))) == true) (.pointer (some ⟨bkS (.slice a N c),ofS (.slice a N c)+(j2:Int).toNat*1,none⟩)),pg ((decide ((i2:Int)<=(j2:Int))) == true) (I7 (d1[j2]!)),pg ((decide ((i2:Int)<=(j2:Int))) == true) (.bool (decide (d1[lo]!<d1[j2]!))),pv (.bool ((decide ((i2:Int)<=(j2:Int)))&&(decide (d1[lo]!<d1[j2]!))))] (fun _ _=>_) [13] (by kernel_rfl) Y ⟨?_,?_,?_,?_,?_,?_,?_,?_,?_,?_,?_,?_,?_,?_,trivial⟩ ?_))
 ·exact oi [] fun Y=>Qaf (.int .i64 (i2:Int)) (Zz Y)
 ·exact oi [] fun Y=>Qaf (.int .i64 (j2:Int)) (Zz Y)
 ·exact oi [0,1] fun Y=>Qew rfl rfl (Zz Y)
 ·exact oi [2] fun Y=>Qaf (.bool (decide ((i2:Int)<=(j2:Int)))) (Zz Y)
 ·refine ogi [3] fun hG Y=>?_
  have hgd:=QQ1 (eq_of_beq hG)
  exact Qaf (.slice a N c) (Zz Y)
 ·refine ogi [3] fun hG Y=>?_
  have hgd:=QQ1 (eq_of_beq hG)
  exact Qaf (.int .i64 (lo:Int)) (Zz Y)
 ·refine oyi [3,4,5] [4,5] fun hG Y=>?_
  have hgd:=QQ1 (eq_of_beq hG)
  exact Qax QaP Qar.1 (Y.rd 0 rfl) rfl rfl (by omega) (by simp only [QQ6,QQ9,QQ5,Go.Sort.size_swp];omega) (Zz Y)
 ·refine oyi [3,6] [6] fun hG Y=>?_
  have hgd:=QQ1 (eq_of_beq hG)
  exact QaV (j:=0) (V:=.int .u16 (d1[lo]!)) lo Qar (Y.rd 0 rfl) (QbA (by omega)) rfl rfl (by omega) (Zz Y)
 ·refine ogi [3] fun hG Y=>?_
  have hgd:=QQ1 (eq_of_beq hG)
  exact Qaf (.slice a N c) (Zz Y)
 ·refine ogi [3] fun hG Y=>?_
  have hgd:=QQ1 (eq_of_beq hG)
  exact Qaf (.int .i64 (j2:Int)) (Zz Y)
 ·refine oyi [3,8,9] [8,9] fun hG Y=>?_
  have hgd:=QQ1 (eq_of_beq hG)
  exact Qax QaP Qar.1 (Y.rd 0 rfl) rfl rfl (by omega) (by simp only [QQ6,QQ9,QQ5,Go.Sort.size_swp];omega) (Zz Y)
 ·refine oyi [3,10] [10] fun hG Y=>?_
  have hgd:=QQ1 (eq_of_beq hG)
  exact QaV (j:=0) (V:=.int .u16 (d1[j2]!)) j2 Qar (Y.rd 0 rfl) (QbA (by omega)) rfl rfl (by omega) (Zz Y)
 ·refine oyi [3,7,11] [7,11] fun hG Y=>?_
  have hgd:=QQ1 (eq_of_beq hG)
  exact Qas (vs:=[.int .u16 (d1[lo]!),.int .u16 (d1[j2]!)]) (V:=.bool (decide (d1[lo]!<d1[j2]!))) Qdr rfl rfl (QcF _ (d1[lo]!) (d1[j2]!)) Y fun _ Y=>Zz Y
 ·exact oi [3,12] fun Y=>Qbg (h':=decide (d1[lo]!<d1[j2]!)) rfl rfl rfl (Zz Y)
 rintro J1 w11 J2 hJ Y
 replace hJ:J2=upd (mix (sq 46 14) J1 _) 59 (.bool ((decide ((i2:Int)<=(j2:Int)))&&(decide (d1[lo]!<d1[j2]!)))):=hJ
 subst hJ
 refine Qak (t:=(decide ((i2:Int)<=(j2:Int)))&&(decide (d1[lo]!<d1[j2]!))) rfl (fun c12=>?_) (fun c12=>?_)
 ·
  have c12r:=Qcl c12
  replace c12:=QbZ c12
  replace c12:=QQ1 c12
  replace c12r:=QQ1 c12r
  refine Qap (Qal (Qab (Qaa (Qaf (I6 (j2:Int)) (Qaa (Qbb (a:=(j2:Int)) (b:=1) (c:=((j2-1:Nat):Int)) rfl rfl (Qaj (by omega) (by omega)) (Qaa (Qam (I6 ((j2-1:Nat):Int)) (Qad ?_)))))))))
  refine ⟨_,?_,_,j2-1,Qai (Qao (ds:=([10]++sq 46 16)) (by repeat (first|exact Agr.refl _ _|refine Agr.upd ?_ rfl|refine Agr.mix ?_ rfl))) rfl,(by omega),(by rw [← hsd,Qm2 (p:=fun x=>ltInt d1[lo]! x) (b:=decide (d1[lo]!<d1[j2]!)) (by omega) rfl c12 (QQ3 c12r)]),rfl,Y.take 1⟩
  omega
 refine QaI (Qae (Qae ?_))
 have hj2:j2=Sort.scanDown (fun x=>ltInt d1[lo]! x) d1 i2 j:=by rw [← hsd,Qth (p:=fun x=>ltInt d1[lo]! x) (b:=decide (d1[lo]!<d1[j2]!)) rfl c12]
 refine Qab (Qaa (Qaf (I6 (i2:Int)) (Qaa (Qaf (I6 (j2:Int)) (Qaa (Qca rfl rfl (Qad (Qak (t:=decide ((j2:Int)<(i2:Int))) rfl (fun c13=>?_) (fun c13=>?_)))))))))
 ·
  replace c13:=QQ1 c13
  refine QaI (Qae (Qab (Qaa (Qaf (I6 (i2:Int)) (Qaa (Qam (I6 (i2:Int)) (Qad (Qav ?_))))))))
  refine ⟨_,Qan (V:=I6 (i2:Int)) results179 rfl,?_⟩
  have hX:Sort.partitionEqual ltInt d lo hi pvx=(i2,d1):=by rw [← hev,Qsu hi2 hj2 c13]
  rw [hX]
  exact ⟨(),rfl,Y.take 1,hz1⟩
 replace c13:=QQ2 c13
 refine Qap (Qae (QaH HM (so 65 13++[none,some 78,none]) [] [0,0,0,0,0,0,48,112,0,0,768,1792,4083,8179,16383,32767] [pv (.slice a N c),pv (I6 (i2:Int)),pv (.slice a N c),pv (I6 (j2:Int)),pv (.slice a N c),pv (I6 (j2:Int)),pv (.pointer (some ⟨bkS (.slice a N c),ofS (.slice a N c)+(j2:Int).toNat*1,none⟩)),pv (I7 (d1[j2]!)),pv (.slice a N c),pv (I6 (i2:Int)),pv (.pointer (some ⟨bkS (.slice a N c),ofS (.slice a N c)+(i2:Int).toNat*1,none⟩)),pv (I7 (d1[i2]!)),pv (.pointer (some ⟨bkS (.slice a N c),ofS (.slice a N c)+(i2:Int).toNat*1,none⟩)),pn,pv (.pointer (some ⟨bkS (.slice a N c),ofS (.slice a N c)+(j2:Int).toNat*1,none⟩)),pn] (fun D J=>[cond (D 15) (row (.slice a N c) ((((d1.setIfInBounds i2 (d1[j2]!)).setIfInBounds j2 (d1[i2]!)).toList).map (ic .u16)) 32 1) (cond (D 13) (row (.slice a N c) (((d1.setIfInBounds i2 (d1[j2]!)).toList).map (ic .u16)) 32 1) (row (.slice a N c) (d1.toList.map (ic .u16)) 32 1))]) [] (by kernel_rfl) Y ⟨?_,?_,?_,?_,?_,?_,?_,?_,?_,?_,?_,?_,?_,?_,?_,?_,trivial⟩ ?_))
 ·exact oi [] fun Y=>Qaf (.slice a N c) (Zz Y)
 ·exact oi [] fun Y=>Qaf (.int .i64 (i2:Int)) (Zz Y)
 ·exact oi [] fun Y=>Qaf (.slice a N c) (Zz Y)
 ·exact oi [] fun Y=>Qaf (.int .i64 (j2:Int)) (Zz Y)
 ·exact oi [] fun Y=>Qaf (.slice a N c) (Zz Y)
 ·exact oi [] fun Y=>Qaf (.int .i64 (j2:Int)) (Zz Y)
 ·exact ob [4,5] [13,15] rfl rfl fun D J w Y=>Qax QaP Qar.1 (Y.rd 0 rfl) rfl rfl (by omega) (by simp only [QQ6,QQ9,QQ5,Go.Sort.size_swp];omega) (Zz Y)
 ·exact ob [6] [13,15] rfl rfl fun D J w Y=>QaV (j:=0) (V:=I7 (d1[j2]!)) j2 Qar (Y.rd 0 rfl) (QbA (by omega)) rfl rfl (by omega) (Zz Y)
 ·exact oi [] fun Y=>Qaf (.slice a N c) (Zz Y)
 ·exact oi [] fun Y=>Qaf (.int .i64 (i2:Int)) (Zz Y)
 ·exact ob [8,9] [13,15] rfl rfl fun D J w Y=>Qax QaP Qar.1 (Y.rd 0 rfl) rfl rfl (by omega) (by simp only [QQ6,QQ9,QQ5,Go.Sort.size_swp];omega) (Zz Y)
 ·exact ob [10] [13,15] rfl rfl fun D J w Y=>QaV (j:=0) (V:=I7 (d1[i2]!)) i2 Qar (Y.rd 0 rfl) (QbA (by omega)) rfl rfl (by omega) (Zz Y)
 ·exact ob [0,1] [13,15] rfl rfl fun D J w Y=>Qax QaP Qar.1 (Y.rd 0 rfl) rfl rfl (by omega) (by simp only [QQ6,QQ9,QQ5,Go.Sort.size_swp];omega) (Zz Y)
 ·exact ob [7,12] [15] rfl rfl fun D J w Y=>Qcv (z:=d1[j2]!) i2 Qar Y 0 rfl rfl (by omega) (by first|omega|(simp only [QQ5,Go.Sort.size_swp];omega)) rfl rfl rfl fun _ Y=>⟨trivial,Y⟩
 ·exact ob [2,3,13] [15] rfl rfl fun D J w Y=>Qax QaP Qar.1 (Y.rd 0 rfl) rfl rfl (by omega) (by simp only [QQ6,QQ9,QQ5,Go.Sort.size_swp];omega) (Zz Y)
 ·exact oi [11,13,14] fun Y=>Qcv (z:=d1[i2]!) j2 Qar Y 0 rfl rfl (by omega) (by first|omega|(simp only [QQ5,Go.Sort.size_swp];omega)) rfl rfl rfl fun _ Y=>⟨trivial,Y⟩
 rintro J1 w16 J2 hJ Y
 replace hJ:J2=mix (sq 65 14) J1 _:=hJ
 replace Y:Own w S w16 [row (.slice a N c) ((((d1.setIfInBounds i2 (d1[j2]!)).setIfInBounds j2 (d1[i2]!)).toList).map (ic .u16)) 32 1]:=Y
 subst hJ
 refine Qae (Qab (Qaa (Qaf (I6 (i2:Int)) (Qaa (QaB (a:=(i2:Int)) (b:=1) (c:=((i2+1:Nat):Int)) rfl rfl (Qaj (by omega) (by omega)) (Qaa (Qam (I6 ((i2+1:Nat):Int)) (Qad (Qab (Qaa (Qaf (I6 (j2:Int)) (Qaa (Qbb (a:=(j2:Int)) (b:=1) (c:=((j2-1:Nat):Int)) rfl rfl (Qaj (by omega) (by omega)) (Qaa (Qam (I6 ((j2-1:Nat):Int)) (Qad ?_))))))))))))))))
 refine ⟨_,?_,_,i2+1,j2-1,((d1.setIfInBounds i2 (d1[j2]!)).setIfInBounds j2 (d1[i2]!)),Qai (Qai (Qao (ds:=([9,10]++sq 29 54)) (by repeat (first|exact Agr.refl _ _|refine Agr.upd ?_ rfl|refine Agr.mix ?_ rfl))) rfl) rfl,(by omega),(by omega),(by omega),(by simp only [QQ5];exact hz1),(by rw [← hev,QxN hi2 hj2 c13];rfl),rfl,Y.take 1⟩
 omega
end Tt
end Go.Proofs
namespace Go.Proofs
open Go Go.Vx Go.RowKit
open Go.Sort (ltInt medianAdjacent order2 partition)
open Tryz
namespace Tt
theorem Qw6 (w:World) (S:Nat->Prop) (a:Option Addr) (N c:Nat) (d:Array Int) (hsz:d.size=N) (hN:N<=2305843009213693951) (lo hi pvx:Nat) (h1:lo<=pvx) (h2:pvx<hi) (h3:hi<=N) (hR:(row (.slice a N c) (d.toList.map (ic .u16)) 32 1).holds w S) (hlt:∀ x,S x->x<w.heap.size):Calls prog 180 #[.slice a N c,.int .i64 (lo:Int),.int .i64 (hi:Int),.int .i64 (pvx:Int)] w (fun e w'=>∃ _u:Unit,e = .returned (.tuple #[.int .i64 (((partition ltInt d lo hi pvx).1:Nat):Int),.bool (partition ltInt d lo hi pvx).2.1])/\Own w S w' [row (.slice a N c) (((partition ltInt d lo hi pvx).2.2).toList.map (ic .u16)) 32 1]/\(partition ltInt d lo hi pvx).2.2.size=N):=by
 refine Qah (n:=168) func180 rfl ntmps180 rfl ?_
 have Y:=Own.lent hR hlt
 refine Qae (Qab (Qaa (Qam (I6 0) (Qaa (Qam (.bool false) (Qad (Qae (QaH HM (so 12 13++[none,some 25,none]) [] [0,0,0,0,0,0,48,112,0,0,768,1792,4083,8179,16383,32767] [pv (.slice a N c),pv (I6 (lo:Int)),pv (.slice a N c),pv (I6 (pvx:Int)),pv (.slice a N c),pv (I6 (pvx:Int)),pv (.pointer (some ⟨bkS (.slice a N c),ofS (.slice a N c)+(pvx:Int).toNat*1,none⟩)),pv (I7 (d[pvx]!)),pv (.slice a N c),pv (I6 (lo:Int)),pv (.pointer (some ⟨bkS (.slice a N c),ofS (.slice a N c)+(lo:Int).toNat*1,none⟩)),pv (I7 (d[lo]!)),pv (.pointer (some ⟨bkS (.slice a N c),ofS (.slice a N c)+(lo:Int).toNat*1,none⟩)),pn,pv (.pointer (some ⟨bkS (.slice a N c),ofS (.slice a N c)+(pvx:Int).toNat*1,none⟩)),pn] (fun D J=>[cond (D 15) (row (.slice a N c) ((((d.setIfInBounds lo (d[pvx]!)).setIfInBounds pvx (d[lo]!)).toList).map (ic .u16)) 32 1) (cond (D 13) (row (.slice a N c) (((d.setIfInBounds lo (d[pvx]!)).toList).map (ic .u16)) 32 1) (row (.slice a N c) (d.toList.map (ic .u16)) 32 1))]) [] (by kernel_rfl) Y ⟨?_,?_,?_,?_,?_,?_,?_,?_,?_,?_,?_,?_,?_,?_,?_,?_,trivial⟩ ?_))))))))
 ·exact oi [] fun Y=>Qaf (.slice a N c) (Zz Y)
 ·exact oi [] fun Y=>Qaf (.int .i64 (lo:Int)) (Zz Y)
 ·exact oi [] fun Y=>Qaf (.slice a N c) (Zz Y)
 ·exact oi [] fun Y=>Qaf (.int .i64 (pvx:Int)) (Zz Y)
 ·exact oi [] fun Y=>Qaf (.slice a N c) (Zz Y)
 ·exact oi [] fun Y=>Qaf (.int .i64 (pvx:Int)) (Zz Y)
 ·exact ob [4,5] [13,15] rfl rfl fun D J w Y=>Qax QaP Qar.1 (Y.rd 0 rfl) rfl rfl (by omega) (by simp only [QQ6,QQ9,QQ5,Go.Sort.size_swp];omega) (Zz Y)
 ·exact ob [6] [13,15] rfl rfl fun D J w Y=>QaV (j:=0) (V:=I7 (d[pvx]!)) pvx Qar (Y.rd 0 rfl) (QbA (by omega)) rfl rfl (by omega) (Zz Y)
 ·exact oi [] fun Y=>Qaf (.slice a N c) (Zz Y)
 ·exact oi [] fun Y=>Qaf (.int .i64 (lo:Int)) (Zz Y)
 ·exact ob [8,9] [13,15] rfl rfl fun D J w Y=>Qax QaP Qar.1 (Y.rd 0 rfl) rfl rfl (by omega) (by simp only [QQ6,QQ9,QQ5,Go.Sort.size_swp];omega) (Zz Y)
 ·exact ob [10] [13,15] rfl rfl fun D J w Y=>QaV (j:=0) (V:=I7 (d[lo]!)) lo Qar (Y.rd 0 rfl) (QbA (by omega)) rfl rfl (by omega) (Zz Y)
 ·exact ob [0,1] [13,15] rfl rfl fun D J w Y=>Qax QaP Qar.1 (Y.rd 0 rfl) rfl rfl (by omega) (by simp only [QQ6,QQ9,QQ5,Go.Sort.size_swp];omega) (Zz Y)
 ·exact ob [7,12] [15] rfl rfl fun D J w Y=>Qcv (z:=d[pvx]!) lo Qar Y 0 rfl rfl (by omega) (by first|omega|(simp only [QQ5,Go.Sort.size_swp];omega)) rfl rfl rfl fun _ Y=>⟨trivial,Y⟩
 ·exact ob [2,3,13] [15] rfl rfl fun D J w Y=>Qax QaP Qar.1 (Y.rd 0 rfl) rfl rfl (by omega) (by simp only [QQ6,QQ9,QQ5,Go.Sort.size_swp];omega) (Zz Y)
 ·exact oi [11,13,14] fun Y=>Qcv (z:=d[lo]!) pvx Qar Y 0 rfl rfl (by omega) (by first|omega|(simp only [QQ5,Go.Sort.size_swp];omega)) rfl rfl rfl fun _ Y=>⟨trivial,Y⟩
 rintro J1 w3 J2 hJ Y
 replace hJ:J2=mix (sq 12 14) J1 _:=hJ
 replace Y:Own w S w3 [row (.slice a N c) ((((d.setIfInBounds lo (d[pvx]!)).setIfInBounds pvx (d[lo]!)).toList).map (ic .u16)) 32 1]:=Y
 subst hJ
 refine Qae (Qab (Qaa (Qaf (I6 (lo:Int)) (Qaa (QaB (a:=(lo:Int)) (b:=1) (c:=((lo+1:Nat):Int)) rfl rfl (Qaj (by omega) (by omega)) (Qaa (Qaf (I6 (hi:Int)) (Qaa (Qbb (a:=(hi:Int)) (b:=1) (c:=((hi-1:Nat):Int)) rfl rfl (Qaj (by omega) (by omega)) (Qaa (Qam (I6 ((lo+1:Nat):Int)) (Qaa (Qam (I6 ((hi-1:Nat):Int)) (Qad (Qae (Qal ?_))))))))))))))))
 obtain ⟨dd,hdd⟩:∃ dd,dd=(Sort.swp d lo pvx):=⟨_,rfl⟩
 replace Y:=Y.conv 0 rfl (R':=row (.slice a N c) (dd.toList.map (ic .u16)) 32 1) (fun S h=>by rw [hdd];exact h)
 have hzd:dd.size=N:=by rw [hdd,Go.Sort.size_swp];exact hsz
 refine QaE (fun J μ J' w'=>∃ (Jo:Env) (i2:Nat),J'=upd (mix ([10]++sq 30 16) Jo J) 10 (I6 (i2:Int))/\((lo+1)<=i2)/\(i2<=hi+1)/\(Sort.scanUp (fun x=>ltInt x dd[lo]!) dd (hi-1) i2=Sort.scanUp (fun x=>ltInt x dd[lo]!) dd (hi-1) ((lo+1)))/\μ=(hi-1)+1-i2/\Own w S w' [row (.slice a N c) (dd.toList.map (ic .u16)) 32 1]) ?_ ?_
 ·exact ⟨_,_,(lo+1),Qai (Qao (ds:=([10]++sq 30 16)) (Agr.refl _ _)) rfl,(Nat.le_refl _),(by omega),rfl,rfl,Y⟩
 rintro μ J' w4 ⟨Jo,i2,rfl,hi2a,hi2b,hsu,rfl,Y⟩
 refine Qae (Qae (QaH HM (so 30 14) [] [0,0,3,7,15,15,63,127,15,15,783,1807,4095,8191] [pv (I6 (i2:Int)),pv (I6 ((hi-1:Nat):Int)),pv (.bool (decide ((i2:Int)<=((hi-1:Nat):Int)))),pv (.bool (decide ((i2:Int)<=((hi-1:Nat):Int)))),pg ((decide ((i2:Int)<=((hi-1:Nat):Int))) == true) (.slice a N c),pg ((decide ((i2:Int)<=((hi-1:Nat):Int))) == true) (I6 (i2:Int)),pg ((decide ((i2:Int)<=((hi-1:Nat):Int))) == true) (.pointer (some ⟨bkS (.slice a N c),ofS (.slice a N c)+(i2:Int).toNat*1,none⟩)),pg ((decide ((i2:Int)<=((hi-1:Nat):Int))) == true) (I7 (dd[i2]!)),pg ((decide ((i2:Int)<=((hi-1:Nat):Int))) == true) (.slice a N c),pg ((decide ((i2:Int)<=((hi-1:Nat):Int))) == true) (I6 (lo:Int)),pg ((decide ((i2:Int)<=((hi-1:Nat):Int))) == true) (.pointer (some ⟨bkS (.slice a N c),ofS (.slice a N c)+(lo:Int).toNat*1,none⟩)),pg ((decide ((i2:Int)<=((hi-1:Nat):Int))) == true) (I7 (dd[lo]!)),pg ((decide ((i2:Int)<=((hi-1:Nat):Int))) == true) (.bool (decide (dd[i2]!<dd[lo]!))),pv (.bool ((decide ((i2:Int)<=((hi-1:Nat):Int)))&&(decide (dd[i2]!<dd[lo]!))))] (fun _ _=>_) [13] (by kernel_rfl) Y ⟨?_,?_,?_,?_,?_,?_,?_,?_,?_,?_,?_,?_,?_,?_,trivial⟩ ?_))
 ·exact oi [] fun Y=>Qaf (.int .i64 (i2:Int)) (Zz Y)
 ·exact oi [] fun Y=>Qaf (.int .i64 ((hi-1:Nat):Int)) (Zz Y)
 ·exact oi [0,1] fun Y=>Qew rfl rfl (Zz Y)
 ·exact oi [2] fun Y=>Qaf (.bool (decide ((i2:Int)<=((hi-1:Nat):Int)))) (Zz Y)
 ·refine ogi [3] fun hG Y=>?_
  have hgd:=QQ1 (eq_of_beq hG)
  exact Qaf (.slice a N c) (Zz Y)
 ·refine ogi [3] fun hG Y=>?_
  have hgd:=QQ1 (eq_of_beq hG)
  exact Qaf (.int .i64 (i2:Int)) (Zz Y)
 ·refine oyi [3,4,5] [4,5] fun hG Y=>?_
  have hgd:=QQ1 (eq_of_beq hG)
  exact Qax QaP Qar.1 (Y.rd 0 rfl) rfl rfl (by omega) (by simp only [QQ6,QQ9,QQ5,Go.Sort.size_swp];omega) (Zz Y)
 ·refine oyi [3,6] [6] fun hG Y=>?_
  have hgd:=QQ1 (eq_of_beq hG)
  exact QaV (j:=0) (V:=.int .u16 (dd[i2]!)) i2 Qar (Y.rd 0 rfl) (QbA (by omega)) rfl rfl (by omega) (Zz Y)
 ·refine ogi [3] fun hG Y=>?_
  have hgd:=QQ1 (eq_of_beq hG)
  exact Qaf (.slice a N c) (Zz Y)
 ·refine ogi [3] fun hG Y=>?_
  have hgd:=QQ1 (eq_of_beq hG)
  exact Qaf (.int .i64 (lo:Int)) (Zz Y)
 ·refine oyi [3,8,9] [8,9] fun hG Y=>?_
  have hgd:=QQ1 (eq_of_beq hG)
  exact Qax QaP Qar.1 (Y.rd 0 rfl) rfl rfl (by omega) (by simp only [QQ6,QQ9,QQ5,Go.Sort.size_swp];omega) (Zz Y)
 ·refine oyi [3,10] [10] fun hG Y=>?_
  have hgd:=QQ1 (eq_of_beq hG)
  exact QaV (j:=0) (V:=.int .u16 (dd[lo]!)) lo Qar (Y.rd 0 rfl) (QbA (by omega)) rfl rfl (by omega) (Zz Y)
 ·refine oyi [3,7,11] [7,11] fun hG Y=>?_
  have hgd:=QQ1 (eq_of_beq hG)
  exact Qas (vs:=[.int .u16 (dd[i2]!),.int .u16 (dd[lo]!)]) (V:=.bool (decide (dd[i2]!<dd[lo]!))) Qdr rfl rfl (QcF _ (dd[i2]!) (dd[lo]!)) Y fun _ Y=>Zz Y
 ·exact oi [3,12] fun Y=>Qbg (h':=decide (dd[i2]!<dd[lo]!)) rfl rfl rfl (Zz Y)
 rintro J1 w6 J2 hJ Y
 replace hJ:J2=upd (mix (sq 30 14) J1 _) 43 (.bool ((decide ((i2:Int)<=((hi-1:Nat):Int)))&&(decide (dd[i2]!<dd[lo]!)))):=hJ
 subst hJ
 refine Qak (t:=(decide ((i2:Int)<=((hi-1:Nat):Int)))&&(decide (dd[i2]!<dd[lo]!))) rfl (fun c7=>?_) (fun c7=>?_)
 ·
  have c7r:=Qcl c7
  replace c7:=QbZ c7
  replace c7:=QQ1 c7
  replace c7r:=QQ1 c7r
  refine Qap (Qal (Qab (Qaa (Qaf (I6 (i2:Int)) (Qaa (QaB (a:=(i2:Int)) (b:=1) (c:=((i2+1:Nat):Int)) rfl rfl (Qaj (by omega) (by omega)) (Qaa (Qam (I6 ((i2+1:Nat):Int)) (Qad ?_)))))))))
  refine ⟨_,?_,_,i2+1,Qai (Qao (ds:=([10]++sq 30 16)) (by repeat (first|exact Agr.refl _ _|refine Agr.upd ?_ rfl|refine Agr.mix ?_ rfl))) rfl,(by omega),(by omega),(by rw [← hsu,QnH (p:=fun x=>ltInt x dd[lo]!) (b:=decide (dd[i2]!<dd[lo]!)) rfl c7 (QQ3 c7r)]),rfl,Y.take 1⟩
  omega
 refine QaI (Qae (Qal ?_))
 have hi2:i2=Sort.scanUp (fun x=>ltInt x dd[lo]!) dd (hi-1) (lo+1):=by rw [← hsu,Qs0 (p:=fun x=>ltInt x dd[lo]!) (b:=decide (dd[i2]!<dd[lo]!)) rfl c7]
 refine QaE (fun J μ J' w'=>∃ (Jo:Env) (j2:Nat),J'=upd (mix ([11]++sq 46 17) Jo J) 11 (I6 (j2:Int))/\(j2<=(hi-1))/\(Sort.scanDown (fun x=>!ltInt x dd[lo]!) dd i2 j2=Sort.scanDown (fun x=>!ltInt x dd[lo]!) dd i2 ((hi-1)))/\(lo<=j2)/\μ=2*j2/\Own w S w' [row (.slice a N c) (dd.toList.map (ic .u16)) 32 1]) ?_ ?_
 ·exact ⟨_,_,(hi-1),Qai (Qao (ds:=([11]++sq 46 17)) (Agr.refl _ _)) rfl,(Nat.le_refl _),rfl,(by omega),rfl,Y⟩
 rintro μ J' w8 ⟨Jo,j2,rfl,hj2b,hsd,hlowj2,rfl,Y⟩
 refine Qae (Qae (QaH HM (so 46 15) [] [0,0,3,7,15,15,63,127,15,15,783,1807,4095,8191,16383] [pv (I6 (i2:Int)),pv (I6 (j2:Int)),pv (.bool (decide ((i2:Int)<=(j2:Int)))),pv (.bool (decide ((i2:Int)<=(j2:Int)))),pg ((decide ((i2:Int)<=(j2:Int))) == true) (.slice a N c),pg ((decide ((i2:Int)<=(j2:Int))) == true) (I6 (j2:Int)),pg ((decide ((i2:Int)<=(j2:Int))) == true) (.pointer (some ⟨bkS (.slice a N c),ofS (.slice a N c)+(j2:Int).toNat*1,none⟩)),pg ((decide ((i2:Int)<=(j2:Int))) == true) (I7 (dd[j2]!)),pg ((decide ((i2:Int)<=(j2:Int))) == true) (.slice a N c),pg ((decide ((i2:Int)<=(j2:Int))) == true) (I6 (lo:Int)),pg ((decide ((i2:Int)<=(j2:Int))) == true) (.pointer (some ⟨bkS (.slice a N c),ofS (.slice a N c)+(lo:Int).toNat*1,none⟩)),pg ((decide ((i2:Int)<=(j2:Int))) == true) (I7 (dd[lo]!)),pg ((decide ((i2:Int)<=(j2:Int))) == true) (.bool (decide (dd[j2]!<dd[lo]!))),pg ((decide ((i2:Int)<=(j2:Int))) == true) (.bool (!decide (dd[j2]!<dd[lo]!))),pv (.bool ((decide ((i2:Int)<=(j2:Int)))&&(!decide (dd[j2]!<dd[lo]!))))] (fun _ _=>_) [14] (by kernel_rfl) Y ⟨?_,?_,?_,?_,?_,?_,?_,?_,?_,?_,?_,?_,?_,?_,?_,trivial⟩ ?_))
 ·exact oi [] fun Y=>Qaf (.int .i64 (i2:Int)) (Zz Y)
 ·exact oi [] fun Y=>Qaf (.int .i64 (j2:Int)) (Zz Y)
 ·exact oi [0,1] fun Y=>Qew rfl rfl (Zz Y)
 ·exact oi [2] fun Y=>Qaf (.bool (decide ((i2:Int)<=(j2:Int)))) (Zz Y)
 ·refine ogi [3] fun hG Y=>?_
  have hgd:=QQ1 (eq_of_beq hG)
  exact Qaf (.slice a N c) (Zz Y)
 ·refine ogi [3] fun hG Y=>?_
  have hgd:=QQ1 (eq_of_beq hG)
  exact Qaf (.int .i64 (j2:Int)) (Zz Y)
 ·refine oyi [3,4,5] [4,5] fun hG Y=>?_
  have hgd:=QQ1 (eq_of_beq hG)
  exact Qax QaP Qar.1 (Y.rd 0 rfl) rfl rfl (by omega) (by simp only [QQ6,QQ9,QQ5,Go.Sort.size_swp];omega) (Zz Y)
 ·refine oyi [3,6] [6] fun hG Y=>?_
  have hgd:=QQ1 (eq_of_beq hG)
  exact QaV (j:=0) (V:=.int .u16 (dd[j2]!)) j2 Qar (Y.rd 0 rfl) (QbA (by omega)) rfl rfl (by omega) (Zz Y)
 ·refine ogi [3] fun hG Y=>?_
  have hgd:=QQ1 (eq_of_beq hG)
  exact Qaf (.slice a N c) (Zz Y)
 ·refine ogi [3] fun hG Y=>?_
  have hgd:=QQ1 (eq_of_beq hG)
  exact Qaf (.int .i64 (lo:Int)) (Zz Y)
 ·refine oyi [3,8,9] [8,9] fun hG Y=>?_
  have hgd:=QQ1 (eq_of_beq hG)
  exact Qax QaP Qar.1 (Y.rd 0 rfl) rfl rfl (by omega) (by simp only [QQ6,QQ9,QQ5,Go.Sort.size_swp];omega) (Zz Y)
 ·refine oyi [3,10] [10] fun hG Y=>?_
  have hgd:=QQ1 (eq_of_beq hG)
  exact QaV (j:=0) (V:=.int .u16 (dd[lo]!)) lo Qar (Y.rd 0 rfl) (QbA (by omega)) rfl rfl (by omega) (Zz Y)
 ·refine oyi [3,7,11] [7,11] fun hG Y=>?_
  have hgd:=QQ1 (eq_of_beq hG)
  exact Qas (vs:=[.int .u16 (dd[j2]!),.int .u16 (dd[lo]!)]) (V:=.bool (decide (dd[j2]!<dd[lo]!))) Qdr rfl rfl (QcF _ (dd[j2]!) (dd[lo]!)) Y fun _ Y=>Zz Y
 ·refine oyi [3,12] [12] fun hG Y=>?_
  have hgd:=QQ1 (eq_of_beq hG)
  exact QbB rfl (Zz Y)
 ·exact oi [3,13] fun Y=>Qbg (h':=!decide (dd[j2]!<dd[lo]!)) rfl rfl rfl (Zz Y)
 rintro J1 w10 J2 hJ Y
 replace hJ:J2=upd (mix (sq 46 15) J1 _) 60 (.bool ((decide ((i2:Int)<=(j2:Int)))&&(!decide (dd[j2]!<dd[lo]!)))):=hJ
 subst hJ
 refine Qak (t:=(decide ((i2:Int)<=(j2:Int)))&&(!decide (dd[j2]!<dd[lo]!))) rfl (fun c11=>?_) (fun c11=>?_)
 ·
  have c11r:=Qcl c11
  replace c11:=QbZ c11
  replace c11:=QQ1 c11
  replace c11r:=QbE c11r
  replace c11r:=QQ2 c11r
  refine Qap (Qal (Qab (Qaa (Qaf (I6 (j2:Int)) (Qaa (Qbb (a:=(j2:Int)) (b:=1) (c:=((j2-1:Nat):Int)) rfl rfl (Qaj (by omega) (by omega)) (Qaa (Qam (I6 ((j2-1:Nat):Int)) (Qad ?_)))))))))
  refine ⟨_,?_,_,j2-1,Qai (Qao (ds:=([11]++sq 46 17)) (by repeat (first|exact Agr.refl _ _|refine Agr.upd ?_ rfl|refine Agr.mix ?_ rfl))) rfl,(by omega),(by rw [← hsd,Qm2 (p:=fun x=>!ltInt x dd[lo]!) (b:=!decide (dd[j2]!<dd[lo]!)) (by omega) rfl c11 (by rw [QQ4 c11r];rfl)]),(by omega),rfl,Y.take 1⟩
  omega
 refine QaI (Qae (Qae ?_))
 have hj2:j2=Sort.scanDown (fun x=>!ltInt x dd[lo]!) dd i2 (hi-1):=by rw [← hsd,Qth (p:=fun x=>!ltInt x dd[lo]!) (b:=!decide (dd[j2]!<dd[lo]!)) rfl c11]
 refine Qab (Qaa (Qaf (I6 (i2:Int)) (Qaa (Qaf (I6 (j2:Int)) (Qaa (Qca rfl rfl (Qad (Qak (t:=decide ((j2:Int)<(i2:Int))) rfl (fun c12=>?_) (fun c12=>?_)))))))))
 ·
  replace c12:=QQ1 c12
  refine Qae (QaH HM (so 66 13++[none,some 79,none]) [] [0,0,0,0,0,0,48,112,0,0,768,1792,4083,8179,16383,32767] [pv (.slice a N c),pv (I6 (j2:Int)),pv (.slice a N c),pv (I6 (lo:Int)),pv (.slice a N c),pv (I6 (lo:Int)),pv (.pointer (some ⟨bkS (.slice a N c),ofS (.slice a N c)+(lo:Int).toNat*1,none⟩)),pv (I7 (dd[lo]!)),pv (.slice a N c),pv (I6 (j2:Int)),pv (.pointer (some ⟨bkS (.slice a N c),ofS (.slice a N c)+(j2:Int).toNat*1,none⟩)),pv (I7 (dd[j2]!)),pv (.pointer (some ⟨bkS (.slice a N c),ofS (.slice a N c)+(j2:Int).toNat*1,none⟩)),pn,pv (.pointer (some ⟨bkS (.slice a N c),ofS (.slice a N c)+(lo:Int).toNat*1,none⟩)),pn] (fun D J=>[cond (D 15) (row (.slice a N c) ((((dd.setIfInBounds j2 (dd[lo]!)).setIfInBounds lo (dd[j2]!)).toList).map (ic .u16)) 32 1) (cond (D 13) (row (.slice a N c) (((dd.setIfInBounds j2 (dd[lo]!)).toList).map (ic .u16)) 32 1) (row (.slice a N c) (dd.toList.map (ic .u16)) 32 1))]) [] (by kernel_rfl) Y ⟨?_,?_,?_,?_,?_,?_,?_,?_,?_,?_,?_,?_,?_,?_,?_,?_,trivial⟩ ?_)
  ·exact oi [] fun Y=>Qaf (.slice a N c) (Zz Y)
  ·exact oi [] fun Y=>Qaf (.int .i64 (j2:Int)) (Zz Y)
  ·exact oi [] fun Y=>Qaf (.slice a N c) (Zz Y)
  ·exact oi [] fun Y=>Qaf (.int .i64 (lo:Int)) (Zz Y)
  ·exact oi [] fun Y=>Qaf (.slice a N c) (Zz Y)
  ·exact oi [] fun Y=>Qaf (.int .i64 (lo:Int)) (Zz Y)
  ·exact ob [4,5] [13,15] rfl rfl fun D J w Y=>Qax QaP Qar.1 (Y.rd 0 rfl) rfl rfl (by omega) (by simp only [QQ6,QQ9,QQ5,Go.Sort.size_swp];omega) (Zz Y)
  ·exact ob [6] [13,15] rfl rfl fun D J w Y=>QaV (j:=0) (V:=I7 (dd[lo]!)) lo Qar (Y.rd 0 rfl) (QbA (by omega)) rfl rfl (by omega) (Zz Y)
  ·exact oi [] fun Y=>Qaf (.slice a N c) (Zz Y)
  ·exact oi [] fun Y=>Qaf (.int .i64 (j2:Int)) (Zz Y)
  ·exact ob [8,9] [13,15] rfl rfl fun D J w Y=>Qax QaP Qar.1 (Y.rd 0 rfl) rfl rfl (by omega) (by simp only [QQ6,QQ9,QQ5,Go.Sort.size_swp];omega) (Zz Y)
  ·exact ob [10] [13,15] rfl rfl fun D J w Y=>QaV (j:=0) (V:=I7 (dd[j2]!)) j2 Qar (Y.rd 0 rfl) (QbA (by omega)) rfl rfl (by omega) (Zz Y)
  ·exact ob [0,1] [13,15] rfl rfl fun D J w Y=>Qax QaP Qar.1 (Y.rd 0 rfl) rfl rfl (by omega) (by simp only [QQ6,QQ9,QQ5,Go.Sort.size_swp];omega) (Zz Y)
  ·exact ob [7,12] [15] rfl rfl fun D J w Y=>Qcv (z:=dd[lo]!) j2 Qar Y 0 rfl rfl (by omega) (by first|omega|(simp only [QQ5,Go.Sort.size_swp];omega)) rfl rfl rfl fun _ Y=>⟨trivial,Y⟩
  ·exact ob [2,3,13] [15] rfl rfl fun D J w Y=>Qax QaP Qar.1 (Y.rd 0 rfl) rfl rfl (by omega) (by simp only [QQ6,QQ9,QQ5,Go.Sort.size_swp];omega) (Zz Y)
  ·exact oi [11,13,14] fun Y=>Qcv (z:=dd[j2]!) lo Qar Y 0 rfl rfl (by omega) (by first|omega|(simp only [QQ5,Go.Sort.size_swp];omega)) rfl rfl rfl fun _ Y=>⟨trivial,Y⟩
  rintro J1 w15 J2 hJ Y
  replace hJ:J2=mix (sq 66 14) J1 _:=hJ
  replace Y:Own w S w15 [row (.slice a N c) ((((dd.setIfInBounds j2 (dd[lo]!)).setIfInBounds lo (dd[j2]!)).toList).map (ic .u16)) 32 1]:=Y
  subst hJ
  refine Qae (Qab (Qaa (Qaf (I6 (j2:Int)) (Qaa (Qam (I6 (j2:Int)) (Qaa (Qam (.bool true) (Qad (Qav ?_)))))))))
  refine ⟨_,QbO (U:=I6 (j2:Int)) (V:=.bool true) results180 rfl rfl,?_⟩
  have hX:partition ltInt d lo hi pvx=(j2,true,Sort.swp dd j2 lo):=Qs1 hdd hi2 hj2 c12
  rw [hX]
  exact ⟨(),rfl,Y.take 1,by first|(rw [Go.Sort.size_swp];assumption)|assumption⟩
 replace c12:=QQ2 c12
 refine Qap (Qae (QaH HM (so 81 13++[none,some 94,none]) [] [0,0,0,0,0,0,48,112,0,0,768,1792,4083,8179,16383,32767] [pv (.slice a N c),pv (I6 (i2:Int)),pv (.slice a N c),pv (I6 (j2:Int)),pv (.slice a N c),pv (I6 (j2:Int)),pv (.pointer (some ⟨bkS (.slice a N c),ofS (.slice a N c)+(j2:Int).toNat*1,none⟩)),pv (I7 (dd[j2]!)),pv (.slice a N c),pv (I6 (i2:Int)),pv (.pointer (some ⟨bkS (.slice a N c),ofS (.slice a N c)+(i2:Int).toNat*1,none⟩)),pv (I7 (dd[i2]!)),pv (.pointer (some ⟨bkS (.slice a N c),ofS (.slice a N c)+(i2:Int).toNat*1,none⟩)),pn,pv (.pointer (some ⟨bkS (.slice a N c),ofS (.slice a N c)+(j2:Int).toNat*1,none⟩)),pn] (fun D J=>[cond (D 15) (row (.slice a N c) ((((dd.setIfInBounds i2 (dd[j2]!)).setIfInBounds j2 (dd[i2]!)).toList).map (ic .u16)) 32 1) (cond (D 13) (row (.slice a N c) (((dd.setIfInBounds i2 (dd[j2]!)).toList).map (ic .u16)) 32 1) (row (.slice a N c) (dd.toList.map (ic .u16)) 32 1))]) [] (by kernel_rfl) Y ⟨?_,?_,?_,?_,?_,?_,?_,?_,?_,?_,?_,?_,?_,?_,?_,?_,trivial⟩ ?_))
 ·exact oi [] fun Y=>Qaf (.slice a N c) (Zz Y)
 ·exact oi [] fun Y=>Qaf (.int .i64 (i2:Int)) (Zz Y)
 ·exact oi [] fun Y=>Qaf (.slice a N c) (Zz Y)
 ·exact oi [] fun Y=>Qaf (.int .i64 (j2:Int)) (Zz Y)
 ·exact oi [] fun Y=>Qaf (.slice a N c) (Zz Y)
 ·exact oi [] fun Y=>Qaf (.int .i64 (j2:Int)) (Zz Y)
 ·exact ob [4,5] [13,15] rfl rfl fun D J w Y=>Qax QaP Qar.1 (Y.rd 0 rfl) rfl rfl (by omega) (by simp only [QQ6,QQ9,QQ5,Go.Sort.size_swp];omega) (Zz Y)
 ·exact ob [6] [13,15] rfl rfl fun D J w Y=>QaV (j:=0) (V:=I7 (dd[j2]!)) j2 Qar (Y.rd 0 rfl) (QbA (by omega)) rfl rfl (by omega) (Zz Y)
 ·exact oi [] fun Y=>Qaf (.slice a N c) (Zz Y)
 ·exact oi [] fun Y=>Qaf (.int .i64 (i2:Int)) (Zz Y)
 ·exact ob [8,9] [13,15] rfl rfl fun D J w Y=>Qax QaP Qar.1 (Y.rd 0 rfl) rfl rfl (by omega) (by simp only [QQ6,QQ9,QQ5,Go.Sort.size_swp];omega) (Zz Y)
 ·exact ob [10] [13,15] rfl rfl fun D J w Y=>QaV (j:=0) (V:=I7 (dd[i2]!)) i2 Qar (Y.rd 0 rfl) (QbA (by omega)) rfl rfl (by omega) (Zz Y)
 ·exact ob [0,1] [13,15] rfl rfl fun D J w Y=>Qax QaP Qar.1 (Y.rd 0 rfl) rfl rfl (by omega) (by simp only [QQ6,QQ9,QQ5,Go.Sort.size_swp];omega) (Zz Y)
 ·exact ob [7,12] [15] rfl rfl fun D J w Y=>Qcv (z:=dd[j2]!) i2 Qar Y 0 rfl rfl (by omega) (by first|omega|(simp only [QQ5,Go.Sort.size_swp];omega)) rfl rfl rfl fun _ Y=>⟨trivial,Y⟩
 ·exact ob [2,3,13] [15] rfl rfl fun D J w Y=>Qax QaP Qar.1 (Y.rd 0 rfl) rfl rfl (by omega) (by simp only [QQ6,QQ9,QQ5,Go.Sort.size_swp];omega) (Zz Y)
 ·exact oi [11,13,14] fun Y=>Qcv (z:=dd[i2]!) j2 Qar Y 0 rfl rfl (by omega) (by first|omega|(simp only [QQ5,Go.Sort.size_swp];omega)) rfl rfl rfl fun _ Y=>⟨trivial,Y⟩
 rintro J1 w18 J2 hJ Y
 replace hJ:J2=mix (sq 81 14) J1 _:=hJ
 replace Y:Own w S w18 [row (.slice a N c) ((((dd.setIfInBounds i2 (dd[j2]!)).setIfInBounds j2 (dd[i2]!)).toList).map (ic .u16)) 32 1]:=Y
 subst hJ
 refine Qae (Qab (Qaa (Qaf (I6 (i2:Int)) (Qaa (QaB (a:=(i2:Int)) (b:=1) (c:=((i2+1:Nat):Int)) rfl rfl (Qaj (by omega) (by omega)) (Qaa (Qam (I6 ((i2+1:Nat):Int)) (Qad (Qae (Qab (Qaa (Qaf (I6 (j2:Int)) (Qaa (Qbb (a:=(j2:Int)) (b:=1) (c:=((j2-1:Nat):Int)) rfl rfl (Qaj (by omega) (by omega)) (Qaa (Qam (I6 ((j2-1:Nat):Int)) (Qad (Qae (Qal ?_)))))))))))))))))))
 have hpt:=Qxb hdd hi2 hj2 c12
 refine QaE (fun J μ J' w'=>∃ (Jo:Env) (i:Nat) (j:Nat) (d1:Array Int),J'=upd (upd (mix ([10,11]++sq 99 54) Jo J) 10 (I6 (i:Int))) 11 (I6 (j:Int))/\(lo+1<=i)/\(i<=hi+1)/\(j<hi/\lo<=j)/\(d1.size=N)/\(Sort.partLoop ltInt lo i j d1=Sort.partLoop ltInt lo (i2+1) (j2-1) (Sort.swp dd i2 j2))/\μ=j+1-i/\Own w S w' [row (.slice a N c) (d1.toList.map (ic .u16)) 32 1]) ?_ ?_
 ·exact ⟨_,_,i2+1,j2-1,((dd.setIfInBounds i2 (dd[j2]!)).setIfInBounds j2 (dd[i2]!)),Qai (Qai (Qao (ds:=([10,11]++sq 99 54)) (Agr.refl _ _)) rfl) rfl,(by omega),(by omega),(by omega),(by simp only [QQ5];exact hzd),rfl,rfl,Y⟩
 rintro μ J' w19 ⟨Jo,i,j,d1,rfl,hi0,hi1,hj,hz1,hev,rfl,Y⟩
 refine Qal (Qae (Qal (QaE (fun J μ J' w'=>∃ (Jo:Env) (i4:Nat),J'=upd (mix ([10]++sq 99 16) Jo J) 10 (I6 (i4:Int))/\(i<=i4)/\(i4<=hi+1)/\(Sort.scanUp (fun x=>ltInt x d1[lo]!) d1 (j) i4=Sort.scanUp (fun x=>ltInt x d1[lo]!) d1 (j) (i))/\μ=j+1-i4/\Own w S w' [row (.slice a N c) (d1.toList.map (ic .u16)) 32 1]) ?_ ?_)))
 ·exact ⟨_,_,i,Qai (Qao (ds:=([10]++sq 99 16)) (Agr.refl _ _)) rfl,(Nat.le_refl _),(by omega),rfl,rfl,Y⟩
 rintro μ J' w20 ⟨Jo,i4,rfl,hi4a,hi4b,hsu4,rfl,Y⟩
 refine Qae (Qae (QaH HM (so 99 14) [] [0,0,3,7,15,15,63,127,15,15,783,1807,4095,8191] [pv (I6 (i4:Int)),pv (I6 (j:Int)),pv (.bool (decide ((i4:Int)<=(j:Int)))),pv (.bool (decide ((i4:Int)<=(j:Int)))),pg ((decide ((i4:Int)<=(j:Int))) == true) (.slice a N c),pg ((decide ((i4:Int)<=(j:Int))) == true) (I6 (i4:Int)),pg ((decide ((i4:Int)<=(j:Int))) == true) (.pointer (some ⟨bkS (.slice a N c),ofS (.slice a N c)+(i4:Int).toNat*1,none⟩)),pg ((decide ((i4:Int)<=(j:Int))) == true) (I7 (d1[i4]!)),pg ((decide ((i4:Int)<=(j:Int))) == true) (.slice a N c),pg ((decide ((i4:Int)<=(j:Int))) == true) (I6 (lo:Int)),pg ((decide ((i4:Int)<=(j:Int))) == true) (.pointer (some ⟨bkS (.slice a N c),ofS (.slice a N c)+(lo:Int).toNat*1,none⟩)),pg ((decide ((i4:Int)<=(j:Int))) == true) (I7 (d1[lo]!)),pg ((decide ((i4:Int)<=(j:Int))) == true) (.bool (decide (d1[i4]!<d1[lo]!))),pv (.bool ((decide ((i4:Int)<=(j:Int)))&&(decide (d1[i4]!<d1[lo]!))))] (fun _ _=>_) [13] (by kernel_rfl) Y ⟨?_,?_,?_,?_,?_,?_,?_,?_,?_,?_,?_,?_,?_,?_,trivial⟩ ?_))
 ·exact oi [] fun Y=>Qaf (.int .i64 (i4:Int)) (Zz Y)
 ·exact oi [] fun Y=>Qaf (.int .i64 (j:Int)) (Zz Y)
 ·exact oi [0,1] fun Y=>Qew rfl rfl (Zz Y)
 ·exact oi [2] fun Y=>Qaf (.bool (decide ((i4:Int)<=(j:Int)))) (Zz Y)
 ·refine ogi [3] fun hG Y=>?_
  have hgd:=QQ1 (eq_of_beq hG)
  exact Qaf (.slice a N c) (Zz Y)
 ·refine ogi [3] fun hG Y=>?_
  have hgd:=QQ1 (eq_of_beq hG)
  exact Qaf (.int .i64 (i4:Int)) (Zz Y)
 ·refine oyi [3,4,5] [4,5] fun hG Y=>?_
  have hgd:=QQ1 (eq_of_beq hG)
  exact Qax QaP Qar.1 (Y.rd 0 rfl) rfl rfl (by omega) (by simp only [QQ6,QQ9,QQ5,Go.Sort.size_swp];omega) (Zz Y)
 ·refine oyi [3,6] [6] fun hG Y=>?_
  have hgd:=QQ1 (eq_of_beq hG)
  exact QaV (j:=0) (V:=.int .u16 (d1[i4]!)) i4 Qar (Y.rd 0 rfl) (QbA (by omega)) rfl rfl (by omega) (Zz Y)
 ·refine ogi [3] fun hG Y=>?_
  have hgd:=QQ1 (eq_of_beq hG)
  exact Qaf (.slice a N c) (Zz Y)
 ·refine ogi [3] fun hG Y=>?_
  have hgd:=QQ1 (eq_of_beq hG)
  exact Qaf (.int .i64 (lo:Int)) (Zz Y)
 ·refine oyi [3,8,9] [8,9] fun hG Y=>?_
  have hgd:=QQ1 (eq_of_beq hG)
  exact Qax QaP Qar.1 (Y.rd 0 rfl) rfl rfl (by omega) (by simp only [QQ6,QQ9,QQ5,Go.Sort.size_swp];omega) (Zz Y)
 ·refine oyi [3,10] [10] fun hG Y=>?_
  have hgd:=QQ1 (eq_of_beq hG)
  exact QaV (j:=0) (V:=.int .u16 (d1[lo]!)) lo Qar (Y.rd 0 rfl) (QbA (by omega)) rfl rfl (by omega) (Zz Y)
 ·refine oyi [3,7,11] [7,11] fun hG Y=>?_
  have hgd:=QQ1 (eq_of_beq hG)
  exact Qas (vs:=[.int .u16 (d1[i4]!),.int .u16 (d1[lo]!)]) (V:=.bool (decide (d1[i4]!<d1[lo]!))) Qdr rfl rfl (QcF _ (d1[i4]!) (d1[lo]!)) Y fun _ Y=>Zz Y
 ·exact oi [3,12] fun Y=>Qbg (h':=decide (d1[i4]!<d1[lo]!)) rfl rfl rfl (Zz Y)
 rintro J1 w22 J2 hJ Y
 replace hJ:J2=upd (mix (sq 99 14) J1 _) 112 (.bool ((decide ((i4:Int)<=(j:Int)))&&(decide (d1[i4]!<d1[lo]!)))):=hJ
 subst hJ
 refine Qak (t:=(decide ((i4:Int)<=(j:Int)))&&(decide (d1[i4]!<d1[lo]!))) rfl (fun c23=>?_) (fun c23=>?_)
 ·
  have c23r:=Qcl c23
  replace c23:=QbZ c23
  replace c23:=QQ1 c23
  replace c23r:=QQ1 c23r
  refine Qap (Qal (Qab (Qaa (Qaf (I6 (i4:Int)) (Qaa (QaB (a:=(i4:Int)) (b:=1) (c:=((i4+1:Nat):Int)) rfl rfl (Qaj (by omega) (by omega)) (Qaa (Qam (I6 ((i4+1:Nat):Int)) (Qad ?_)))))))))
  refine ⟨_,?_,_,i4+1,Qai (Qao (ds:=([10]++sq 99 16)) (by repeat (first|exact Agr.refl _ _|refine Agr.upd ?_ rfl|refine Agr.mix ?_ rfl))) rfl,(by omega),(by omega),(by rw [← hsu4,QnH (p:=fun x=>ltInt x d1[lo]!) (b:=decide (d1[i4]!<d1[lo]!)) rfl c23 (QQ3 c23r)]),rfl,Y.take 1⟩
  omega
 refine QaI (Qae (Qal ?_))
 have hi4:i4=Sort.scanUp (fun x=>ltInt x d1[lo]!) d1 j i:=by rw [← hsu4,Qs0 (p:=fun x=>ltInt x d1[lo]!) (b:=decide (d1[i4]!<d1[lo]!)) rfl c23]
 refine QaE (fun J μ J' w'=>∃ (Jo:Env) (j4:Nat),J'=upd (mix ([11]++sq 115 17) Jo J) 11 (I6 (j4:Int))/\(j4<=j)/\(Sort.scanDown (fun x=>!ltInt x d1[lo]!) d1 i4 j4=Sort.scanDown (fun x=>!ltInt x d1[lo]!) d1 i4 (j))/\(lo<=j4)/\μ=2*j4/\Own w S w' [row (.slice a N c) (d1.toList.map (ic .u16)) 32 1]) ?_ ?_
 ·exact ⟨_,_,j,Qai (Qao (ds:=([11]++sq 115 17)) (Agr.refl _ _)) rfl,(Nat.le_refl _),rfl,(by omega),rfl,Y⟩
 rintro μ J' w24 ⟨Jo,j4,rfl,hj4b,hsd4,hlowj4,rfl,Y⟩
 refine Qae (Qae (QaH HM (so 115 15) [] [0,0,3,7,15,15,63,127,15,15,783,1807,4095,8191,16383] [pv (I6 (i4:Int)),pv (I6 (j4:Int)),pv (.bool (decide ((i4:Int)<=(j4:Int)))),pv (.bool (decide ((i4:Int)<=(j4:Int)))),pg ((decide ((i4:Int)<=(j4:Int))) == true) (.slice a N c),pg ((decide ((i4:Int)<=(j4:Int))) == true) (I6 (j4:Int)),pg ((decide ((i4:Int)<=(j4:Int))) == true) (.pointer (some ⟨bkS (.slice a N c),ofS (.slice a N c)+(j4:Int).toNat*1,none⟩)),pg ((decide ((i4:Int)<=(j4:Int))) == true) (I7 (d1[j4]!)),pg ((decide ((i4:Int)<=(j4:Int))) == true) (.slice a N c),pg ((decide ((i4:Int)<=(j4:Int))) == true) (I6 (lo:Int)),pg ((decide ((i4:Int)<=(j4:Int))) == true) (.pointer (some ⟨bkS (.slice a N c),ofS (.slice a N c)+(lo:Int).toNat*1,none⟩)),pg ((decide ((i4:Int)<=(j4:Int))) == true) (I7 (d1[lo]!)),pg ((decide ((i4:Int)<=(j4:Int))) == true) (.bool (decide (d1[j4]!<d1[lo]!))),pg ((decide ((i4:Int)<=(j4:Int))) == true) (.bool (!decide (d1[j4]!<d1[lo]!))),pv (.bool ((decide ((i4:Int)<=(j4:Int)))&&(!decide (d1[j4]!<d1[lo]!))))] (fun _ _=>_) [14] (by kernel_rfl) Y ⟨?_,?_,?_,?_,?_,?_,?_,?_,?_,?_,?_,?_,?_,?_,?_,trivial⟩ ?_))
 ·exact oi [] fun Y=>Qaf (.int .i64 (i4:Int)) (Zz Y)
 ·exact oi [] fun Y=>Qaf (.int .i64 (j4:Int)) (Zz Y)
 ·exact oi [0,1] fun Y=>Qew rfl rfl (Zz Y)
 ·exact oi [2] fun Y=>Qaf (.bool (decide ((i4:Int)<=(j4:Int)))) (Zz Y)
 ·refine ogi [3] fun hG Y=>?_
  have hgd:=QQ1 (eq_of_beq hG)
  exact Qaf (.slice a N c) (Zz Y)
 ·refine ogi [3] fun hG Y=>?_
  have hgd:=QQ1 (eq_of_beq hG)
  exact Qaf (.int .i64 (j4:Int)) (Zz Y)
 ·refine oyi [3,4,5] [4,5] fun hG Y=>?_
  have hgd:=QQ1 (eq_of_beq hG)
  exact Qax QaP Qar.1 (Y.rd 0 rfl) rfl rfl (by omega) (by simp only [QQ6,QQ9,QQ5,Go.Sort.size_swp];omega) (Zz Y)
 ·refine oyi [3,6] [6] fun hG Y=>?_
  have hgd:=QQ1 (eq_of_beq hG)
  exact QaV (j:=0) (V:=.int .u16 (d1[j4]!)) j4 Qar (Y.rd 0 rfl) (QbA (by omega)) rfl rfl (by omega) (Zz Y)
 ·refine ogi [3] fun hG Y=>?_
  have hgd:=QQ1 (eq_of_beq hG)
  exact Qaf (.slice a N c) (Zz Y)
 ·refine ogi [3] fun hG Y=>?_
  have hgd:=QQ1 (eq_of_beq hG)
  exact Qaf (.int .i64 (lo:Int)) (Zz Y)
 ·refine oyi [3,8,9] [8,9] fun hG Y=>?_
  have hgd:=QQ1 (eq_of_beq hG)
  exact Qax QaP Qar.1 (Y.rd 0 rfl) rfl rfl (by omega) (by simp only [QQ6,QQ9,QQ5,Go.Sort.size_swp];omega) (Zz Y)
 ·refine oyi [3,10] [10] fun hG Y=>?_
  have hgd:=QQ1 (eq_of_beq hG)
  exact QaV (j:=0) (V:=.int .u16 (d1[lo]!)) lo Qar (Y.rd 0 rfl) (QbA (by omega)) rfl rfl (by omega) (Zz Y)
 ·refine oyi [3,7,11] [7,11] fun hG Y=>?_
  have hgd:=QQ1 (eq_of_beq hG)
  exact Qas (vs:=[.int .u16 (d1[j4]!),.int .u16 (d1[lo]!)]) (V:=.bool (decide (d1[j4]!<d1[lo]!))) Qdr rfl rfl (QcF _ (d1[j4]!) (d1[lo]!)) Y fun _ Y=>Zz Y
 ·refine oyi [3,12] [12] fun hG Y=>?_
  have hgd:=QQ1 (eq_of_beq hG)
  exact QbB rfl (Zz Y)
 ·exact oi [3,13] fun Y=>Qbg (h':=!decide (d1[j4]!<d1[lo]!)) rfl rfl rfl (Zz Y)
 rintro J1 w26 J2 hJ Y
 replace hJ:J2=upd (mix (sq 115 15) J1 _) 129 (.bool ((decide ((i4:Int)<=(j4:Int)))&&(!decide (d1[j4]!<d1[lo]!)))):=hJ
 subst hJ
 refine Qak (t:=(decide ((i4:Int)<=(j4:Int)))&&(!decide (d1[j4]!<d1[lo]!))) rfl (fun c27=>?_) (fun c27=>?_)
 ·
  have c27r:=Qcl c27
  replace c27:=QbZ c27
  replace c27:=QQ1 c27
  replace c27r:=QbE c27r
  replace c27r:=QQ2 c27r
  refine Qap (Qal (Qab (Qaa (Qaf (I6 (j4:Int)) (Qaa (Qbb (a:=(j4:Int)) (b:=1) (c:=((j4-1:Nat):Int)) rfl rfl (Qaj (by omega) (by omega)) (Qaa (Qam (I6 ((j4-1:Nat):Int)) (Qad ?_)))))))))
  refine ⟨_,?_,_,j4-1,Qai (Qao (ds:=([11]++sq 115 17)) (by repeat (first|exact Agr.refl _ _|refine Agr.upd ?_ rfl|refine Agr.mix ?_ rfl))) rfl,(by omega),(by rw [← hsd4,Qm2 (p:=fun x=>!ltInt x d1[lo]!) (b:=!decide (d1[j4]!<d1[lo]!)) (by omega) rfl c27 (by rw [QQ4 c27r];rfl)]),(by omega),rfl,Y.take 1⟩
  omega
 refine QaI (Qae (Qae ?_))
 have hj4:j4=Sort.scanDown (fun x=>!ltInt x d1[lo]!) d1 i4 j:=by rw [← hsd4,Qth (p:=fun x=>!ltInt x d1[lo]!) (b:=!decide (d1[j4]!<d1[lo]!)) rfl c27]
 refine Qab (Qaa (Qaf (I6 (i4:Int)) (Qaa (Qaf (I6 (j4:Int)) (Qaa (Qca rfl rfl (Qad (Qak (t:=decide ((j4:Int)<(i4:Int))) rfl (fun c28=>?_) (fun c28=>?_)))))))))
 ·
  replace c28:=QQ1 c28
  refine QaI (Qae (QaH HM (so 153 13++[none,some 166,none]) [] [0,0,0,0,0,0,48,112,0,0,768,1792,4083,8179,16383,32767] [pv (.slice a N c),pv (I6 (j4:Int)),pv (.slice a N c),pv (I6 (lo:Int)),pv (.slice a N c),pv (I6 (lo:Int)),pv (.pointer (some ⟨bkS (.slice a N c),ofS (.slice a N c)+(lo:Int).toNat*1,none⟩)),pv (I7 (d1[lo]!)),pv (.slice a N c),pv (I6 (j4:Int)),pv (.pointer (some ⟨bkS (.slice a N c),ofS (.slice a N c)+(j4:Int).toNat*1,none⟩)),pv (I7 (d1[j4]!)),pv (.pointer (some ⟨bkS (.slice a N c),ofS (.slice a N c)+(j4:Int).toNat*1,none⟩)),pn,pv (.pointer (some ⟨bkS (.slice a N c),ofS (.slice a N c)+(lo:Int).toNat*1,none⟩)),pn] (fun D J=>[cond (D 15) (row (.slice a N c) ((((d1.setIfInBounds j4 (d1[lo]!)).setIfInBounds lo (d1[j4]!)).toList).map (ic .u16)) 32 1) (cond (D 13) (row (.slice a N c) (((d1.setIfInBounds j4 (d1[lo]!)).toList).map (ic .u16)) 32 1) (row (.slice a N c) (d1.toList.map (ic .u16)) 32 1))]) [] (by kernel_rfl) Y ⟨?_,?_,?_,?_,?_,?_,?_,?_,?_,?_,?_,?_,?_,?_,?_,?_,trivial⟩ ?_))
  ·exact oi [] fun Y=>Qaf (.slice a N c) (Zz Y)
  ·exact oi [] fun Y=>Qaf (.int .i64 (j4:Int)) (Zz Y)
  ·exact oi [] fun Y=>Qaf (.slice a N c) (Zz Y)
  ·exact oi [] fun Y=>Qaf (.int .i64 (lo:Int)) (Zz Y)
  ·exact oi [] fun Y=>Qaf (.slice a N c) (Zz Y)
  ·exact oi [] fun Y=>Qaf (.int .i64 (lo:Int)) (Zz Y)
  ·exact ob [4,5] [13,15] rfl rfl fun D J w Y=>Qax QaP Qar.1 (Y.rd 0 rfl) rfl rfl (by omega) (by simp only [QQ6,QQ9,QQ5,Go.Sort.size_swp];omega) (Zz Y)
  ·exact ob [6] [13,15] rfl rfl fun D J w Y=>QaV (j:=0) (V:=I7 (d1[lo]!)) lo Qar (Y.rd 0 rfl) (QbA (by omega)) rfl rfl (by omega) (Zz Y)
  ·exact oi [] fun Y=>Qaf (.slice a N c) (Zz Y)
  ·exact oi [] fun Y=>Qaf (.int .i64 (j4:Int)) (Zz Y)
  ·exact ob [8,9] [13,15] rfl rfl fun D J w Y=>Qax QaP Qar.1 (Y.rd 0 rfl) rfl rfl (by omega) (by simp only [QQ6,QQ9,QQ5,Go.Sort.size_swp];omega) (Zz Y)
  ·exact ob [10] [13,15] rfl rfl fun D J w Y=>QaV (j:=0) (V:=I7 (d1[j4]!)) j4 Qar (Y.rd 0 rfl) (QbA (by omega)) rfl rfl (by omega) (Zz Y)
  ·exact ob [0,1] [13,15] rfl rfl fun D J w Y=>Qax QaP Qar.1 (Y.rd 0 rfl) rfl rfl (by omega) (by simp only [QQ6,QQ9,QQ5,Go.Sort.size_swp];omega) (Zz Y)
  ·exact ob [7,12] [15] rfl rfl fun D J w Y=>Qcv (z:=d1[lo]!) j4 Qar Y 0 rfl rfl (by omega) (by first|omega|(simp only [QQ5,Go.Sort.size_swp];omega)) rfl rfl rfl fun _ Y=>⟨trivial,Y⟩
  ·exact ob [2,3,13] [15] rfl rfl fun D J w Y=>Qax QaP Qar.1 (Y.rd 0 rfl) rfl rfl (by omega) (by simp only [QQ6,QQ9,QQ5,Go.Sort.size_swp];omega) (Zz Y)
  ·exact oi [11,13,14] fun Y=>Qcv (z:=d1[j4]!) lo Qar Y 0 rfl rfl (by omega) (by first|omega|(simp only [QQ5,Go.Sort.size_swp];omega)) rfl rfl rfl fun _ Y=>⟨trivial,Y⟩
  rintro J1 w31 J2 hJ Y
  replace hJ:J2=mix (sq 153 14) J1 _:=hJ
  replace Y:Own w S w31 [row (.slice a N c) ((((d1.setIfInBounds j4 (d1[lo]!)).setIfInBounds lo (d1[j4]!)).toList).map (ic .u16)) 32 1]:=Y
  subst hJ
  refine Qae (Qab (Qaa (Qaf (I6 (j4:Int)) (Qaa (Qam (I6 (j4:Int)) (Qaa (Qam (.bool false) (Qad (Qav ?_)))))))))
  refine ⟨_,QbO (U:=I6 (j4:Int)) (V:=.bool false) results180 rfl rfl,?_⟩
  have hX:partition ltInt d lo hi pvx=(j4,false,Sort.swp d1 j4 lo):=by rw [hpt,← hev,QsZ hi4 hj4 c28]
  rw [hX]
  exact ⟨(),rfl,Y.take 1,by first|(rw [Go.Sort.size_swp];assumption)|assumption⟩
 replace c28:=QQ2 c28
 refine Qap (Qae (QaH HM (so 135 13++[none,some 148,none]) [] [0,0,0,0,0,0,48,112,0,0,768,1792,4083,8179,16383,32767] [pv (.slice a N c),pv (I6 (i4:Int)),pv (.slice a N c),pv (I6 (j4:Int)),pv (.slice a N c),pv (I6 (j4:Int)),pv (.pointer (some ⟨bkS (.slice a N c),ofS (.slice a N c)+(j4:Int).toNat*1,none⟩)),pv (I7 (d1[j4]!)),pv (.slice a N c),pv (I6 (i4:Int)),pv (.pointer (some ⟨bkS (.slice a N c),ofS (.slice a N c)+(i4:Int).toNat*1,none⟩)),pv (I7 (d1[i4]!)),pv (.pointer (some ⟨bkS (.slice a N c),ofS (.slice a N c)+(i4:Int).toNat*1,none⟩)),pn,pv (.pointer (some ⟨bkS (.slice a N c),ofS (.slice a N c)+(j4:Int).toNat*1,none⟩)),pn] (fun D J=>[cond (D 15) (row (.slice a N c) ((((d1.setIfInBounds i4 (d1[j4]!)).setIfInBounds j4 (d1[i4]!)).toList).map (ic .u16)) 32 1) (cond (D 13) (row (.slice a N c) (((d1.setIfInBounds i4 (d1[j4]!)).toList).map (ic .u16)) 32 1) (row (.slice a N c) (d1.toList.map (ic .u16)) 32 1))]) [] (by kernel_rfl) Y ⟨?_,?_,?_,?_,?_,?_,?_,?_,?_,?_,?_,?_,?_,?_,?_,?_,trivial⟩ ?_))
 ·exact oi [] fun Y=>Qaf (.slice a N c) (Zz Y)
 ·exact oi [] fun Y=>Qaf (.int .i64 (i4:Int)) (Zz Y)
 ·exact oi [] fun Y=>Qaf (.slice a N c) (Zz Y)
 ·exact oi [] fun Y=>Qaf (.int .i64 (j4:Int)) (Zz Y)
 ·exact oi [] fun Y=>Qaf (.slice a N c) (Zz Y)
 ·exact oi [] fun Y=>Qaf (.int .i64 (j4:Int)) (Zz Y)
 ·exact ob [4,5] [13,15] rfl rfl fun D J w Y=>Qax QaP Qar.1 (Y.rd 0 rfl) rfl rfl (by omega) (by simp only [QQ6,QQ9,QQ5,Go.Sort.size_swp];omega) (Zz Y)
 ·exact ob [6] [13,15] rfl rfl fun D J w Y=>QaV (j:=0) (V:=I7 (d1[j4]!)) j4 Qar (Y.rd 0 rfl) (QbA (by omega)) rfl rfl (by omega) (Zz Y)
 ·exact oi [] fun Y=>Qaf (.slice a N c) (Zz Y)
 ·exact oi [] fun Y=>Qaf (.int .i64 (i4:Int)) (Zz Y)
 ·exact ob [8,9] [13,15] rfl rfl fun D J w Y=>Qax QaP Qar.1 (Y.rd 0 rfl) rfl rfl (by omega) (by simp only [QQ6,QQ9,QQ5,Go.Sort.size_swp];omega) (Zz Y)
 ·exact ob [10] [13,15] rfl rfl fun D J w Y=>QaV (j:=0) (V:=I7 (d1[i4]!)) i4 Qar (Y.rd 0 rfl) (QbA (by omega)) rfl rfl (by omega) (Zz Y)
 ·exact ob [0,1] [13,15] rfl rfl fun D J w Y=>Qax QaP Qar.1 (Y.rd 0 rfl) rfl rfl (by omega) (by simp only [QQ6,QQ9,QQ5,Go.Sort.size_swp];omega) (Zz Y)
 ·exact ob [7,12] [15] rfl rfl fun D J w Y=>Qcv (z:=d1[j4]!) i4 Qar Y 0 rfl rfl (by omega) (by first|omega|(simp only [QQ5,Go.Sort.size_swp];omega)) rfl rfl rfl fun _ Y=>⟨trivial,Y⟩
 ·exact ob [2,3,13] [15] rfl rfl fun D J w Y=>Qax QaP Qar.1 (Y.rd 0 rfl) rfl rfl (by omega) (by simp only [QQ6,QQ9,QQ5,Go.Sort.size_swp];omega) (Zz Y)
 ·exact oi [11,13,14] fun Y=>Qcv (z:=d1[i4]!) j4 Qar Y 0 rfl rfl (by omega) (by first|omega|(simp only [QQ5,Go.Sort.size_swp];omega)) rfl rfl rfl fun _ Y=>⟨trivial,Y⟩
 rintro J1 w34 J2 hJ Y
 replace hJ:J2=mix (sq 135 14) J1 _:=hJ
 replace Y:Own w S w34 [row (.slice a N c) ((((d1.setIfInBounds i4 (d1[j4]!)).setIfInBounds j4 (d1[i4]!)).toList).map (ic .u16)) 32 1]:=Y
 subst hJ
 refine Qae (Qab (Qaa (Qaf (I6 (i4:Int)) (Qaa (QaB (a:=(i4:Int)) (b:=1) (c:=((i4+1:Nat):Int)) rfl rfl (Qaj (by omega) (by omega)) (Qaa (Qam (I6 ((i4+1:Nat):Int)) (Qad (Qab (Qaa (Qaf (I6 (j4:Int)) (Qaa (Qbb (a:=(j4:Int)) (b:=1) (c:=((j4-1:Nat):Int)) rfl rfl (Qaj (by omega) (by omega)) (Qaa (Qam (I6 ((j4-1:Nat):Int)) (Qad ?_))))))))))))))))
 refine ⟨_,?_,_,i4+1,j4-1,((d1.setIfInBounds i4 (d1[j4]!)).setIfInBounds j4 (d1[i4]!)),Qai (Qai (Qao (ds:=([10,11]++sq 99 54)) (by repeat (first|exact Agr.refl _ _|refine Agr.upd ?_ rfl|refine Agr.mix ?_ rfl))) rfl) rfl,(by omega),(by omega),(by omega),(by simp only [QQ5];exact hz1),(by rw [← hev,QxF hi4 hj4 c28];rfl),rfl,Y.take 1⟩
 omega
end Tt
end Go.Proofs
namespace Go.Proofs
open Go Go.Vx Go.RowKit
open Tryz
namespace Tt
theorem QxW (w:World) (S:Nat->Prop) (a:Option Addr) (N c:Nat) (d:Array Int) (hsz:d.size=N) (hN:N<=2305843009213693951) (lo hi:Nat) (h1:lo<=hi) (h2:hi<=N) (hxor:Qsj prog 163 211) (hpow:QtA prog 162) (hR:(row (.slice a N c) (d.toList.map (ic .u16)) 32 1).holds w S) (hlt:∀ x,S x->x<w.heap.size):Calls prog 174 #[.slice a N c,.int .i64 (lo:Int),.int .i64 (hi:Int)] w (fun e w'=>∃ x:Unit,e = .returned (.tuple #[])/\Own w S w' [row (.slice a N c) ((Sort.breakPatterns d lo hi).toList.map (ic .u16)) 32 1]/\(Sort.breakPatterns d lo hi).size=N):=by
 refine Qah (n:=65) func174 rfl ntmps174 rfl ?_
 have Y:=Own.lent hR hlt
 refine Qae (Qab (Qaa (Qaf (I6 (hi:Int)) (Qaa (Qaf (I6 (lo:Int)) (Qaa (Qbb (a:=(hi:Int)) (b:=(lo:Int)) (c:=((hi-lo:Nat):Int)) rfl rfl (Qaj (by omega) (by omega)) (Qaa (Qam (I6 ((hi-lo:Nat):Int)) (Qad (Qae (Qab (Qaa (Qaf (I6 ((hi-lo:Nat):Int)) (Qaa (QcZ rfl rfl (Qad (Qak (t:=decide (8<=((hi-lo:Nat):Int))) rfl (fun c1=>?_) (fun c1=>?_)))))))))))))))))))
 ·
  replace c1:=QQ1 c1
  refine Qae (Qab (Qaa (Qaf (I6 ((hi-lo:Nat):Int)) (Qaa (QbV Qhk Qv0 rfl (Qdu (by omega) (by omega)) (Qaa (QaJ (cs:=[.int .u64 0]) Qwo rfl Y fun b2 w3 Y=>(Qaa (Qcs (V:=.int .u64 ((hi-lo:Nat):Int)) (cs':=[.int .u64 ((hi-lo:Nat):Int)]) Qwe Y 1 rfl rfl rfl rfl (QQ8 rfl) rfl fun w4 Y=>(Qad (Qae (Qab (Qaa (Qaf (I6 ((hi-lo:Nat):Int)) (Qaa (Qas (vs:=[I6 ((hi-lo:Nat):Int)]) (V:=.int .u64 ((1 <<< Sort.bitsLen (hi-lo):Nat):Int)) Qua rfl rfl ?hc Y fun w5 Y=>?_))))))))))))))))
  case hc=>exact (hpow _ (hi-lo) (by omega))
  refine Qaa (Qam (.int .u64 ((1 <<< Sort.bitsLen (hi-lo):Nat):Int)) (Qad (Qae (Qab (Qaa (Qaf (I6 (lo:Int)) (Qaa (Qaf (I6 ((hi-lo:Nat):Int)) (Qaa (QjA (a:=((hi-lo:Nat):Int)) (b:=4) (c:=(((hi-lo)/4:Nat):Int)) rfl rfl (by decide) (Qaj rfl (by omega)) (Qaa (Qhh (a:=(((hi-lo)/4:Nat):Int)) (b:=2) (c:=((((hi-lo)/4)*2:Nat):Int)) rfl rfl (Qaj (by omega) (by omega)) (Qaa (QaB (a:=(lo:Int)) (b:=((((hi-lo)/4)*2:Nat):Int)) (c:=((lo+(((hi-lo)/4)*2):Nat):Int)) rfl rfl (Qaj (by omega) (by omega)) (Qaa (Qbb (a:=((lo+(((hi-lo)/4)*2):Nat):Int)) (b:=1) (c:=(((lo+(((hi-lo)/4)*2))-1:Nat):Int)) rfl rfl (Qaj (by omega) (by omega)) (Qaa (Qam (I6 (((lo+(((hi-lo)/4)*2))-1:Nat):Int)) (Qad (Qal ?_))))))))))))))))))))
  have hmd:=QvX (n:=hi-lo) (by omega)
  have hu:(UInt64.ofNat (hi-lo)).toNat=hi-lo:=UInt64.toNat_ofNat_of_lt (by show hi-lo<18446744073709551616;omega)
  replace Y:=Y.conv 1 rfl (R':=blk b2 [.int .u64 (((UInt64.ofNat (hi-lo)).toNat:Nat):Int)] 211) (fun S h=>by rw [hu];exact h)
  refine QaE (fun J μ J' w'=>∃ (Jo:Env) (q:Nat) (st:UInt64 × Array Int),J'=upd (mix ([9,10]++sq 26 39) Jo J) 9 (I6 (((lo+((hi-lo)/4)*2-1)+q:Nat):Int))/\(q<=3)/\(st=bpS lo (hi-lo) (1 <<< Sort.bitsLen (hi-lo)) (UInt64.ofNat (hi-lo),d) (lo+((hi-lo)/4)*2-1) (q))/\(st.2.size=N)/\μ=3-q/\Own w S w' [row (.slice a N c) (st.2.toList.map (ic .u16)) 32 1,blk b2 [.int .u64 ((st.1.toNat:Nat):Int)] 211]) ?_ ?_
  ·exact ⟨_,_,0,(UInt64.ofNat (hi-lo),d),Qai (Qao (ds:=([9,10]++sq 26 39)) (Agr.refl _ _)) rfl,(by omega),rfl,hsz,rfl,Y⟩
  rintro μ J' w6 ⟨Jo,q,st,rfl,hq,hst,hzs,rfl,Y⟩
  refine Qae (Qae (Qab (Qaa (Qaf (I6 (((lo+((hi-lo)/4)*2-1)+q:Nat):Int)) (Qaa (Qaf (I6 (lo:Int)) (Qaa (Qaf (I6 ((hi-lo:Nat):Int)) (Qaa (QjA (a:=((hi-lo:Nat):Int)) (b:=4) (c:=(((hi-lo)/4:Nat):Int)) rfl rfl (by decide) (Qaj rfl (by omega)) (Qaa (Qhh (a:=(((hi-lo)/4:Nat):Int)) (b:=2) (c:=((((hi-lo)/4)*2:Nat):Int)) rfl rfl (Qaj (by omega) (by omega)) (Qaa (QaB (a:=(lo:Int)) (b:=((((hi-lo)/4)*2:Nat):Int)) (c:=((lo+(((hi-lo)/4)*2):Nat):Int)) rfl rfl (Qaj (by omega) (by omega)) (Qaa (QaB (a:=((lo+(((hi-lo)/4)*2):Nat):Int)) (b:=1) (c:=(((lo+(((hi-lo)/4)*2))+1:Nat):Int)) rfl rfl (Qaj (by omega) (by omega)) (Qaa (Qew rfl rfl (Qad (Qak (t:=decide ((((lo+((hi-lo)/4)*2-1)+q:Nat):Int)<=(((lo+(((hi-lo)/4)*2))+1:Nat):Int))) rfl (fun c7=>?_) (fun c7=>?_)))))))))))))))))))))
  ·
   replace c7:=QQ1 c7
   refine Qap (Qae (Qal (Qae ?_)))
   have hand:=Nat.and_le_right (n:=Sort.xorNextN st.1.toNat) (m:=1 <<< Sort.bitsLen (hi-lo)-1)
   refine Qab (Qaa (QbF (vs:=[Pq b2 0]) (V:=fun _:Unit=>.int .u64 ((Sort.xorNextN st.1.toNat:Nat):Int)) (R:=blk b2 [.int .u64 ((st.1.toNat:Nat):Int)] 211) (R':=fun _=>blk b2 [.int .u64 ((Sort.xorNextN st.1.toNat:Nat):Int)] 211) (Lo:=fun _=>[]) (F:=fun _ _=>True) QvS rfl rfl Y 1 rfl (fun S hS hlt=>hxor _ S b2 st.1.toNat (by first|omega|exact UInt64.toNat_lt _) hS hlt) fun _ w8 Y _=>(Qaa (Qaf (.int .u64 ((1 <<< Sort.bitsLen (hi-lo):Nat):Int)) (Qaa (Qa8 (V:=.int .u64 (((1 <<< Sort.bitsLen (hi-lo):Nat):Int)-1)) (V':=.int .u64 ((1 <<< Sort.bitsLen (hi-lo)-1:Nat):Int)) (Qbb (a:=((1 <<< Sort.bitsLen (hi-lo):Nat):Int)) (b:=1) (c:=((1 <<< Sort.bitsLen (hi-lo):Nat):Int)-1) rfl rfl (Qdu (by omega) (by omega)) ⟨rfl,rfl⟩) (congrArg (Value.int .u64) (by omega)) (Qaa (Qa8 (V:=.int .u64 (bits .and .u64 ((Sort.xorNextN st.1.toNat:Nat):Int) ((1 <<< Sort.bitsLen (hi-lo)-1:Nat):Int))) (V':=.int .u64 ((Sort.xorNextN st.1.toNat &&& (1 <<< Sort.bitsLen (hi-lo)-1):Nat):Int)) (QuQ rfl rfl ⟨rfl,rfl⟩) (congrArg (Value.int .u64) (QtP (Sort.xorNextN_lt _ (UInt64.toNat_lt _)) (by omega))) (Qaa (QbV QdH Qhk rfl (Qbx (by omega) (by omega)) (Qaa (Qam (I6 ((Sort.xorNextN st.1.toNat &&& (1 <<< Sort.bitsLen (hi-lo)-1):Nat):Int)) (Qad (Qae (Qae (Qab (Qaa (Qaf (I6 ((Sort.xorNextN st.1.toNat &&& (1 <<< Sort.bitsLen (hi-lo)-1):Nat):Int)) (Qaa (Qaf (I6 ((hi-lo:Nat):Int)) (Qaa (QcZ rfl rfl (Qad (Qgi (fun J J' w'=>∃ (Jo:Env) (ot:Nat),J'=upd (mix [10,44,45,46] Jo J) 10 (I6 (ot:Int))/\(ot=QgZ lo (hi-lo) (1 <<< Sort.bitsLen (hi-lo)) st.1.toNat)/\Own w S w' [row (.slice a N c) (st.2.toList.map (ic .u16)) 32 1,blk b2 [.int .u64 ((Sort.xorNextN st.1.toNat:Nat):Int)] 211]) ?_ ?_))))))))))))))))))))))))
   ·
    refine Qak (t:=decide (((hi-lo:Nat):Int)<=((Sort.xorNextN st.1.toNat &&& (1 <<< Sort.bitsLen (hi-lo)-1):Nat):Int))) rfl (fun c9=>?_) (fun c9=>?_)
    ·
     replace c9:=QQ1 c9
     refine Qab (Qaa (Qaf (I6 ((Sort.xorNextN st.1.toNat &&& (1 <<< Sort.bitsLen (hi-lo)-1):Nat):Int)) (Qaa (Qaf (I6 ((hi-lo:Nat):Int)) (Qaa (Qbb (a:=((Sort.xorNextN st.1.toNat &&& (1 <<< Sort.bitsLen (hi-lo)-1):Nat):Int)) (b:=((hi-lo:Nat):Int)) (c:=(((Sort.xorNextN st.1.toNat &&& (1 <<< Sort.bitsLen (hi-lo)-1))-(hi-lo):Nat):Int)) rfl rfl (Qaj (by omega) (by omega)) (Qaa (Qam (I6 (((Sort.xorNextN st.1.toNat &&& (1 <<< Sort.bitsLen (hi-lo)-1))-(hi-lo):Nat):Int)) (Qad ?_)))))))))
     exact ⟨_,(Sort.xorNextN st.1.toNat &&& (1 <<< Sort.bitsLen (hi-lo)-1))-(hi-lo),Qai (Qao (ds:=[10,44,45,46]) (by repeat (first|exact Agr.refl _ _|refine Agr.upd ?_ rfl|refine Agr.mix ?_ rfl))) rfl,(by unfold QgZ;rw [if_pos (by omega)]),Y.take 2⟩
    replace c9:=QQ2 c9
    refine Qap ?_
    exact ⟨_,Sort.xorNextN st.1.toNat &&& (1 <<< Sort.bitsLen (hi-lo)-1),Qai (Qao (ds:=[10,44,45,46]) (by repeat (first|exact Agr.refl _ _|refine Agr.upd ?_ rfl|refine Agr.mix ?_ rfl))) rfl,(by unfold QgZ;rw [if_neg (by omega)]),Y.take 2⟩
   rintro J' w10 ⟨Jo,ot,rfl,hot,Y⟩
   have hol:=QpP (lo:=lo) (len:=hi-lo) (r:=st.1.toNat) (by omega)
   rw [← hot] at hol
   refine QaH HM (so 47 17++[none,some 64,none]) [] [0,0,0,0,0,24,0,0,0,384,960,1984,0,0,12288,28672,65475,131011,262143,524287] [pv (.slice a N c),pv (I6 (((lo+((hi-lo)/4)*2-1)+q:Nat):Int)),pv (.slice a N c),pv (I6 (lo:Int)),pv (I6 (ot:Int)),pv (I6 ((lo+ot:Nat):Int)),pv (.slice a N c),pv (I6 (lo:Int)),pv (I6 (ot:Int)),pv (I6 ((lo+ot:Nat):Int)),pv (.pointer (some ⟨bkS (.slice a N c),ofS (.slice a N c)+((lo+ot:Nat):Int).toNat*1,none⟩)),pv (I7 (st.2[lo+ot]!)),pv (.slice a N c),pv (I6 (((lo+((hi-lo)/4)*2-1)+q:Nat):Int)),pv (.pointer (some ⟨bkS (.slice a N c),ofS (.slice a N c)+(((lo+((hi-lo)/4)*2-1)+q:Nat):Int).toNat*1,none⟩)),pv (I7 (st.2[(lo+((hi-lo)/4)*2-1)+q]!)),pv (.pointer (some ⟨bkS (.slice a N c),ofS (.slice a N c)+(((lo+((hi-lo)/4)*2-1)+q:Nat):Int).toNat*1,none⟩)),pn,pv (.pointer (some ⟨bkS (.slice a N c),ofS (.slice a N c)+((lo+ot:Nat):Int).toNat*1,none⟩)),pn] (fun D J=>[cond (D 19) (row (.slice a N c) ((((st.2.setIfInBounds ((lo+((hi-lo)/4)*2-1)+q) (st.2[lo+ot]!)).setIfInBounds (lo+ot) (st.2[(lo+((hi-lo)/4)*2-1)+q]!)).toList).map (ic .u16)) 32 1) (cond (D 17) (row (.slice a N c) (((st.2.setIfInBounds ((lo+((hi-lo)/4)*2-1)+q) (st.2[lo+ot]!)).toList).map (ic .u16)) 32 1) (row (.slice a N c) (st.2.toList.map (ic .u16)) 32 1)),blk b2 [.int .u64 ((Sort.xorNextN st.1.toNat:Nat):Int)] 211]) [] (by kernel_rfl) Y ⟨?_,?_,?_,?_,?_,?_,?_,?_,?_,?_,?_,?_,?_,?_,?_,?_,?_,?_,?_,?_,trivial⟩ ?_
   ·exact oi [] fun Y=>Qaf (.slice a N c) (Zz Y)
   ·exact oi [] fun Y=>Qaf (.int .i64 (((lo+((hi-lo)/4)*2-1)+q:Nat):Int)) (Zz Y)
   ·exact oi [] fun Y=>Qaf (.slice a N c) (Zz Y)
   ·exact oi [] fun Y=>Qaf (.int .i64 (lo:Int)) (Zz Y)
   ·exact oi [] fun Y=>Qaf (.int .i64 (ot:Int)) (Zz Y)
   ·exact oi [3,4] fun Y=>QaB (a:=(lo:Int)) (b:=(ot:Int)) (c:=((lo+ot:Nat):Int)) rfl rfl (Qaj (by omega) (by omega)) (Zz Y)
   ·exact oi [] fun Y=>Qaf (.slice a N c) (Zz Y)
   ·exact oi [] fun Y=>Qaf (.int .i64 (lo:Int)) (Zz Y)
   ·exact oi [] fun Y=>Qaf (.int .i64 (ot:Int)) (Zz Y)
   ·exact oi [7,8] fun Y=>QaB (a:=(lo:Int)) (b:=(ot:Int)) (c:=((lo+ot:Nat):Int)) rfl rfl (Qaj (by omega) (by omega)) (Zz Y)
   ·exact ob [6,9] [17,19] rfl rfl fun D J w Y=>Qax QaP Qar.1 (Y.rd 0 rfl) rfl rfl (by omega) (by simp only [QQ6,QQ9,QQ5,Go.Sort.size_swp];omega) (Zz Y)
   ·exact ob [10] [17,19] rfl rfl fun D J w Y=>QaV (j:=0) (V:=I7 (st.2[lo+ot]!)) (lo+ot) Qar (Y.rd 0 rfl) (QbA (by omega)) rfl rfl (by omega) (Zz Y)
   ·exact oi [] fun Y=>Qaf (.slice a N c) (Zz Y)
   ·exact oi [] fun Y=>Qaf (.int .i64 (((lo+((hi-lo)/4)*2-1)+q:Nat):Int)) (Zz Y)
   ·exact ob [12,13] [17,19] rfl rfl fun D J w Y=>Qax QaP Qar.1 (Y.rd 0 rfl) rfl rfl (by omega) (by simp only [QQ6,QQ9,QQ5,Go.Sort.size_swp];omega) (Zz Y)
   ·exact ob [14] [17,19] rfl rfl fun D J w Y=>QaV (j:=0) (V:=I7 (st.2[(lo+((hi-lo)/4)*2-1)+q]!)) ((lo+((hi-lo)/4)*2-1)+q) Qar (Y.rd 0 rfl) (QbA (by omega)) rfl rfl (by omega) (Zz Y)
   ·exact ob [0,1] [17,19] rfl rfl fun D J w Y=>Qax QaP Qar.1 (Y.rd 0 rfl) rfl rfl (by omega) (by simp only [QQ6,QQ9,QQ5,Go.Sort.size_swp];omega) (Zz Y)
   ·exact ob [11,16] [19] rfl rfl fun D J w Y=>Qcv (z:=st.2[lo+ot]!) ((lo+((hi-lo)/4)*2-1)+q) Qar Y 0 rfl rfl (by omega) (by first|omega|(simp only [QQ5,Go.Sort.size_swp];omega)) rfl rfl rfl fun _ Y=>⟨trivial,Y⟩
   ·exact ob [2,5,17] [19] rfl rfl fun D J w Y=>Qax QaP Qar.1 (Y.rd 0 rfl) rfl rfl (by omega) (by simp only [QQ6,QQ9,QQ5,Go.Sort.size_swp];omega) (Zz Y)
   ·exact oi [15,17,18] fun Y=>Qcv (z:=st.2[(lo+((hi-lo)/4)*2-1)+q]!) (lo+ot) Qar Y 0 rfl rfl (by omega) (by first|omega|(simp only [QQ5,Go.Sort.size_swp];omega)) rfl rfl rfl fun _ Y=>⟨trivial,Y⟩
   rintro J1 w13 J2 hJ Y
   replace hJ:J2=mix (sq 47 18) J1 _:=hJ
   replace Y:Own w S w13 [row (.slice a N c) ((((st.2.setIfInBounds ((lo+((hi-lo)/4)*2-1)+q) (st.2[lo+ot]!)).setIfInBounds (lo+ot) (st.2[(lo+((hi-lo)/4)*2-1)+q]!)).toList).map (ic .u16)) 32 1,blk b2 [.int .u64 ((Sort.xorNextN st.1.toNat:Nat):Int)] 211]:=Y
   subst hJ
   refine Qab (Qaa (Qaf (I6 (((lo+((hi-lo)/4)*2-1)+q:Nat):Int)) (Qaa (QaB (a:=(((lo+((hi-lo)/4)*2-1)+q:Nat):Int)) (b:=1) (c:=((((lo+((hi-lo)/4)*2-1)+q)+1:Nat):Int)) rfl rfl (Qaj (by omega) (by omega)) (Qaa (Qam (I6 ((((lo+((hi-lo)/4)*2-1)+q)+1:Nat):Int)) (Qad ?_)))))))
   have hbn:=Qln (lo:=lo) (len:=hi-lo) (md:=1 <<< Sort.bitsLen (hi-lo)) (i0:=lo+((hi-lo)/4)*2-1) (q:=q) (s0:=(UInt64.ofNat (hi-lo),d))
   rw [← hst] at hbn
   replace Y:=Y.conv 1 rfl (R':=blk b2 [.int .u64 (((bpS lo (hi-lo) (1 <<< Sort.bitsLen (hi-lo)) (UInt64.ofNat (hi-lo),d) (lo+((hi-lo)/4)*2-1) (q+1)).1.toNat:Nat):Int)] 211) (fun S h=>by rw [hbn.1];exact h)
   replace Y:=Y.conv 0 rfl (R':=row (.slice a N c) (((bpS lo (hi-lo) (1 <<< Sort.bitsLen (hi-lo)) (UInt64.ofNat (hi-lo),d) (lo+((hi-lo)/4)*2-1) (q+1)).2).toList.map (ic .u16)) 32 1) (fun S h=>by rw [hbn.2,← hot];exact h)
   refine ⟨_,?_,_,q+1,bpS lo (hi-lo) (1 <<< Sort.bitsLen (hi-lo)) (UInt64.ofNat (hi-lo),d) (lo+((hi-lo)/4)*2-1) (q+1),Qai (Qao (ds:=([9,10]++sq 26 39)) (by repeat (first|exact Agr.refl _ _|refine Agr.upd ?_ rfl|refine Agr.mix ?_ rfl))) rfl,(by omega),rfl,(Qli (s0:=(UInt64.ofNat (hi-lo),d)) hsz _),rfl,Y.take 2⟩
   omega
  replace c7:=QQ2 c7
  refine QaI ?_
  refine ⟨_,Qbl results174,?_⟩
  have hq3:q=3:=by omega
  subst hq3
  have hX:st.2=Sort.breakPatterns d lo hi:=by rw [hst];exact QtM (by omega)
  exact ⟨(),rfl,hX ▸ Y.take 1,hX ▸ (by first|assumption|(simp only [QQ5,Go.Sort.size_swp];omega))⟩
 replace c1:=QQ2 c1
 refine Qap ?_
 refine ⟨_,Qbl results174,?_⟩
 have hX:d=Sort.breakPatterns d lo hi:=by unfold Sort.breakPatterns;dsimp only;rw [if_neg (by omega)]
 exact ⟨(),rfl,hX ▸ Y.take 1,hX ▸ (by first|assumption|(simp only [QQ5,Go.Sort.size_swp];omega))⟩
end Tt
end Go.Proofs
namespace Go.Proofs
open Go Go.Vx Go.RowKit
open Go.Sort (ltInt medianAdjacent order2 partition)
open Tryz
namespace Tt
theorem Qyb:Sort.SWO ltInt:=Sort.swo_ltInt
theorem Qqp {d:Array Int} {lo hi pvx:Nat} (h1:lo<=pvx) (h2:pvx<hi) (h3:hi<=d.size):lo<(Sort.partitionEqual ltInt d lo hi pvx).1/\(Sort.partitionEqual ltInt d lo hi pvx).1<=hi:=by
 have:=Sort.partEqLoop_spec ltInt lo hi (hi-1+1-(lo+1)) (lo+1) (hi-1) (Sort.swp d lo pvx) (Nat.le_refl _) (by omega) (by omega) (by omega) (by rw [Sort.size_swp];exact h3) (fun t a b=>by omega) (fun t a b=>by omega)
 exact ⟨this.1,this.2.1⟩
theorem Qqw {d:Array Int} {lo hi pvx:Nat} (h1:lo<=pvx) (h2:pvx<hi) (h3:hi<=d.size):lo<=(partition ltInt d lo hi pvx).1/\(partition ltInt d lo hi pvx).1<hi:=by
 have:=Sort.partition_holds (lt:=ltInt) Qyb d lo hi pvx h1 h2 h3
 exact ⟨this.1,this.2.1⟩
theorem QkD {x:Sort.Hint}:QcU x=1↔x = .increasing:=by cases x<;>simp [QcU]
theorem QkU {x:Sort.Hint}:QcU x=2↔x = .decreasing:=by cases x<;>simp [QcU]
section
variable {l h lim2 lim3 pvx:Nat} {wb wp b:Bool} {d1 d2 d3 d4:Array Int}
theorem QrW (hw:wb=false):Sort.breakPatterns d1 l h=(Sort.rd ltInt d1 l h lim2 wb wp).d1/\lim2-1=(Sort.rd ltInt d1 l h lim2 wb wp).lim:=by subst hw;exact ⟨rfl,rfl⟩
theorem Qwf (hw:wb=true):d1=(Sort.rd ltInt d1 l h lim2 wb wp).d1/\lim2=(Sort.rd ltInt d1 l h lim2 wb wp).lim:=by subst hw;exact ⟨rfl,rfl⟩
theorem QkN (h2:d2=(Sort.rd ltInt d1 l h lim2 wb wp).d1) (hh:QcU (Sort.choosePivot ltInt d2 l h).2=2):Sort.reverseRange d2 l h=(Sort.rd ltInt d1 l h lim2 wb wp).d2/\(h-1)-((Sort.choosePivot ltInt d2 l h).1-l)=(Sort.rd ltInt d1 l h lim2 wb wp).pivot/\(1:Int)=QcU (Sort.rd ltInt d1 l h lim2 wb wp).hint:=by
 rw [QkU] at hh
 subst h2
 have hc:(Sort.rd ltInt d1 l h lim2 wb wp).c.2 = .decreasing:=hh
 refine ⟨?_,?_,?_⟩
 ·show _=if (Sort.rd ltInt d1 l h lim2 wb wp).c.2 = .decreasing then _ else _
  rw [if_pos hc];rfl
 ·show _=if (Sort.rd ltInt d1 l h lim2 wb wp).c.2 = .decreasing then _ else _
  rw [if_pos hc];rfl
 show _=QcU (if (Sort.rd ltInt d1 l h lim2 wb wp).c.2 = .decreasing then Sort.Hint.increasing else _)
 rw [if_pos hc];rfl
theorem Qk0 (h2:d2=(Sort.rd ltInt d1 l h lim2 wb wp).d1) (hh:¬QcU (Sort.choosePivot ltInt d2 l h).2=2):d2=(Sort.rd ltInt d1 l h lim2 wb wp).d2/\(Sort.choosePivot ltInt d2 l h).1=(Sort.rd ltInt d1 l h lim2 wb wp).pivot/\QcU (Sort.choosePivot ltInt d2 l h).2=QcU (Sort.rd ltInt d1 l h lim2 wb wp).hint:=by
 rw [QkU] at hh
 subst h2
 have hc:¬(Sort.rd ltInt d1 l h lim2 wb wp).c.2 = .decreasing:=hh
 refine ⟨?_,?_,?_⟩
 ·show _=if (Sort.rd ltInt d1 l h lim2 wb wp).c.2 = .decreasing then _ else _
  rw [if_neg hc];rfl
 ·show _=if (Sort.rd ltInt d1 l h lim2 wb wp).c.2 = .decreasing then _ else _
  rw [if_neg hc];rfl
 show _=QcU (if (Sort.rd ltInt d1 l h lim2 wb wp).c.2 = .decreasing then Sort.Hint.increasing else _)
 rw [if_neg hc];rfl
theorem Qve (h3:d3=(Sort.rd ltInt d1 l h lim2 wb wp).d2) (hw:wb=true) (hp:wp=true) (hh:QcU (Sort.rd ltInt d1 l h lim2 wb wp).hint=1):(Sort.rd ltInt d1 l h lim2 wb wp).pi=Sort.partialInsertionSort ltInt d3 l h:=by
 rw [QkD] at hh
 subst h3
 have hc:(wb&&wp&&decide ((Sort.rd ltInt d1 l h lim2 wb wp).hint = .increasing))=true:=by rw [QQ3 hh,hw,hp];rfl
 show (if (wb&&wp&&decide ((Sort.rd ltInt d1 l h lim2 wb wp).hint = .increasing))=true then _ else _)=_
 rw [if_pos hc];rfl
theorem QtB (h3:d3=(Sort.rd ltInt d1 l h lim2 wb wp).d2) (hh:((wb&&wp)&&decide (QcU (Sort.rd ltInt d1 l h lim2 wb wp).hint=1))=false):(Sort.rd ltInt d1 l h lim2 wb wp).pi=(d3,false):=by
 subst h3
 have hc:(wb&&wp&&decide ((Sort.rd ltInt d1 l h lim2 wb wp).hint = .increasing))=false:=by rw [← hh];congr 1;exact decide_eq_decide.2 QkD.symm
 show (if (wb&&wp&&decide ((Sort.rd ltInt d1 l h lim2 wb wp).hint = .increasing))=true then _ else _)=_
 rw [if_neg (by rw [hc];exact Bool.false_ne_true)];rfl
theorem QqJ (Y:((h-l:Nat):Int)<=12):Sort.pdq ltInt d1 l h lim2 wb wp=Sort.insertionSort ltInt d1 l h:=Sort.pdq_small (by omega)
theorem Qse (Y:¬((h-l:Nat):Int)<=12) (h0:(lim2:Int)=0):Sort.pdq ltInt d1 l h lim2 wb wp=Sort.heapSort ltInt d1 l h:=Sort.pdq_heap (by omega) (by omega)
theorem Qsr (Y:¬((h-l:Nat):Int)<=12) (h0:¬(lim2:Int)=0) (hp:(Sort.rd ltInt d1 l h lim2 wb wp).pi.2=true):Sort.pdq ltInt d1 l h lim2 wb wp=(Sort.rd ltInt d1 l h lim2 wb wp).pi.1:=Sort.pdq_done (by omega) (by omega) hp
theorem QwY {x y:Int} (hb:(decide (0<(l:Int))&&!decide (x<y))=b):(decide (l > 0)&&!ltInt x y)=b:=by
 rw [← hb];congr 1;exact decide_eq_decide.2 (by omega)
theorem QxB (Y:¬((h-l:Nat):Int)<=12) (h0:¬(lim2:Int)=0) (hd4:d4=(Sort.rd ltInt d1 l h lim2 wb wp).pi.1) (hp:(Sort.rd ltInt d1 l h lim2 wb wp).pi.2=false) (hpv:pvx=(Sort.rd ltInt d1 l h lim2 wb wp).pivot) (hl:lim3=(Sort.rd ltInt d1 l h lim2 wb wp).lim) (h2:(decide (0<(l:Int))&&!decide (d4[l-1]!<d4[pvx]!))=true) (hr:l<(Sort.partitionEqual ltInt d4 l h pvx).1/\(Sort.partitionEqual ltInt d4 l h pvx).1<=h) :
  Sort.pdq ltInt d1 l h lim2 wb wp=Sort.pdq ltInt (Sort.partitionEqual ltInt d4 l h pvx).2 (Sort.partitionEqual ltInt d4 l h pvx).1 h lim3 wb wp:=by
 subst hd4 hpv hl;exact Sort.pdq_eq (by omega) (by omega) hp (QwY h2) hr
theorem Qsv (Y:¬((h-l:Nat):Int)<=12) (h0:¬(lim2:Int)=0) (hd4:d4=(Sort.rd ltInt d1 l h lim2 wb wp).pi.1) (hp:(Sort.rd ltInt d1 l h lim2 wb wp).pi.2=false) (hpv:pvx=(Sort.rd ltInt d1 l h lim2 wb wp).pivot) (hl:lim3=(Sort.rd ltInt d1 l h lim2 wb wp).lim) (h2:(decide (0<(l:Int))&&!decide (d4[l-1]!<d4[pvx]!))=false) (hr:l<=(partition ltInt d4 l h pvx).1/\(partition ltInt d4 l h pvx).1<h)
  (h4:(((partition ltInt d4 l h pvx).1-l:Nat):Int)<((h-(partition ltInt d4 l h pvx).1:Nat):Int)) :
  Sort.pdq ltInt d1 l h lim2 wb wp=Sort.pdq ltInt (Sort.pdq ltInt (partition ltInt d4 l h pvx).2.2 l (partition ltInt d4 l h pvx).1 lim3 true true) ((partition ltInt d4 l h pvx).1+1) h lim3 (decide ((partition ltInt d4 l h pvx).1-l ≥ (h-l)/8)) (partition ltInt d4 l h pvx).2.1:=by
 subst hd4 hpv hl;exact Sort.pdq_left (by omega) (by omega) hp (QwY h2) hr (by omega)
theorem QqS (Y:¬((h-l:Nat):Int)<=12) (h0:¬(lim2:Int)=0) (hd4:d4=(Sort.rd ltInt d1 l h lim2 wb wp).pi.1) (hp:(Sort.rd ltInt d1 l h lim2 wb wp).pi.2=false) (hpv:pvx=(Sort.rd ltInt d1 l h lim2 wb wp).pivot) (hl:lim3=(Sort.rd ltInt d1 l h lim2 wb wp).lim) (h2:(decide (0<(l:Int))&&!decide (d4[l-1]!<d4[pvx]!))=false) (hr:l<=(partition ltInt d4 l h pvx).1/\(partition ltInt d4 l h pvx).1<h)
  (h4:¬(((partition ltInt d4 l h pvx).1-l:Nat):Int)<((h-(partition ltInt d4 l h pvx).1:Nat):Int)) :
  Sort.pdq ltInt d1 l h lim2 wb wp=Sort.pdq ltInt (Sort.pdq ltInt (partition ltInt d4 l h pvx).2.2 ((partition ltInt d4 l h pvx).1+1) h lim3 true true) l (partition ltInt d4 l h pvx).1 lim3 (decide (h-(partition ltInt d4 l h pvx).1 ≥ (h-l)/8)) (partition ltInt d4 l h pvx).2.1:=by
 subst hd4 hpv hl;exact Sort.pdq_right (by omega) (by omega) hp (QwY h2) hr (by omega)
end
def Qvh (n:Nat):Prop:=∀ (w:World) (S:Nat->Prop) (a:Option Addr) (N c:Nat) (d:Array Int) (hsz:d.size=N) (hN:N<=2305843009213693951) (lo hi lim:Nat) (h1:lo<=hi) (h2:hi<=N) (hlim:lim<=4611686018427387904) (hlen:hi-lo<n) (hR:(row (.slice a N c) (d.toList.map (ic .u16)) 32 1).holds w S) (hlt:∀ x,S x->x<w.heap.size),Calls prog 160 #[.slice a N c,.int .i64 (lo:Int),.int .i64 (hi:Int),.int .i64 (lim:Int)] w (fun e w'=>∃ x:Unit,e = .returned (.tuple #[])/\Own w S w' [row (.slice a N c) ((Sort.pdq ltInt d lo hi lim true true).toList.map (ic .u16)) 32 1]/\(Sort.pdq ltInt d lo hi lim true true).size=N)
theorem Qqv (n:Nat) (ih:Qvh n) (w:World) (S:Nat->Prop) (a:Option Addr) (N c:Nat) (d:Array Int) (hsz:d.size=N) (hN:N<=2305843009213693951) (lo hi lim:Nat) (h1:lo<=hi) (h2:hi<=N) (hxor:Qsj prog 163 211) (hpow:QtA prog 162) (hlim:lim<=4611686018427387904) (hlen:hi-lo<n+1) (hR:(row (.slice a N c) (d.toList.map (ic .u16)) 32 1).holds w S) (hlt:∀ x,S x->x<w.heap.size):Calls prog 160 #[.slice a N c,.int .i64 (lo:Int),.int .i64 (hi:Int),.int .i64 (lim:Int)] w (fun e w'=>∃ x:Unit,e = .returned (.tuple #[])/\Own w S w' [row (.slice a N c) ((Sort.pdq ltInt d lo hi lim true true).toList.map (ic .u16)) 32 1]/\(Sort.pdq ltInt d lo hi lim true true).size=N):=by
 refine Qah (n:=134) func160 rfl ntmps160 rfl ?_
 have Y:=Own.lent hR hlt
 refine Qae (Qab (Qaa (Qam (.bool true) (Qad (Qae (Qab (Qaa (Qam (.bool true) (Qad (Qal (QaE (fun J μ J' w'=>∃ (Jo:Env) (l:Nat) (h:Nat) (lim2:Nat) (wb:Bool) (wp:Bool) (d1:Array Int),J'=upd (upd (upd (upd (upd (mix ([1,2,3]++sq 8 126) Jo J) 1 (I6 (l:Int))) 2 (I6 (h:Int))) 3 (I6 (lim2:Int))) 8 (.bool wb)) 9 (.bool wp)/\(l<=h)/\(h<=N)/\(h-l<=hi-lo)/\(lim2<=4611686018427387904)/\(d1.size=N)/\(Sort.pdq ltInt d1 l h lim2 wb wp=Sort.pdq ltInt d lo hi lim true true)/\μ=h-l/\Own w S w' [row (.slice a N c) (d1.toList.map (ic .u16)) 32 1]) ?_ ?_)))))))))))
 ·exact ⟨_,_,lo,hi,lim,true,true,d,Qai (Qai (Qai (Qai (Qai (Qao (ds:=([1,2,3]++sq 8 126)) (Agr.refl _ _)) rfl) rfl) rfl) rfl) rfl,h1,h2,(Nat.le_refl _),hlim,hsz,rfl,rfl,Y⟩
 rintro μ J' w1 ⟨Jo,l,h,lim2,wb,wp,d1,rfl,hlh,hhN,hlen2,hlim2,hz1,hev,rfl,Y⟩
 refine Qal (Qae (Qab (Qaa (Qaf (I6 (h:Int)) (Qaa (Qaf (I6 (l:Int)) (Qaa (Qbb (a:=(h:Int)) (b:=(l:Int)) (c:=((h-l:Nat):Int)) rfl rfl (Qaj (by omega) (by omega)) (Qaa (Qam (I6 ((h-l:Nat):Int)) (Qad (Qae (Qae (Qab (Qaa (Qaf (I6 ((h-l:Nat):Int)) (Qaa (Qew rfl rfl (Qad (Qak (t:=decide (((h-l:Nat):Int)<=12)) rfl (fun c2=>?_) (fun c2=>?_)))))))))))))))))))))
 ·
  replace c2:=QQ1 c2
  refine Qae (Qab (Qaa (Qaf (.slice a N c) (Qaa (Qaf (I6 (l:Int)) (Qaa (Qaf (I6 (h:Int)) (Qaa (QbF (vs:=[.slice a N c,I6 (l:Int),I6 (h:Int)]) (V:=fun _:Unit=>.tuple #[]) (R:=row (.slice a N c) (d1.toList.map (ic .u16)) 32 1) (R':=fun _=>row (.slice a N c) ((Sort.insertionSort ltInt d1 l h).toList.map (ic .u16)) 32 1) (Lo:=fun _=>[]) (F:=fun _ _=>(Sort.insertionSort ltInt d1 l h).size=N) QuP rfl rfl Y 0 rfl (fun S hS hlt=>Qvo _ S a N c d1 (by first|assumption|(simp only [QQ5,Go.Sort.size_swp];omega)) hN l h (by omega) (by omega) hS hlt) fun _ w3 Y hz4=>(Qad (Qav ?_)))))))))))
  refine ⟨_,Qbl results160,?_⟩
  have hX:Sort.insertionSort ltInt d1 l h=Sort.pdq ltInt d lo hi lim true true:=by rw [← hev,QqJ c2]
  exact ⟨(),rfl,hX ▸ Y.take 1,hX ▸ (by first|assumption|(simp only [QQ5,Go.Sort.size_swp];omega))⟩
 replace c2:=QQ2 c2
 refine Qap (Qae (Qae (Qab (Qaa (Qaf (I6 (lim2:Int)) (Qaa (QaT rfl rfl (Qad (Qak (t:=decide ((lim2:Int)=0)) rfl (fun c6=>?_) (fun c6=>?_))))))))))
 ·
  replace c6:=QQ1 c6
  refine Qae (Qab (Qaa (Qaf (.slice a N c) (Qaa (Qaf (I6 (l:Int)) (Qaa (Qaf (I6 (h:Int)) (Qaa (QbF (vs:=[.slice a N c,I6 (l:Int),I6 (h:Int)]) (V:=fun _:Unit=>.tuple #[]) (R:=row (.slice a N c) (d1.toList.map (ic .u16)) 32 1) (R':=fun _=>row (.slice a N c) ((Sort.heapSort ltInt d1 l h).toList.map (ic .u16)) 32 1) (Lo:=fun _=>[]) (F:=fun _ _=>(Sort.heapSort ltInt d1 l h).size=N) Qu5 rfl rfl Y 0 rfl (fun S hS hlt=>Qtr _ S a N c d1 (by first|assumption|(simp only [QQ5,Go.Sort.size_swp];omega)) hN l h (by omega) (by omega) hS hlt) fun _ w7 Y hz8=>(Qad (Qav ?_)))))))))))
  refine ⟨_,Qbl results160,?_⟩
  have hX:Sort.heapSort ltInt d1 l h=Sort.pdq ltInt d lo hi lim true true:=by rw [← hev,Qse c2 c6]
  exact ⟨(),rfl,hX ▸ Y.take 1,hX ▸ (by first|assumption|(simp only [QQ5,Go.Sort.size_swp];omega))⟩
 replace c6:=QQ2 c6
 refine Qap (Qae (Qae (Qab (Qaa (Qaf (.bool wb) (Qaa (QbB rfl (Qad (Qgi (fun J J' w'=>∃ (Jo:Env) (d2:Array Int) (lim3:Nat),J'=upd (mix ([3]++sq 36 6) Jo J) 3 (I6 (lim3:Int))/\(d2=(Sort.rd ltInt d1 l h lim2 wb wp).d1)/\(lim3=(Sort.rd ltInt d1 l h lim2 wb wp).lim)/\(lim3<=4611686018427387904)/\(d2.size=N)/\Own w S w' [row (.slice a N c) (d2.toList.map (ic .u16)) 32 1]) ?_ ?_)))))))))
 ·
  refine Qak (t:=!wb) rfl (fun c10=>?_) (fun c10=>?_)
  ·
   replace c10:=QbE c10
   refine Qae (Qab (Qaa (Qaf (.slice a N c) (Qaa (Qaf (I6 (l:Int)) (Qaa (Qaf (I6 (h:Int)) (Qaa (QbF (vs:=[.slice a N c,I6 (l:Int),I6 (h:Int)]) (V:=fun _:Unit=>.tuple #[]) (R:=row (.slice a N c) (d1.toList.map (ic .u16)) 32 1) (R':=fun _=>row (.slice a N c) ((Sort.breakPatterns d1 l h).toList.map (ic .u16)) 32 1) (Lo:=fun _=>[]) (F:=fun _ _=>(Sort.breakPatterns d1 l h).size=N) QwA rfl rfl Y 0 rfl (fun S hS hlt=>QxW _ S a N c d1 (by first|assumption|(simp only [QQ5,Go.Sort.size_swp];omega)) hN l h (by omega) (by omega) hxor hpow hS hlt) fun _ w11 Y hz12=>(Qad (Qab (Qaa (Qaf (I6 (lim2:Int)) (Qaa (Qbb (a:=(lim2:Int)) (b:=1) (c:=((lim2-1:Nat):Int)) rfl rfl (Qaj (by omega) (by omega)) (Qaa (Qam (I6 ((lim2-1:Nat):Int)) (Qad ?_))))))))))))))))))
   exact ⟨_,Sort.breakPatterns d1 l h,lim2-1,Qai (Qao (ds:=([3]++sq 36 6)) (by repeat (first|exact Agr.refl _ _|refine Agr.upd ?_ rfl|refine Agr.mix ?_ rfl))) rfl,((QrW (l:=l) (h:=h) (lim2:=lim2) (wp:=wp) (d1:=d1) c10).1),((QrW (l:=l) (h:=h) (lim2:=lim2) (wp:=wp) (d1:=d1) c10).2),(by omega),(by assumption),Y.take 1⟩
  replace c10:=Qbd c10
  refine Qap ?_
  exact ⟨_,d1,lim2,Qai (Qao (ds:=([3]++sq 36 6)) (by repeat (first|exact Agr.refl _ _|refine Agr.upd ?_ rfl|refine Agr.mix ?_ rfl))) rfl,((Qwf (l:=l) (h:=h) (lim2:=lim2) (wp:=wp) (d1:=d1) c10).1),((Qwf (l:=l) (h:=h) (lim2:=lim2) (wp:=wp) (d1:=d1) c10).2),(by omega),(by assumption),Y.take 1⟩
 rintro J' w14 ⟨Jo,d2,lim3,rfl,hd2,hl3,hlim3,hz2,Y⟩
 refine Qae (Qab (Qaa (Qaf (.slice a N c) (Qaa (Qaf (I6 (l:Int)) (Qaa (Qaf (I6 (h:Int)) (Qaa (Qas (vs:=[.slice a N c,I6 (l:Int),I6 (h:Int)]) (V:=.tuple #[I6 (((Sort.choosePivot ltInt d2 l h).1:Nat):Int),I6 (QcU (Sort.choosePivot ltInt d2 l h).2)]) Qv8 rfl rfl ?hc Y fun w15 Y=>?_)))))))))
 case hc=>exact (Qul _ a N c d2 (by first|assumption|(simp only [QQ5,Go.Sort.size_swp];omega)) hN (Y.rd 0 rfl) l h (by omega) (by omega))
 refine Qaa (Qaf (.tuple #[I6 (((Sort.choosePivot ltInt d2 l h).1:Nat):Int),I6 (QcU (Sort.choosePivot ltInt d2 l h).2)]) (Qaa (QaC (V:=I6 (((Sort.choosePivot ltInt d2 l h).1:Nat):Int)) rfl rfl (Qaa (QaC (V:=I6 (QcU (Sort.choosePivot ltInt d2 l h).2)) rfl rfl (Qaa (Qam (I6 (((Sort.choosePivot ltInt d2 l h).1:Nat):Int)) (Qaa (Qam (I6 (QcU (Sort.choosePivot ltInt d2 l h).2)) (Qad (Qae (Qae ?_))))))))))))
 have hcp:=Sort.choosePivot_holds ltInt d2 l h (by omega)
 refine Qab (Qaa (Qaf (I6 (QcU (Sort.choosePivot ltInt d2 l h).2)) (Qaa (QaT rfl rfl (Qad (Qgi (fun J J' w'=>∃ (Jo:Env) (d3:Array Int) (pvx:Nat),J'=upd (upd (mix ([11,12]++sq 51 10) Jo J) 11 (I6 (pvx:Int))) 12 (I6 (QcU (Sort.rd ltInt d1 l h lim2 wb wp).hint))/\(d3=(Sort.rd ltInt d1 l h lim2 wb wp).d2)/\(pvx=(Sort.rd ltInt d1 l h lim2 wb wp).pivot)/\(l<=pvx/\pvx<h)/\(d3.size=N)/\Own w S w' [row (.slice a N c) (d3.toList.map (ic .u16)) 32 1]) ?_ ?_))))))
 ·
  refine Qak (t:=decide (QcU (Sort.choosePivot ltInt d2 l h).2=2)) rfl (fun c16=>?_) (fun c16=>?_)
  ·
   replace c16:=QQ1 c16
   refine Qae (Qab (Qaa (Qaf (.slice a N c) (Qaa (Qaf (I6 (l:Int)) (Qaa (Qaf (I6 (h:Int)) (Qaa (QbF (vs:=[.slice a N c,I6 (l:Int),I6 (h:Int)]) (V:=fun _:Unit=>.tuple #[]) (R:=row (.slice a N c) (d2.toList.map (ic .u16)) 32 1) (R':=fun _=>row (.slice a N c) ((Sort.reverseRange d2 l h).toList.map (ic .u16)) 32 1) (Lo:=fun _=>[]) (F:=fun _ _=>(Sort.reverseRange d2 l h).size=N) Qwt rfl rfl Y 0 rfl (fun S hS hlt=>Qwd _ S a N c d2 (by first|assumption|(simp only [QQ5,Go.Sort.size_swp];omega)) hN l h (by omega) (by omega) hS hlt) fun _ w17 Y hz18=>(Qad (Qae (Qab (Qaa (Qaf (I6 (h:Int)) (Qaa (Qbb (a:=(h:Int)) (b:=1) (c:=((h-1:Nat):Int)) rfl rfl (Qaj (by omega) (by omega)) (Qaa (Qaf (I6 (((Sort.choosePivot ltInt d2 l h).1:Nat):Int)) (Qaa (Qaf (I6 (l:Int)) (Qaa (Qbb (a:=(((Sort.choosePivot ltInt d2 l h).1:Nat):Int)) (b:=(l:Int)) (c:=((((Sort.choosePivot ltInt d2 l h).1)-l:Nat):Int)) rfl rfl (Qaj (by omega) (by omega)) (Qaa (Qbb (a:=((h-1:Nat):Int)) (b:=((((Sort.choosePivot ltInt d2 l h).1)-l:Nat):Int)) (c:=(((h-1)-(((Sort.choosePivot ltInt d2 l h).1)-l):Nat):Int)) rfl rfl (Qaj (by omega) (by omega)) (Qaa (Qam (I6 (((h-1)-(((Sort.choosePivot ltInt d2 l h).1)-l):Nat):Int)) (Qad (Qab (Qaa (Qam (I6 1) (Qad ?_)))))))))))))))))))))))))))))))
   exact ⟨_,Sort.reverseRange d2 l h,(h-1)-(((Sort.choosePivot ltInt d2 l h).1)-l),Qai (Qai (Qao (ds:=([11,12]++sq 51 10)) (by repeat (first|exact Agr.refl _ _|refine Agr.upd ?_ rfl|refine Agr.mix ?_ rfl))) rfl) (congrArg (Value.int .i64) (by first|exact (QkN hd2 (by assumption)).2.2|exact (Qk0 hd2 (by assumption)).2.2)),((QkN hd2 c16).1),((QkN hd2 c16).2.1),(by omega),(by assumption),Y.take 1⟩
  replace c16:=QQ2 c16
  refine Qap ?_
  exact ⟨_,d2,(Sort.choosePivot ltInt d2 l h).1,Qai (Qai (Qao (ds:=([11,12]++sq 51 10)) (by repeat (first|exact Agr.refl _ _|refine Agr.upd ?_ rfl|refine Agr.mix ?_ rfl))) rfl) (congrArg (Value.int .i64) (by first|exact (QkN hd2 (by assumption)).2.2|exact (Qk0 hd2 (by assumption)).2.2)),((Qk0 hd2 c16).1),((Qk0 hd2 c16).2.1),(by omega),(by assumption),Y.take 1⟩
 rintro J' w20 ⟨Jo,d3,pvx,rfl,hd3,hpv,hpr,hz3,Y⟩
 refine Qae (Qae (Qbv (so 61 8) [] [0,1,3,7,15,31,63,127] [pv (.bool wb),pv (.bool wb),pg (wb == true) (.bool wp),pv (.bool (wb&&wp)),pv (.bool (wb&&wp)),pg ((wb&&wp) == true) (I6 (QcU (Sort.rd ltInt d1 l h lim2 wb wp).hint)),pg ((wb&&wp) == true) (.bool (decide (QcU (Sort.rd ltInt d1 l h lim2 wb wp).hint=1))),pv (.bool ((wb&&wp)&&(decide (QcU (Sort.rd ltInt d1 l h lim2 wb wp).hint=1))))] (fun _ _=>_) [7] (by kernel_rfl) Y ⟨?_,?_,?_,?_,?_,?_,?_,?_,trivial⟩ ?_))
 ·exact oi [] fun Y=>Qaf (.bool wb) (Zz Y)
 ·exact oi [0] fun Y=>Qaf (.bool wb) (Zz Y)
 ·exact ogi [1] fun hG Y=>Qaf (.bool wp) (Zz Y)
 ·exact oi [1,2] fun Y=>Qbg (h':=wp) rfl rfl rfl (Zz Y)
 ·exact oi [3] fun Y=>Qaf (.bool (wb&&wp)) (Zz Y)
 ·exact ogi [4] fun hG Y=>Qaf (.int .i64 (QcU (Sort.rd ltInt d1 l h lim2 wb wp).hint)) (Zz Y)
 ·exact oyi [4,5] [5] fun hG Y=>QaT rfl rfl (Zz Y)
 ·exact oi [4,6] fun Y=>Qbg (h':=decide (QcU (Sort.rd ltInt d1 l h lim2 wb wp).hint=1)) rfl rfl rfl (Zz Y)
 rintro J1 w21 J2 hJ Y
 replace hJ:J2=upd (mix (sq 61 8) J1 _) 68 (.bool ((wb&&wp)&&(decide (QcU (Sort.rd ltInt d1 l h lim2 wb wp).hint=1)))):=hJ
 subst hJ
 refine Qgi (fun J J' w'=>∃ (Jo:Env) (d4:Array Int),J'=mix [69,70,71,72] Jo J/\(d4=(Sort.rd ltInt d1 l h lim2 wb wp).pi.1)/\((Sort.rd ltInt d1 l h lim2 wb wp).pi.2=false)/\(d4.size=N)/\Own w S w' [row (.slice a N c) (d4.toList.map (ic .u16)) 32 1]) ?_ ?_
 ·
  refine Qak (t:=(wb&&wp)&&(decide (QcU (Sort.rd ltInt d1 l h lim2 wb wp).hint=1))) rfl (fun c22=>?_) (fun c22=>?_)
  ·
   have c22r:=Qcl c22
   replace c22:=QbZ c22
   have c22rr:=Qcl c22
   replace c22:=QbZ c22
   replace c22r:=QQ1 c22r
   refine Qae (Qab (Qaa (Qaf (.slice a N c) (Qaa (Qaf (I6 (l:Int)) (Qaa (Qaf (I6 (h:Int)) (Qaa (QbF (vs:=[.slice a N c,I6 (l:Int),I6 (h:Int)]) (V:=fun _:Unit=>.bool ((Sort.partialInsertionSort ltInt d3 l h).2)) (R:=row (.slice a N c) (d3.toList.map (ic .u16)) 32 1) (R':=fun _=>row (.slice a N c) (((Sort.partialInsertionSort ltInt d3 l h).1).toList.map (ic .u16)) 32 1) (Lo:=fun _=>[]) (F:=fun _ _=>((Sort.partialInsertionSort ltInt d3 l h).1).size=N) Qwa rfl rfl Y 0 rfl (fun S hS hlt=>Qtc _ S a N c d3 (by first|assumption|(simp only [QQ5,Go.Sort.size_swp];omega)) hN l h (by omega) (by omega) hS hlt) fun _ w23 Y hz24=>(Qad (Qak (t:=(Sort.partialInsertionSort ltInt d3 l h).2) rfl (fun c26=>?_) (fun c26=>?_))))))))))))
   ·
    refine Qav ?_
    refine ⟨_,Qbl results160,?_⟩
    have hpi:=Qve hd3 c22 c22rr c22r
    have hX:(Sort.partialInsertionSort ltInt d3 l h).1=Sort.pdq ltInt d lo hi lim true true:=by rw [← hev,Qsr c2 c6 (by rw [hpi];exact c26),hpi]
    exact ⟨(),rfl,hX ▸ Y.take 1,hX ▸ (by first|assumption|(simp only [QQ5,Go.Sort.size_swp];omega))⟩
   refine Qap ?_
   have hpi:=Qve hd3 c22 c22rr c22r
   exact ⟨_,(Sort.partialInsertionSort ltInt d3 l h).1,Qao (ds:=[69,70,71,72]) (by repeat (first|exact Agr.refl _ _|refine Agr.upd ?_ rfl|refine Agr.mix ?_ rfl)),(by rw [hpi]),(by rw [hpi];exact c26),(by assumption),Y.take 1⟩
  refine Qap ?_
  have hpi:=QtB hd3 c22
  exact ⟨_,d3,Qao (ds:=[69,70,71,72]) (by repeat (first|exact Agr.refl _ _|refine Agr.upd ?_ rfl|refine Agr.mix ?_ rfl)),(by rw [hpi]),(by rw [hpi]),(by assumption),Y.take 1⟩
 rintro J' w27 ⟨Jo,d4,rfl,hd4,hp4,hz4,Y⟩
 refine Qae (Qae (QaH HM (so 73 15) [] [0,1,3,7,7,23,63,127,7,7,775,1799,4095,8191,16383] [pv (I6 (l:Int)),pv (.bool (decide (0<(l:Int)))),pv (.bool (decide (0<(l:Int)))),pg ((decide (0<(l:Int))) == true) (.slice a N c),pg ((decide (0<(l:Int))) == true) (I6 (l:Int)),pg ((decide (0<(l:Int))) == true) (I6 ((l-1:Nat):Int)),pg ((decide (0<(l:Int))) == true) (.pointer (some ⟨bkS (.slice a N c),ofS (.slice a N c)+((l-1:Nat):Int).toNat*1,none⟩)),pg ((decide (0<(l:Int))) == true) (I7 (d4[l-1]!)),pg ((decide (0<(l:Int))) == true) (.slice a N c),pg ((decide (0<(l:Int))) == true) (I6 (pvx:Int)),pg ((decide (0<(l:Int))) == true) (.pointer (some ⟨bkS (.slice a N c),ofS (.slice a N c)+(pvx:Int).toNat*1,none⟩)),pg ((decide (0<(l:Int))) == true) (I7 (d4[pvx]!)),pg ((decide (0<(l:Int))) == true) (.bool (decide (d4[l-1]!<d4[pvx]!))),pg ((decide (0<(l:Int))) == true) (.bool (!decide (d4[l-1]!<d4[pvx]!))),pv (.bool ((decide (0<(l:Int)))&&(!decide (d4[l-1]!<d4[pvx]!))))] (fun _ _=>_) [14] (by kernel_rfl) Y ⟨?_,?_,?_,?_,?_,?_,?_,?_,?_,?_,?_,?_,?_,?_,?_,trivial⟩ ?_))
 ·exact oi [] fun Y=>Qaf (.int .i64 (l:Int)) (Zz Y)
 ·exact oi [0] fun Y=>Qca rfl rfl (Zz Y)
 ·exact oi [1] fun Y=>Qaf (.bool (decide (0<(l:Int)))) (Zz Y)
 ·refine ogi [2] fun hG Y=>?_
  have hgd:=QQ1 (eq_of_beq hG)
  exact Qaf (.slice a N c) (Zz Y)
 ·refine ogi [2] fun hG Y=>?_
  have hgd:=QQ1 (eq_of_beq hG)
  exact Qaf (.int .i64 (l:Int)) (Zz Y)
 ·refine oyi [2,4] [4] fun hG Y=>?_
  have hgd:=QQ1 (eq_of_beq hG)
  exact Qbb (a:=(l:Int)) (b:=1) (c:=((l-1:Nat):Int)) rfl rfl (Qaj (by omega) (by omega)) (Zz Y)
 ·refine oyi [2,3,5] [3,5] fun hG Y=>?_
  have hgd:=QQ1 (eq_of_beq hG)
  exact Qax QaP Qar.1 (Y.rd 0 rfl) rfl rfl (by omega) (by simp only [QQ6,QQ9,QQ5,Go.Sort.size_swp];omega) (Zz Y)
 ·refine oyi [2,6] [6] fun hG Y=>?_
  have hgd:=QQ1 (eq_of_beq hG)
  exact QaV (j:=0) (V:=.int .u16 (d4[l-1]!)) (l-1) Qar (Y.rd 0 rfl) (QbA (by omega)) rfl rfl (by omega) (Zz Y)
 ·refine ogi [2] fun hG Y=>?_
  have hgd:=QQ1 (eq_of_beq hG)
  exact Qaf (.slice a N c) (Zz Y)
 ·refine ogi [2] fun hG Y=>?_
  have hgd:=QQ1 (eq_of_beq hG)
  exact Qaf (.int .i64 (pvx:Int)) (Zz Y)
 ·refine oyi [2,8,9] [8,9] fun hG Y=>?_
  have hgd:=QQ1 (eq_of_beq hG)
  exact Qax QaP Qar.1 (Y.rd 0 rfl) rfl rfl (by omega) (by simp only [QQ6,QQ9,QQ5,Go.Sort.size_swp];omega) (Zz Y)
 ·refine oyi [2,10] [10] fun hG Y=>?_
  have hgd:=QQ1 (eq_of_beq hG)
  exact QaV (j:=0) (V:=.int .u16 (d4[pvx]!)) pvx Qar (Y.rd 0 rfl) (QbA (by omega)) rfl rfl (by omega) (Zz Y)
 ·refine oyi [2,7,11] [7,11] fun hG Y=>?_
  have hgd:=QQ1 (eq_of_beq hG)
  exact Qas (vs:=[.int .u16 (d4[l-1]!),.int .u16 (d4[pvx]!)]) (V:=.bool (decide (d4[l-1]!<d4[pvx]!))) Qdr rfl rfl (QcF _ (d4[l-1]!) (d4[pvx]!)) Y fun _ Y=>Zz Y
 ·refine oyi [2,12] [12] fun hG Y=>?_
  have hgd:=QQ1 (eq_of_beq hG)
  exact QbB rfl (Zz Y)
 ·exact oi [2,13] fun Y=>Qbg (h':=!decide (d4[l-1]!<d4[pvx]!)) rfl rfl rfl (Zz Y)
 rintro J1 w29 J2 hJ Y
 replace hJ:J2=upd (mix (sq 73 15) J1 _) 87 (.bool ((decide (0<(l:Int)))&&(!decide (d4[l-1]!<d4[pvx]!)))):=hJ
 subst hJ
 refine Qak (t:=(decide (0<(l:Int)))&&(!decide (d4[l-1]!<d4[pvx]!))) rfl (fun c30=>?_) (fun c30=>?_)
 ·
  have c30r:=Qcl c30
  replace c30:=QbZ c30
  replace c30:=QQ1 c30
  replace c30r:=QbE c30r
  replace c30r:=QQ2 c30r
  refine Qae ?_
  have hrg:=Qqp (d:=d4) (lo:=l) (hi:=h) (pvx:=pvx) (by omega) (by omega) (by omega)
  refine Qab (Qaa (Qaf (.slice a N c) (Qaa (Qaf (I6 (l:Int)) (Qaa (Qaf (I6 (h:Int)) (Qaa (Qaf (I6 (pvx:Int)) (Qaa (QbF (vs:=[.slice a N c,I6 (l:Int),I6 (h:Int),I6 (pvx:Int)]) (V:=fun _:Unit=>I6 (((Sort.partitionEqual ltInt d4 l h pvx).1:Nat):Int)) (R:=row (.slice a N c) (d4.toList.map (ic .u16)) 32 1) (R':=fun _=>row (.slice a N c) (((Sort.partitionEqual ltInt d4 l h pvx).2).toList.map (ic .u16)) 32 1) (Lo:=fun _=>[]) (F:=fun _ _=>((Sort.partitionEqual ltInt d4 l h pvx).2).size=N) Qvj rfl rfl Y 0 rfl (fun S hS hlt=>QwP _ S a N c d4 (by first|assumption|(simp only [QQ5,Go.Sort.size_swp];omega)) hN l h pvx (by omega) (by omega) (by omega) hS hlt) fun _ w31 Y hz32=>(Qaa (Qam (I6 (((Sort.partitionEqual ltInt d4 l h pvx).1:Nat):Int)) (Qad (Qae (Qab (Qaa (Qaf (I6 (((Sort.partitionEqual ltInt d4 l h pvx).1:Nat):Int)) (Qaa (Qam (I6 (((Sort.partitionEqual ltInt d4 l h pvx).1:Nat):Int)) (Qad (QaI ?_)))))))))))))))))))))
  have hfin:=QxB c2 c6 hd4 hp4 hpv hl3 (by rw [QQ3 c30,QQ4 c30r];rfl) hrg
  refine ⟨_,?_,_,(Sort.partitionEqual ltInt d4 l h pvx).1,h,lim3,wb,wp,(Sort.partitionEqual ltInt d4 l h pvx).2,Qai (Qai (Qai (Qai (Qai (Qao (ds:=([1,2,3]++sq 8 126)) (by repeat (first|exact Agr.refl _ _|refine Agr.upd ?_ rfl|refine Agr.mix ?_ rfl))) rfl) rfl) rfl) rfl) rfl,(by omega),(by omega),(by omega),(by omega),(by assumption),(by rw [← hev,hfin]),rfl,Y.take 1⟩
  omega
 refine Qap (Qae ?_)
 have hrg:=Qqw (d:=d4) (lo:=l) (hi:=h) (pvx:=pvx) (by omega) (by omega) (by omega)
 refine Qab (Qaa (Qaf (.slice a N c) (Qaa (Qaf (I6 (l:Int)) (Qaa (Qaf (I6 (h:Int)) (Qaa (Qaf (I6 (pvx:Int)) (Qaa (QbF (vs:=[.slice a N c,I6 (l:Int),I6 (h:Int),I6 (pvx:Int)]) (V:=fun _:Unit=>.tuple #[I6 (((partition ltInt d4 l h pvx).1:Nat):Int),.bool ((partition ltInt d4 l h pvx).2.1)]) (R:=row (.slice a N c) (d4.toList.map (ic .u16)) 32 1) (R':=fun _=>row (.slice a N c) (((partition ltInt d4 l h pvx).2.2).toList.map (ic .u16)) 32 1) (Lo:=fun _=>[]) (F:=fun _ _=>((partition ltInt d4 l h pvx).2.2).size=N) Qus rfl rfl Y 0 rfl (fun S hS hlt=>Qw6 _ S a N c d4 (by first|assumption|(simp only [QQ5,Go.Sort.size_swp];omega)) hN l h pvx (by omega) (by omega) (by omega) hS hlt) fun _ w34 Y hz35=>(Qaa (Qaf (.tuple #[I6 (((partition ltInt d4 l h pvx).1:Nat):Int),.bool ((partition ltInt d4 l h pvx).2.1)]) (Qaa (QaC (V:=I6 (((partition ltInt d4 l h pvx).1:Nat):Int)) rfl rfl (Qaa (QaC (V:=.bool ((partition ltInt d4 l h pvx).2.1)) rfl rfl (Qaa (Qam (I6 (((partition ltInt d4 l h pvx).1:Nat):Int)) (Qaa (Qam (.bool ((partition ltInt d4 l h pvx).2.1)) (Qad (Qae (Qab (Qaa (Qaf (.bool ((partition ltInt d4 l h pvx).2.1)) (Qaa (Qam (.bool ((partition ltInt d4 l h pvx).2.1)) (Qad (Qae (Qab (Qaa (Qaf (I6 (((partition ltInt d4 l h pvx).1:Nat):Int)) (Qaa (Qaf (I6 (l:Int)) (Qaa (Qbb (a:=(((partition ltInt d4 l h pvx).1:Nat):Int)) (b:=(l:Int)) (c:=((((partition ltInt d4 l h pvx).1)-l:Nat):Int)) rfl rfl (Qaj (by omega) (by omega)) (Qaa (Qaf (I6 (h:Int)) (Qaa (Qaf (I6 (((partition ltInt d4 l h pvx).1:Nat):Int)) (Qaa (Qbb (a:=(h:Int)) (b:=(((partition ltInt d4 l h pvx).1:Nat):Int)) (c:=((h-((partition ltInt d4 l h pvx).1):Nat):Int)) rfl rfl (Qaj (by omega) (by omega)) (Qaa (Qam (I6 ((((partition ltInt d4 l h pvx).1)-l:Nat):Int)) (Qaa (Qam (I6 ((h-((partition ltInt d4 l h pvx).1):Nat):Int)) (Qad (Qae (Qab (Qaa (Qaf (I6 ((h-l:Nat):Int)) (Qaa (QjA (a:=((h-l:Nat):Int)) (b:=8) (c:=(((h-l)/8:Nat):Int)) rfl rfl (by decide) (Qaj rfl (by omega)) (Qaa (Qam (I6 (((h-l)/8:Nat):Int)) (Qad (Qae (Qab (Qaa (Qaf (I6 ((((partition ltInt d4 l h pvx).1)-l:Nat):Int)) (Qaa (Qaf (I6 ((h-((partition ltInt d4 l h pvx).1):Nat):Int)) (Qaa (Qa0 rfl rfl (Qad (Qak (t:=decide (((((partition ltInt d4 l h pvx).1)-l:Nat):Int)<((h-((partition ltInt d4 l h pvx).1):Nat):Int))) rfl (fun c37=>?_) (fun c37=>?_)))))))))))))))))))))))))))))))))))))))))))))))))))))))))))))))))))
 ·
  replace c37:=QQ1 c37
  refine Qae (Qab (Qaa (Qaf (I6 ((((partition ltInt d4 l h pvx).1)-l:Nat):Int)) (Qaa (Qaf (I6 (((h-l)/8:Nat):Int)) (Qaa (Qa8 (V:=.bool (decide ((((h-l)/8:Nat):Int)<=((((partition ltInt d4 l h pvx).1)-l:Nat):Int)))) (V':=.bool (decide ((partition ltInt d4 l h pvx).1-l ≥ (h-l)/8))) (QcZ rfl rfl ⟨rfl,rfl⟩) (congrArg Value.bool (decide_eq_decide.2 (by omega))) (Qaa (Qam (.bool (decide ((partition ltInt d4 l h pvx).1-l ≥ (h-l)/8))) (Qad (Qae (Qab (Qaa (Qaf (.slice a N c) (Qaa (Qaf (I6 (l:Int)) (Qaa (Qaf (I6 (((partition ltInt d4 l h pvx).1:Nat):Int)) (Qaa (Qaf (I6 (lim3:Int)) (Qaa (QbF (vs:=[.slice a N c,I6 (l:Int),I6 (((partition ltInt d4 l h pvx).1:Nat):Int),I6 (lim3:Int)]) (V:=fun _:Unit=>.tuple #[]) (R:=row (.slice a N c) (((partition ltInt d4 l h pvx).2.2).toList.map (ic .u16)) 32 1) (R':=fun _=>row (.slice a N c) ((Sort.pdq ltInt ((partition ltInt d4 l h pvx).2.2) l ((partition ltInt d4 l h pvx).1) lim3 true true).toList.map (ic .u16)) 32 1) (Lo:=fun _=>[]) (F:=fun _ _=>(Sort.pdq ltInt ((partition ltInt d4 l h pvx).2.2) l ((partition ltInt d4 l h pvx).1) lim3 true true).size=N) Qm8 rfl rfl Y 0 rfl (fun S hS hlt=>ih _ S a N c ((partition ltInt d4 l h pvx).2.2) (by first|assumption|(simp only [QQ5,Go.Sort.size_swp];omega)) hN l ((partition ltInt d4 l h pvx).1) lim3 (by omega) (by omega) (by omega) (by omega) hS hlt) fun _ w38 Y hz39=>(Qad (Qab (Qaa (Qaf (I6 (((partition ltInt d4 l h pvx).1:Nat):Int)) (Qaa (QaB (a:=(((partition ltInt d4 l h pvx).1:Nat):Int)) (b:=1) (c:=((((partition ltInt d4 l h pvx).1)+1:Nat):Int)) rfl rfl (Qaj (by omega) (by omega)) (Qaa (Qam (I6 ((((partition ltInt d4 l h pvx).1)+1:Nat):Int)) (Qad ?_)))))))))))))))))))))))))))))))
  have hfin:=Qsv c2 c6 hd4 hp4 hpv hl3 c30 hrg c37
  refine ⟨_,?_,_,((partition ltInt d4 l h pvx).1)+1,h,lim3,decide ((partition ltInt d4 l h pvx).1-l ≥ (h-l)/8),(partition ltInt d4 l h pvx).2.1,Sort.pdq ltInt ((partition ltInt d4 l h pvx).2.2) l ((partition ltInt d4 l h pvx).1) lim3 true true,Qai (Qai (Qai (Qai (Qai (Qao (ds:=([1,2,3]++sq 8 126)) (by repeat (first|exact Agr.refl _ _|refine Agr.upd ?_ rfl|refine Agr.mix ?_ rfl))) rfl) rfl) rfl) rfl) rfl,(by omega),(by omega),(by omega),(by omega),(by assumption),(by rw [← hev,hfin]),rfl,Y.take 1⟩
  omega
 replace c37:=QQ2 c37
 refine Qae (Qab (Qaa (Qaf (I6 ((h-((partition ltInt d4 l h pvx).1):Nat):Int)) (Qaa (Qaf (I6 (((h-l)/8:Nat):Int)) (Qaa (Qa8 (V:=.bool (decide ((((h-l)/8:Nat):Int)<=((h-((partition ltInt d4 l h pvx).1):Nat):Int)))) (V':=.bool (decide (h-(partition ltInt d4 l h pvx).1 ≥ (h-l)/8))) (QcZ rfl rfl ⟨rfl,rfl⟩) (congrArg Value.bool (decide_eq_decide.2 (by omega))) (Qaa (Qam (.bool (decide (h-(partition ltInt d4 l h pvx).1 ≥ (h-l)/8))) (Qad (Qae (Qab (Qaa (Qaf (.slice a N c) (Qaa (Qaf (I6 (((partition ltInt d4 l h pvx).1:Nat):Int)) (Qaa (QaB (a:=(((partition ltInt d4 l h pvx).1:Nat):Int)) (b:=1) (c:=((((partition ltInt d4 l h pvx).1)+1:Nat):Int)) rfl rfl (Qaj (by omega) (by omega)) (Qaa (Qaf (I6 (h:Int)) (Qaa (Qaf (I6 (lim3:Int)) (Qaa (QbF (vs:=[.slice a N c,I6 ((((partition ltInt d4 l h pvx).1)+1:Nat):Int),I6 (h:Int),I6 (lim3:Int)]) (V:=fun _:Unit=>.tuple #[]) (R:=row (.slice a N c) (((partition ltInt d4 l h pvx).2.2).toList.map (ic .u16)) 32 1) (R':=fun _=>row (.slice a N c) ((Sort.pdq ltInt ((partition ltInt d4 l h pvx).2.2) (((partition ltInt d4 l h pvx).1)+1) h lim3 true true).toList.map (ic .u16)) 32 1) (Lo:=fun _=>[]) (F:=fun _ _=>(Sort.pdq ltInt ((partition ltInt d4 l h pvx).2.2) (((partition ltInt d4 l h pvx).1)+1) h lim3 true true).size=N) Qm8 rfl rfl Y 0 rfl (fun S hS hlt=>ih _ S a N c ((partition ltInt d4 l h pvx).2.2) (by first|assumption|(simp only [QQ5,Go.Sort.size_swp];omega)) hN (((partition ltInt d4 l h pvx).1)+1) h lim3 (by omega) (by omega) (by omega) (by omega) hS hlt) fun _ w41 Y hz42=>(Qad (Qab (Qaa (Qaf (I6 (((partition ltInt d4 l h pvx).1:Nat):Int)) (Qaa (Qam (I6 (((partition ltInt d4 l h pvx).1:Nat):Int)) (Qad ?_)))))))))))))))))))))))))))))))
 have hfin:=QqS c2 c6 hd4 hp4 hpv hl3 c30 hrg c37
 refine ⟨_,?_,_,l,(partition ltInt d4 l h pvx).1,lim3,decide (h-(partition ltInt d4 l h pvx).1 ≥ (h-l)/8),(partition ltInt d4 l h pvx).2.1,Sort.pdq ltInt ((partition ltInt d4 l h pvx).2.2) (((partition ltInt d4 l h pvx).1)+1) h lim3 true true,Qai (Qai (Qai (Qai (Qai (Qao (ds:=([1,2,3]++sq 8 126)) (by repeat (first|exact Agr.refl _ _|refine Agr.upd ?_ rfl|refine Agr.mix ?_ rfl))) rfl) rfl) rfl) rfl) rfl,(by omega),(by omega),(by omega),(by omega),(by assumption),(by rw [← hev,hfin]),rfl,Y.take 1⟩
 omega
end Tt
end Go.Proofs
namespace Go.Proofs
open Go Go.Vx Go.RowKit
open Go.Sort (ltInt medianAdjacent order2 partition)
open Tryz
namespace Tt
theorem Qoc (hxor:Qsj prog 163 211) (hpow:QtA prog 162):∀ n,Qvh n
 | 0=>fun w S a N c d hsz hN lo hi lim h1 h2 hlim hlen=>by omega
 | n+1=>fun w S a N c d hsz hN lo hi lim h1 h2 hlim hlen hR hlt=>Qqv n (Qoc hxor hpow n) w S a N c d hsz hN lo hi lim h1 h2 hxor hpow hlim hlen hR hlt
theorem QuY (w:World) (S:Nat->Prop) (a:Option Addr) (N c:Nat) (d:Array Int) (hsz:d.size=N) (hN:N<=2305843009213693951) (hxor:Qsj prog 163 211) (hpow:QtA prog 162) (lo hi lim:Nat) (h1:lo<=hi) (h2:hi<=N) (hlim:lim<=4611686018427387904) (hR:(row (.slice a N c) (d.toList.map (ic .u16)) 32 1).holds w S) (hlt:∀ x,S x->x<w.heap.size):Calls prog 160 #[.slice a N c,.int .i64 (lo:Int),.int .i64 (hi:Int),.int .i64 (lim:Int)] w (fun e w'=>∃ x:Unit,e = .returned (.tuple #[])/\Own w S w' [row (.slice a N c) ((Sort.pdq ltInt d lo hi lim true true).toList.map (ic .u16)) 32 1]/\(Sort.pdq ltInt d lo hi lim true true).size=N) :=
 Qoc hxor hpow (hi-lo+1) w S a N c d hsz hN lo hi lim h1 h2 hlim (Nat.lt_succ_self _) hR hlt
theorem QmI (w:World) (S:Nat->Prop) (a:Option Addr) (N c:Nat) (d:Array Int) (hsz:d.size=N) (hN:N<=2305843009213693951) (hxor:Qsj prog 163 211) (hpow:QtA prog 162) (hblen:Qxa prog 92) (hR:(row (.slice a N c) (d.toList.map (ic .u16)) 32 1).holds w S) (hlt:∀ x,S x->x<w.heap.size):Calls prog 134 #[.slice a N c] w (fun e w'=>∃ x:Unit,e = .returned (.tuple #[])/\Own w S w' [row (.slice a N c) ((Sort.pdq ltInt d 0 N (Sort.bitsLen N) true true).toList.map (ic .u16)) 32 1]/\(Sort.pdq ltInt d 0 N (Sort.bitsLen N) true true).size=N):=by
 refine Qah (n:=11) func134 rfl ntmps134 rfl ?_
 have Y:=Own.lent hR hlt
 have hbl:Sort.bitsLen N<=4611686018427387904:=Nat.le_trans ((Sort.bitsLen_le_iff N 62).2 (by omega)) (by decide)
 refine Qae (Qab (Qaa (Qaf (.slice a N c) (Qaa (Qa5 (n:=N) QaP (Y.rd 0 rfl) (by rw [QQ6,QQ9];assumption) rfl (Qaa (Qam (I6 (N:Int)) (Qad (Qab (Qaa (Qaf (.slice a N c) (Qaa (Qaf (I6 (N:Int)) (Qaa (Qaf (I6 (N:Int)) (Qaa (QbV Qhk QdH rfl (Qdu (by omega) (by omega)) (Qaa (Qas (vs:=[.int .u64 (N:Int)]) (V:=I6 ((Sort.bitsLen N:Nat):Int)) Qw2 rfl rfl ?hc Y fun w1 Y=>?_)))))))))))))))))))
 case hc=>exact (hblen _ N (by omega))
 refine Qaa (QbF (vs:=[.slice a N c,I6 0,I6 (N:Int),I6 ((Sort.bitsLen N:Nat):Int)]) (V:=fun _:Unit=>.tuple #[]) (R:=row (.slice a N c) (d.toList.map (ic .u16)) 32 1) (R':=fun _=>row (.slice a N c) ((Sort.pdq ltInt d 0 N (Sort.bitsLen N) true true).toList.map (ic .u16)) 32 1) (Lo:=fun _=>[]) (F:=fun _ _=>(Sort.pdq ltInt d 0 N (Sort.bitsLen N) true true).size=N) Qm8 rfl rfl Y 0 rfl (fun S hS hlt=>QuY _ S a N c d (by first|assumption|(simp only [QQ5,Go.Sort.size_swp];omega)) hN hxor hpow 0 N (Sort.bitsLen N) (Nat.zero_le _) (Nat.le_refl _) hbl hS hlt) fun _ w2 Y hz3=>(Qad ?_))
 refine ⟨_,Qbl results134,?_⟩
 have hX:Sort.pdq ltInt d 0 N (Sort.bitsLen N) true true=Sort.pdq ltInt d 0 N (Sort.bitsLen N) true true:=rfl
 exact ⟨(),rfl,hX ▸ Y.take 1,hX ▸ (by first|assumption|(simp only [QQ5,Go.Sort.size_swp];omega))⟩
theorem sort_ok (hxor:Qsj prog 163 211) (hpow:QtA prog 162) (hblen:Qxa prog 92):Qg2 prog 134 .u16 32:=by
 intro w S a c l hR hlt hlen
 have hd:l.toArray.size=l.length:=by simp
 have h:=QmI w S a l.length c l.toArray hd hlen hxor hpow hblen (by simpa using hR) hlt
 refine h.mono fun e w' ⟨_,he,ho,_⟩=>⟨he,?_⟩
 have e1:(Sort.pdq ltInt l.toArray 0 l.length (Sort.bitsLen l.length) true true).toList=QaO l:=by
  have h2:=Sort.sortInt l
  unfold Sort.sort at h2
  rw [hd] at h2
  exact h2
 rw [e1] at ho
 exact ho
end Tt
end Go.Proofs
namespace Go.Proofs.YtbjbjboehjdcaaaGreat
open Go.Vx Go.Sort Go.Proofs
theorem Qyf:Qxa Tryz.prog 92:=fun w n hn=>by
 have h:=Any.bits_Len (SlLaysF0.n15.bits (P:=Tryz.prog) (ρ:=Tryz.sortE_ren) { Tryz.sortE with }) (n:Int) w (by omega) (by omega)
 rw [Int.toNat_natCast,bitLen_eq _ (by omega)] at h
 exact h.mono fun e w' ⟨he,hw⟩=>by subst hw;exact ⟨he,Own.start _⟩
theorem Qyc:Qsj Tryz.prog 163 211:=fun w S rb X hX hR hlt=>Qwq (P:=Tryz.prog) (J:=Tryz.sortE_ren) { Tryz.sortE with } 211 w S rb X hX hR hlt
theorem Qyg:QtA Tryz.prog 162:=fun w n hn=>Qv9 (P:=Tryz.prog) (J:=Tryz.sortE_ren) { Tryz.sortE with } w n hn
theorem Qwk:Qg2 Tryz.prog 134 .u16 32:=Tt.sort_ok Qyc Qyg Qyf
end Go.Proofs.YtbjbjboehjdcaaaGreat
