/- A part of a proof: what functions of the program compute, and plain facts on that. -/
import Derived.Test.YtbkdlibbcepppaaGreatDoorShipBytesP5
import Derived.KernelRfl
import Derived.Test.YtbkdlibbcepppaaGreatDoorProg
set_option linter.unusedVariables false
set_option linter.unusedSectionVars false
set_option linter.unusedSimpArgs false
set_option maxHeartbeats 4000000
set_option maxRecDepth 100000
namespace Go.Proofs
open Go Go.Vx Go.RowKit
open Tryz
namespace Tt
theorem QvY:En prog 11:=call11
theorem Qv1:En prog 22:=call22
theorem Qv5:En prog 23:=call23
theorem QuO:En prog 24:=call24
theorem Qu7:En prog 25:=call25
theorem Qv6:En prog 26:=call26
theorem QvQ:En prog 27:=call27
theorem Qvh:En prog 30:=call30
theorem Qvo:En prog 31:=call31
theorem Qu8:prog.underlying 4=some (.bool):=underlying4
end Tt
end Go.Proofs
namespace Go.Proofs
open Go Go.Vx Go.RowKit
open Tryz
namespace Tt
theorem Qju (w:Nat) (l:Bs) (c:Int):Qj9 w (l++[c])=Qmh (Qj9 w l) c:=by simp [Qj9]
def Qeh:Vec:=fun i=>((QoO.getD i.val 0:Nat):Int)
theorem Qk9 (w:Nat):vat Qeh (w%16)=((QoO.getD (w%16) 0:Nat):Int):=by
 unfold vat Qeh
 rw [dif_pos (by omega)]
theorem QkB (r:Nat) (h:r<16):QoO.getD r 0<4294967296:=by
 have:∀ r<16,QoO.getD r 0<4294967296:=by decide
 exact this r h
theorem Qoc {w:Nat} (h:w<4294967296):QiF w<4294967296:=Nat.xor_lt_two_pow (n:=32) (by omega) (QkB _ (by omega))
theorem Qmc (w:World) (s:Nat) (hs32:s<4294967296) (a:Option Addr) (c:Nat) (l:List Int) (hby:QaZ l) (hr:Rd w (.slice a l.length c) 1 (l.map (ic .u8))) (hG:Qa8 w 0 (vc Qeh)):Calls prog 245 #[.int .u32 (s:Int),.slice a l.length c] w (fun e w'=>e = .returned (.int .u32 ((Qj9 (s ^^^ 4294967295) l ^^^ 4294967295:Nat):Int))/\Own w no w' []):=by
 refine Qal (n:=37) func245 rfl ntmps245 rfl ?_
 have Y:=Own.start w
 have hn:=hr.sml
 have hx0:s ^^^ 4294967295<4294967296:=Nat.xor_lt_two_pow (n:=32) hs32 (by omega)
 refine Qae (Qab (Qaa (Qak (.int .u32 0) (Qad (Qae (Qab (Qaa (Qag (.int .u32 (s:Int)) (Qaa (QmH rfl (by omega) (Qaa (Qak (.int .u32 ((s ^^^ 4294967295:Nat):Int)) (Qad (Qae (Qae (Qab (Qaa (Qag (.slice a l.length c) (Qaa (QbG (n:=l.length) QbJ (Rd.own' hr Y) (by simp) rfl (Qaa (Qag (I6 0) (Qad (Qay (Qbb (fun J μ J' w'=>∃ (Jo:Env) (k:Nat) (x:Nat),J'=upd (upd (mix ([5,7]++sq 12 23) Jo J) 12 (I6 (k:Int))) 5 (.int .u32 (x:Int))/\(k<=l.length)/\(x=Qj9 (s ^^^ 4294967295) (l.take k))/\(x<4294967296)/\μ=l.length-k/\Own w no w' []) ?_ ?_)))))))))))))))))))))))))
 ·exact ⟨_,_,0,s ^^^ 4294967295,Qaw (Qaw (QaN (ds:=([5,7]++sq 12 23)) (Agr.refl _ _)) rfl) rfl,(by omega),rfl,(Nat.xor_lt_two_pow (n:=32) hs32 (by omega)),rfl,Y⟩
 rintro μ J' w1 ⟨Jo,k,x,rfl,hk,hx,hx32,rfl,Y⟩
 have hb:k<l.length->0<=gd l k/\gd l k<256:=fun h=>hby _ (Qcw h)
 refine Qae (Qab (Qaa (QbQ rfl rfl (Qad (Qae (Qaq (t:=decide ((k:Int)<((l.length:Nat):Int))) rfl (fun c2=>?_) (fun c2=>?_)))))))
 ·
  replace c2:=QQ1 c2
  refine Qar (Qae (Qay (Qae (Qab (Qaa (QcJ QbJ QcG.1 (Rd.own' hr Y) rfl rfl (by omega) (by rw [QQ6];omega) (Qaa (QdX (j:=0) (V:=.int .u8 (gd l k)) k QcG (Rd.own' hr Y) (QcN (by omega)) rfl rfl (by omega) (Qaa (Qak (.int .u8 (gd l k)) (Qad (Qae ?_))))))))))))
  have hb1:=hb (by omega)
  have hz:x ^^^ (gd l k).toNat<4294967296:=Nat.xor_lt_two_pow (n:=32) hx32 (by omega)
  refine Qab (Qaa (Qag (.int .u32 (x:Int)) (Qaa (Qag (.int .u8 (gd l k)) (Qaa (Qas (V:=.int .u32 (gd l k)) (V':=.int .u32 (((gd l k).toNat:Nat):Int)) (QaB Qfe Qdx rfl (Qjf (by omega) (by omega)) ⟨rfl,rfl⟩) (congrArg (Value.int .u32) (by omega)) (Qaa (Qas (V:=.int .u32 (bits .xor .u32 (x:Int) (((gd l k).toNat:Nat):Int))) (V':=.int .u32 ((x ^^^ (gd l k).toNat:Nat):Int)) (Qg8 rfl rfl ⟨rfl,rfl⟩) (congrArg (Value.int .u32) (Qj7 hx32 (by omega))) (Qaa (Qak (.int .u32 ((x ^^^ (gd l k).toNat:Nat):Int)) (Qad (Qae (Qab (Qaa (Qag (.int .u32 ((x ^^^ (gd l k).toNat:Nat):Int)) (Qaa (Qas (V:=.int .u32 (((x ^^^ (gd l k).toNat:Nat):Int)/2 ^ (4:Int).toNat)) (V':=.int .u32 (((x ^^^ (gd l k).toNat)/16:Nat):Int)) (Qku rfl rfl (by decide) (by decide) ⟨rfl,rfl⟩) (congrArg (Value.int .u32) (by rw [show (2:Int) ^ (4:Int).toNat=16 from rfl];omega)) (Qaa (Qag (.int .u32 ((x ^^^ (gd l k).toNat:Nat):Int)) (Qaa (Qas (V:=.int .u32 (bits .and .u32 ((x ^^^ (gd l k).toNat:Nat):Int) 15)) (V':=.int .u32 (((x ^^^ (gd l k).toNat)%16:Nat):Int)) (Qle rfl rfl ⟨rfl,rfl⟩) (congrArg (Value.int .u32) (Qtx hz)) (Qaa (Qb2 Qtz Qbv.1 rfl rfl (by omega) (by omega) (Qaa (Qas (V:=.int .u32 (vat Qeh ((x ^^^ (gd l k).toNat)%16))) (V':=.int .u32 ((QoO.getD ((x ^^^ (gd l k).toNat)%16) 0:Nat):Int)) (Quf (V:=.int .u32 (vat Qeh ((x ^^^ (gd l k).toNat)%16))) Qbv (Qa8.own' hG Y) rfl (QqW (by omega) (by omega)) ⟨rfl,rfl⟩) (congrArg (Value.int .u32) (Qk9 _)) (Qaa (Qas (V:=.int .u32 (bits .xor .u32 (((x ^^^ (gd l k).toNat)/16:Nat):Int) ((QoO.getD ((x ^^^ (gd l k).toNat)%16) 0:Nat):Int))) (V':=.int .u32 ((QiF (x ^^^ (gd l k).toNat):Nat):Int)) (Qg8 rfl rfl ⟨rfl,rfl⟩) (congrArg (Value.int .u32) (Qj7 (by omega) (QkB _ (by omega)))) (Qaa (Qak (.int .u32 ((QiF (x ^^^ (gd l k).toNat):Nat):Int)) (Qad (Qab (Qaa (Qag (.int .u32 ((QiF (x ^^^ (gd l k).toNat):Nat):Int)) (Qaa (Qas (V:=.int .u32 (((QiF (x ^^^ (gd l k).toNat):Nat):Int)/2 ^ (4:Int).toNat)) (V':=.int .u32 (((QiF (x ^^^ (gd l k).toNat))/16:Nat):Int)) (Qku rfl rfl (by decide) (by decide) ⟨rfl,rfl⟩) (congrArg (Value.int .u32) (by rw [show (2:Int) ^ (4:Int).toNat=16 from rfl];omega)) (Qaa (Qag (.int .u32 ((QiF (x ^^^ (gd l k).toNat):Nat):Int)) (Qaa (Qas (V:=.int .u32 (bits .and .u32 ((QiF (x ^^^ (gd l k).toNat):Nat):Int) 15)) (V':=.int .u32 (((QiF (x ^^^ (gd l k).toNat))%16:Nat):Int)) (Qle rfl rfl ⟨rfl,rfl⟩) (congrArg (Value.int .u32) (Qtx (Qoc hz))) (Qaa (Qb2 Qtz Qbv.1 rfl rfl (by omega) (by omega) (Qaa (Qas (V:=.int .u32 (vat Qeh ((QiF (x ^^^ (gd l k).toNat))%16))) (V':=.int .u32 ((QoO.getD ((QiF (x ^^^ (gd l k).toNat))%16) 0:Nat):Int)) (Quf (V:=.int .u32 (vat Qeh ((QiF (x ^^^ (gd l k).toNat))%16))) Qbv (Qa8.own' hG Y) rfl (QqW (by omega) (by omega)) ⟨rfl,rfl⟩) (congrArg (Value.int .u32) (Qk9 _)) (Qaa (Qas (V:=.int .u32 (bits .xor .u32 (((QiF (x ^^^ (gd l k).toNat))/16:Nat):Int) ((QoO.getD ((QiF (x ^^^ (gd l k).toNat))%16) 0:Nat):Int))) (V':=.int .u32 ((Qmh x (gd l k):Nat):Int)) (Qg8 rfl rfl ⟨rfl,rfl⟩) (congrArg (Value.int .u32) ((Qj7 (by have:=Qoc hz;omega) (QkB _ (by omega))).trans (by unfold Qmh;rw [QrM];rfl))) (Qaa (Qak (.int .u32 ((Qmh x (gd l k):Nat):Int)) (Qad (Qab (Qaa (Qbx (a:=(k:Int)) (b:=1) (c:=((k+1:Nat):Int)) rfl rfl (QaS (by omega) (by omega)) (Qaa (Qag (I6 ((k+1:Nat):Int)) (Qad ?_))))))))))))))))))))))))))))))))))))))))))))))))))))))
  refine ⟨_,?_,_,k+1,Qmh x (gd l k),Qaw (Qaw (QaN (ds:=([5,7]++sq 12 23)) (by repeat (first|exact Agr.refl _ _|refine Agr.upd ?_ rfl|refine Agr.mix ?_ rfl))) rfl) rfl,(by omega),(by rw [QdY (by omega),Qju,← hx]),(QjV hx32 (hb (by omega)).2),rfl,Y.take 0⟩
  omega
 replace c2:=QQ2 c2
 refine Qbs (Qae (Qab (Qaa (Qag (.int .u32 (x:Int)) (Qaa (QmH rfl (by omega) (Qaa (Qak (.int .u32 ((x ^^^ 4294967295:Nat):Int)) (Qad (Qat ?_))))))))))
 refine ⟨_,Qau (V:=.int .u32 ((x ^^^ 4294967295:Nat):Int)) results245 rfl,(Zr Y ?_)⟩
 rw [hx,List.take_of_length_le (by omega)]
theorem Qmx (w:World) (a:Option Addr) (c:Nat) (l:List Int) (hby:QaZ l) (hr:Rd w (.slice a l.length c) 1 (l.map (ic .u8))) (hG:Qa8 w 0 (vc Qeh)):Calls prog 188 #[.slice a l.length c] w (fun e w'=>e = .returned (.int .u32 ((QbF l:Nat):Int))/\Own w no w' []):=by
 refine Qal (n:=5) func188 rfl ntmps188 rfl ?_
 have Y:=Own.start w
 have hn:=hr.sml
 refine Qae (Qab (Qaa (Qak (.int .u32 0) (Qad (Qae (Qab (Qaa (Qag (.slice a l.length c) (Qaa (QaH (vs:=[.int .u32 0,.slice a l.length c]) (V:=.int .u32 ((Qj9 (0 ^^^ 4294967295) l ^^^ 4294967295:Nat):Int)) Qum rfl rfl ?hc Y fun w1 Y=>?_))))))))))
 case hc=>exact (Qmc _ 0 (by omega) a c l hby (Rd.own' hr Y) (Qa8.own' hG Y))
 refine Qaa (Qak (.int .u32 ((Qj9 (0 ^^^ 4294967295) l ^^^ 4294967295:Nat):Int)) (Qad (Qat ?_)))
 refine ⟨_,Qau (V:=.int .u32 ((Qj9 (0 ^^^ 4294967295) l ^^^ 4294967295:Nat):Int)) results188 rfl,(Zr Y ?_)⟩
 rfl
end Tt
end Go.Proofs
namespace Go.Proofs
open Go Go.Vx Go.RowKit
open Tryz
namespace Tt
theorem QsO (w:World) (d:Dot):Calls prog 101 #[.agg (dc d).toArray] w (fun e w'=>e = .returned (.bool (QdI d))/\Own w no w' []):=by
 refine Qal (n:=16) func101 rfl ntmps101 rfl ?_
 have Y:=Own.start w
 refine Qae (Qab (Qaa (Qb4 (V:=.agg (dc d).toArray) (cs:=dc d) rfl rfl Y fun b1 w2 Y=>(Qaa (Qak (.bool false) (Qad (Qae (Qa2 (so 3 13++[some 2]) [] [0,1,3,7,15,31,63,127,255,511,1023,2047,4095,8191] [pv (Pq b1 (0+0)),pv (.int .u8 d.rep),pv (.bool (decide (d.rep<16))),pv (.bool (decide (d.rep<16))),pg ((decide (d.rep<16)) == true) (Pq b1 (0+1)),pg ((decide (d.rep<16)) == true) (.int .u32 d.seq),pg ((decide (d.rep<16)) == true) (.bool (decide (1<=d.seq))),pv (.bool ((decide (d.rep<16))&&(decide (1<=d.seq)))),pv (.bool ((decide (d.rep<16))&&(decide (1<=d.seq)))),pg (((decide (d.rep<16))&&(decide (1<=d.seq))) == true) (Pq b1 (0+1)),pg (((decide (d.rep<16))&&(decide (1<=d.seq))) == true) (.int .u32 d.seq),pg (((decide (d.rep<16))&&(decide (1<=d.seq))) == true) (.bool (decide (d.seq<=1048576))),pv (.bool (((decide (d.rep<16))&&(decide (1<=d.seq)))&&(decide (d.seq<=1048576)))),pv (.bool (((decide (d.rep<16))&&(decide (1<=d.seq)))&&(decide (d.seq<=1048576))))] (fun _ _=>_) [13] (by kernel_rfl) Y ⟨?_,?_,?_,?_,?_,?_,?_,?_,?_,?_,?_,?_,?_,?_,trivial⟩ ?_))))))))
 ·exact oi [] fun Y=>Qac QdO rfl (Zz Y)
 ·exact oi [0] fun Y=>QaY (.int .u8 d.rep) QcG Y 0 (Zz Y)
 ·exact oi [1] fun Y=>QbQ rfl rfl (Zz Y)
 ·exact oi [2] fun Y=>Qag (.bool (decide (d.rep<16))) (Zz Y)
 ·exact ogi [3] fun hG Y=>Qac Qds rfl (Zz Y)
 ·exact oyi [3,4] [4] fun hG Y=>QaY (.int .u32 d.seq) Qbv Y 0 (Zz Y)
 ·exact oyi [3,5] [5] fun hG Y=>Qdj rfl rfl (Zz Y)
 ·exact oi [3,6] fun Y=>Qa0 (h':=decide (1<=d.seq)) rfl rfl rfl (Zz Y)
 ·exact oi [7] fun Y=>Qag (.bool ((decide (d.rep<16))&&(decide (1<=d.seq)))) (Zz Y)
 ·exact ogi [8] fun hG Y=>Qac Qds rfl (Zz Y)
 ·exact oyi [8,9] [9] fun hG Y=>QaY (.int .u32 d.seq) Qbv Y 0 (Zz Y)
 ·exact oyi [8,10] [10] fun hG Y=>QfU rfl rfl (Zz Y)
 ·exact oi [8,11] fun Y=>Qa0 (h':=decide (d.seq<=1048576)) rfl rfl rfl (Zz Y)
 ·exact oi [12] fun Y=>Qak (.bool (((decide (d.rep<16))&&(decide (1<=d.seq)))&&(decide (d.seq<=1048576)))) (Zz Y)
 rintro J1 w3 J2 hJ Y
 replace hJ:J2=upd (mix (sq 3 13++[2]) J1 _) 2 (.bool (((decide (d.rep<16))&&(decide (1<=d.seq)))&&(decide (d.seq<=1048576)))):=hJ
 subst hJ
 refine Qat ?_
 refine ⟨_,Qau (V:=.bool (((decide (d.rep<16))&&(decide (1<=d.seq)))&&(decide (d.seq<=1048576)))) results101 rfl,(Zr Y ?_)⟩
 rfl
theorem QjG (w:World) (v:Vec) (n:Int) (hv:Qbw v):Calls prog 89 #[.agg (vc v).toArray,.int .i64 n] w (fun e w'=>e = .returned (.bool (QaE v n))/\Own w no w' []):=by
 refine Qal (n:=30) func89 rfl ntmps89 rfl ?_
 have Y:=Own.start w
 refine Qae (Qab (Qaa (Qb4 (V:=.agg (vc v).toArray) (cs:=vc v) rfl rfl Y fun b1 w2 Y=>(Qaa (Qak (.bool false) (Qad (Qae (Qae (Qa2 (so 7 6) [] [0,1,3,7,15,31] [pv (I6 n),pv (.bool (decide (n<1))),pv (.bool (decide (n<1))),pg ((decide (n<1)) == false) (I6 n),pg ((decide (n<1)) == false) (.bool (decide (16<n))),pv (.bool ((decide (n<1))||(decide (16<n))))] (fun _ _=>_) [5] (by kernel_rfl) Y ⟨?_,?_,?_,?_,?_,?_,trivial⟩ ?_)))))))))
 ·exact oi [] fun Y=>Qag (.int .i64 n) (Zz Y)
 ·exact oi [0] fun Y=>QbQ rfl rfl (Zz Y)
 ·exact oi [1] fun Y=>Qag (.bool (decide (n<1))) (Zz Y)
 ·exact ogi [2] fun hG Y=>Qag (.int .i64 n) (Zz Y)
 ·exact oyi [2,3] [3] fun hG Y=>Qck rfl rfl (Zz Y)
 ·exact oi [2,4] fun Y=>QbL (h':=decide (16<n)) rfl rfl rfl (Zz Y)
 rintro J1 w3 J2 hJ Y
 replace hJ:J2=upd (mix (sq 7 6) J1 _) 12 (.bool ((decide (n<1))||(decide (16<n)))):=hJ
 subst hJ
 refine Qaq (t:=(decide (n<1))||(decide (16<n))) rfl (fun c4=>?_) (fun c4=>?_)
 ·
  refine Qae (Qab (Qaa (Qak (.bool false) (Qad (Qat ?_)))))
  refine ⟨_,Qau (V:=.bool false) results89 rfl,(Zr Y ?_)⟩
  exact congrArg Value.bool (Qfg c4).symm
 have c4r:=QdH c4
 replace c4:=QdJ c4
 replace c4:=QQ2 c4
 replace c4r:=QQ2 c4r
 refine Qar (Qae (Qae (Qab (Qaa (Qa1 (cs:=vc v) QbC Y 0 rfl rfl rfl (Qaa (Qag (I6 0) (Qad (Qay (Qbb (fun J μ J' w'=>∃ (Jo:Env) (k:Nat),J'=upd (mix ([4,5,6]++sq 14 16) Jo J) 14 (I6 (k:Int))/\(k<=16)/\(∀ j:Nat,j<k->QhF v n j=true)/\μ=16-k/\Own w no w' [blk b1 (vc v) 36]) ?_ ?_))))))))))
 ·exact ⟨_,_,0,Qaw (QaN (ds:=([4,5,6]++sq 14 16)) (Agr.refl _ _)) rfl,(by omega),(fun j hj=>absurd hj (Nat.not_lt_zero j)),rfl,Y⟩
 rintro μ J' w5 ⟨Jo,k,rfl,hk,hok,rfl,Y⟩
 have hv1:=QfI hv ((k:Int).toNat)
 have hkk:((k:Int)).toNat=k:=rfl
 refine Qae (Qab (Qaa (QbQ rfl rfl (Qad (Qae (Qaq (t:=decide ((k:Int)<16)) rfl (fun c6=>?_) (fun c6=>?_)))))))
 ·
  replace c6:=QQ1 c6
  refine Qar (Qae (Qay (Qae (Qab (Qaa (Qag (I6 (k:Int)) (Qaa (Qm0 (V:=.int .u32 (vat v k)) Qgx Qbv rfl rfl (by omega) (by omega) (by rw [List.getElem?_toArray];exact QjH _ _ (by omega)) ?_))))))))
  refine Qaa (Qak (I6 (k:Int)) (Qaa (Qak (.int .u32 (vat v k)) (Qad (Qae (Qa2 (so 18 11) [] [0,1,3,7,7,31,63,127,255,511,1023] [pv (.int .u32 (vat v k)),pv (.bool (decide (1048576<vat v k))),pv (.bool (decide (1048576<vat v k))),pg ((decide (1048576<vat v k)) == false) (I6 (k:Int)),pg ((decide (1048576<vat v k)) == false) (I6 n),pg ((decide (1048576<vat v k)) == false) (.bool (decide (n<=(k:Int)))),pg ((decide (1048576<vat v k)) == false) (.bool (decide (n<=(k:Int)))),pg (((decide (1048576<vat v k)) == false)&&((decide (n<=(k:Int))) == true)) (.int .u32 (vat v k)),pg (((decide (1048576<vat v k)) == false)&&((decide (n<=(k:Int))) == true)) (.bool (decide (0<vat v k))),pg ((decide (1048576<vat v k)) == false) (.bool ((decide (n<=(k:Int)))&&(decide (0<vat v k)))),pv (.bool ((decide (1048576<vat v k))||((decide (n<=(k:Int)))&&(decide (0<vat v k)))))] (fun _ _=>_) [10] (by kernel_rfl) Y ⟨?_,?_,?_,?_,?_,?_,?_,?_,?_,?_,?_,trivial⟩ ?_))))))
  ·exact oi [] fun Y=>Qag (.int .u32 (vat v k)) (Zz Y)
  ·exact oi [0] fun Y=>Qck rfl rfl (Zz Y)
  ·exact oi [1] fun Y=>Qag (.bool (decide (1048576<vat v k))) (Zz Y)
  ·exact ogi [2] fun hG Y=>Qag (.int .i64 (k:Int)) (Zz Y)
  ·exact ogi [2] fun hG Y=>Qag (.int .i64 n) (Zz Y)
  ·exact oyi [2,3,4] [3,4] fun hG Y=>Qdj rfl rfl (Zz Y)
  ·exact oyi [2,5] [5] fun hG Y=>Qag (.bool (decide (n<=(k:Int)))) (Zz Y)
  ·exact ogi [6] fun hG Y=>Qag (.int .u32 (vat v k)) (Zz Y)
  ·exact oyi [6,7] [7] fun hG Y=>Qck rfl rfl (Zz Y)
  ·exact oyi [2,6,8] [6] fun hG Y=>Qhy (h':=decide (0<vat v k)) (G:=((decide (1048576<vat v k)) == false)) hG rfl rfl rfl (Zz Y)
  ·exact oi [2,9] fun Y=>QbL (h':=(decide (n<=(k:Int)))&&(decide (0<vat v k))) rfl rfl rfl (Zz Y)
  rintro J1 w7 J2 hJ Y
  replace hJ:J2=upd (mix (sq 18 11) J1 _) 28 (.bool ((decide (1048576<vat v k))||((decide (n<=(k:Int)))&&(decide (0<vat v k))))):=hJ
  subst hJ
  refine Qaq (t:=(decide (1048576<vat v k))||((decide (n<=(k:Int)))&&(decide (0<vat v k)))) rfl (fun c8=>?_) (fun c8=>?_)
  ·
   refine Qae (Qab (Qaa (Qak (.bool false) (Qad (Qat ?_)))))
   refine ⟨_,Qau (V:=.bool false) results89 rfl,(Zr Y ?_)⟩
   exact congrArg Value.bool (QjO (k:=k) (by omega) (Qob c8)).symm
  have c8r:=QdH c8
  replace c8:=QdJ c8
  replace c8:=QQ2 c8
  refine Qar (Qab (Qaa (Qbx (a:=(k:Int)) (b:=1) (c:=(k:Int)+1) rfl rfl (Qc1 (by omega) (by omega)) (Qaa (Qag (I6 ((k:Int)+1)) (Qad ?_))))))
  refine ⟨_,?_,_,k+1,Qaw (QaN (ds:=([4,5,6]++sq 14 16)) (by repeat (first|exact Agr.refl _ _|refine Agr.upd ?_ rfl|refine Agr.mix ?_ rfl))) rfl,(by omega),(Qjs hok (QlH c8 c8r)),rfl,Y.take 1⟩
  omega
 replace c6:=QQ2 c6
 refine Qbs (Qae (Qab (Qaa (Qak (.bool true) (Qad (Qat ?_))))))
 refine ⟨_,Qau (V:=.bool true) results89 rfl,(Zr Y ?_)⟩
 exact congrArg Value.bool ((Qhp fun j hj=>hok j (by omega)).trans (by simp;omega)).symm
theorem QiX (w:World) (v:Vec) (n:Int) (hv:Qbw v):Calls prog 94 #[.agg (vc v).toArray,.int .i64 n] w (fun e w'=>e = .returned (.bool (QaE v n))/\Own w no w' []):=by
 refine Qal (n:=31) func94 rfl ntmps94 rfl ?_
 have Y:=Own.start w
 refine Qae (Qab (Qaa (Qb4 (V:=.agg (vc v).toArray) (cs:=vc v) rfl rfl Y fun b1 w2 Y=>(Qaa (Qak (.bool false) (Qad (Qae (Qae (Qab (Qaa (Qak (I6 0) (Qad (Qay (Qbb (fun J μ J' w'=>∃ (Jo:Env) (k:Nat),J'=upd (mix (sq 4 21) Jo J) 5 (I6 (k:Int))/\(k<=16)/\(∀ j:Nat,j<k->QhF v n j=true)/\μ=16-k/\Own w no w' [blk b1 (vc v) 36]) ?_ ?_))))))))))))))
 ·exact ⟨_,_,0,Qaw (QaN (ds:=(sq 4 21)) (Agr.refl _ _)) rfl,(by omega),(fun j hj=>absurd hj (Nat.not_lt_zero j)),rfl,Y⟩
 rintro μ J' w3 ⟨Jo,k,rfl,hk,hok,rfl,Y⟩
 have hv1:=QfI hv ((k:Int).toNat)
 have hkk:((k:Int)).toNat=k:=rfl
 refine Qae (Qae (Qab (Qaa (Qag (I6 (k:Int)) (Qaa (QbQ rfl rfl (Qad (Qaq (t:=decide ((k:Int)<16)) rfl (fun c4=>?_) (fun c4=>?_)))))))))
 ·
  replace c4:=QQ1 c4
  refine Qar (Qae (Qay (Qae (Qa2 (so 10 15) [] [0,1,3,7,15,31,31,127,255,511,1023,2047,4095,8191,16383] [pv (I6 (k:Int)),pv (.pointer (some ⟨b1,0+(k:Int).toNat,none⟩)),pv (.int .u32 (vat v k)),pv (.bool (decide (1048576<vat v k))),pv (.bool (decide (1048576<vat v k))),pg ((decide (1048576<vat v k)) == false) (I6 (k:Int)),pg ((decide (1048576<vat v k)) == false) (I6 n),pg ((decide (1048576<vat v k)) == false) (.bool (decide (n<=(k:Int)))),pg ((decide (1048576<vat v k)) == false) (.bool (decide (n<=(k:Int)))),pg (((decide (1048576<vat v k)) == false)&&((decide (n<=(k:Int))) == true)) (I6 (k:Int)),pg (((decide (1048576<vat v k)) == false)&&((decide (n<=(k:Int))) == true)) (.pointer (some ⟨b1,0+(k:Int).toNat,none⟩)),pg (((decide (1048576<vat v k)) == false)&&((decide (n<=(k:Int))) == true)) (.int .u32 (vat v k)),pg (((decide (1048576<vat v k)) == false)&&((decide (n<=(k:Int))) == true)) (.bool (!decide (vat v k=0))),pg ((decide (1048576<vat v k)) == false) (.bool ((decide (n<=(k:Int)))&&(!decide (vat v k=0)))),pv (.bool ((decide (1048576<vat v k))||((decide (n<=(k:Int)))&&(!decide (vat v k=0)))))] (fun _ _=>_) [14] (by kernel_rfl) Y ⟨?_,?_,?_,?_,?_,?_,?_,?_,?_,?_,?_,?_,?_,?_,?_,trivial⟩ ?_))))
  ·exact oi [] fun Y=>Qag (.int .i64 (k:Int)) (Zz Y)
  ·exact oi [0] fun Y=>Qb2 Qgx Qbv.1 rfl rfl (by omega) (by omega) (Zz Y)
  ·exact oi [1] fun Y=>QpP (V:=.int .u32 (vat v k)) Qbv Y 0 rfl rfl (Qhq (by omega) (by omega)) (Zz Y)
  ·exact oi [2] fun Y=>Qck rfl rfl (Zz Y)
  ·exact oi [3] fun Y=>Qag (.bool (decide (1048576<vat v k))) (Zz Y)
  ·exact ogi [4] fun hG Y=>Qag (.int .i64 (k:Int)) (Zz Y)
  ·exact ogi [4] fun hG Y=>Qag (.int .i64 n) (Zz Y)
  ·exact oyi [4,5,6] [5,6] fun hG Y=>Qdj rfl rfl (Zz Y)
  ·exact oyi [4,7] [7] fun hG Y=>Qag (.bool (decide (n<=(k:Int)))) (Zz Y)
  ·exact ogi [8] fun hG Y=>Qag (.int .i64 (k:Int)) (Zz Y)
  ·refine oyi [8,9] [9] fun hG Y=>?_
   have hgd0:=QQ2 (eq_of_beq (Qee (hG)))
   have hgd1:=QQ1 (eq_of_beq (Qhi (hG)))
   exact Qb2 Qgx Qbv.1 rfl rfl (by omega) (by omega) (Zz Y)
  ·refine oyi [8,10] [10] fun hG Y=>?_
   have hgd0:=QQ2 (eq_of_beq (Qee (hG)))
   have hgd1:=QQ1 (eq_of_beq (Qhi (hG)))
   exact QpP (V:=.int .u32 (vat v k)) Qbv Y 0 rfl rfl (Qhq (by omega) (by omega)) (Zz Y)
  ·exact oyi [8,11] [11] fun hG Y=>QbM rfl rfl (Zz Y)
  ·exact oyi [4,8,12] [8] fun hG Y=>Qhy (h':=!decide (vat v k=0)) (G:=((decide (1048576<vat v k)) == false)) hG rfl rfl rfl (Zz Y)
  ·exact oi [4,13] fun Y=>QbL (h':=(decide (n<=(k:Int)))&&(!decide (vat v k=0))) rfl rfl rfl (Zz Y)
  rintro J1 w5 J2 hJ Y
  replace hJ:J2=upd (mix (sq 10 15) J1 _) 24 (.bool ((decide (1048576<vat v k))||((decide (n<=(k:Int)))&&(!decide (vat v k=0))))):=hJ
  subst hJ
  refine Qaq (t:=(decide (1048576<vat v k))||((decide (n<=(k:Int)))&&(!decide (vat v k=0)))) rfl (fun c6=>?_) (fun c6=>?_)
  ·
   refine Qae (Qab (Qaa (Qak (.bool false) (Qad (Qat ?_)))))
   refine ⟨_,Qau (V:=.bool false) results94 rfl,(Zr Y ?_)⟩
   exact congrArg Value.bool (QjO (k:=k) (by omega) (Qo0 hv c6)).symm
  have c6r:=QdH c6
  replace c6:=QdJ c6
  replace c6:=QQ2 c6
  refine Qar (Qab (Qaa (Qag (I6 (k:Int)) (Qaa (Qbx (a:=(k:Int)) (b:=1) (c:=(k:Int)+1) rfl rfl (Qc1 (by omega) (by omega)) (Qaa (Qak (I6 ((k:Int)+1)) (Qad ?_))))))))
  refine ⟨_,?_,_,k+1,Qaw (QaN (ds:=(sq 4 21)) (by repeat (first|exact Agr.refl _ _|refine Agr.upd ?_ rfl|refine Agr.mix ?_ rfl))) rfl,(by omega),(Qjs hok (Qnc hv c6 c6r)),rfl,Y.take 1⟩
  omega
 replace c4:=QQ2 c4
 refine Qbs (Qae (Qa2 (so 25 6++[some 4]) [] [0,1,3,7,15,31,63] [pv (I6 n),pv (.bool (decide (1<=n))),pv (.bool (decide (1<=n))),pg ((decide (1<=n)) == true) (I6 n),pg ((decide (1<=n)) == true) (.bool (decide (n<=16))),pv (.bool ((decide (1<=n))&&(decide (n<=16)))),pv (.bool ((decide (1<=n))&&(decide (n<=16))))] (fun _ _=>_) [6] (by kernel_rfl) Y ⟨?_,?_,?_,?_,?_,?_,?_,trivial⟩ ?_))
 ·exact oi [] fun Y=>Qag (.int .i64 n) (Zz Y)
 ·exact oi [0] fun Y=>Qdj rfl rfl (Zz Y)
 ·exact oi [1] fun Y=>Qag (.bool (decide (1<=n))) (Zz Y)
 ·exact ogi [2] fun hG Y=>Qag (.int .i64 n) (Zz Y)
 ·exact oyi [2,3] [3] fun hG Y=>QfU rfl rfl (Zz Y)
 ·exact oi [2,4] fun Y=>Qa0 (h':=decide (n<=16)) rfl rfl rfl (Zz Y)
 ·exact oi [5] fun Y=>Qak (.bool ((decide (1<=n))&&(decide (n<=16)))) (Zz Y)
 rintro J1 w7 J2 hJ Y
 replace hJ:J2=upd (mix (sq 25 6++[4]) J1 _) 4 (.bool ((decide (1<=n))&&(decide (n<=16)))):=hJ
 subst hJ
 refine Qat ?_
 refine ⟨_,Qau (V:=.bool ((decide (1<=n))&&(decide (n<=16)))) results94 rfl,(Zr Y ?_)⟩
 exact congrArg Value.bool (Qhp fun j hj=>hok j (by omega)).symm
end Tt
end Go.Proofs
namespace Go.Proofs
open Go Go.Vx Go.RowKit
open Tryz
namespace Tt
theorem Qpy (w:World) (o:Opn) (ho:QbK o):Calls prog 170 #[.agg (oc o).toArray] w (fun e w'=>e = .returned (.bool (QbU o))/\Own w no w' []):=by
 refine Qal (n:=28) func170 rfl ntmps170 rfl ?_
 have Y:=Own.start w
 refine Qae (Qab (Qaa (Qb4 (V:=.agg (oc o).toArray) (cs:=oc o) rfl rfl Y fun b1 w2 Y=>(Qaa (Qak (.bool false) (Qad (Qae (Qae (Qab (Qaa (Qac Qhc rfl (Qaa (QaY (.int .u8 o.kind) QcG Y 0 (Qad (Qay (Qae (Qab (Qaa (Qa5 rfl rfl (Qaa (Qak (.bool (decide (o.kind=1))) (Qad (Qaq (t:=decide (o.kind=1)) rfl (fun c3=>?_) (fun c3=>?_))))))))))))))))))))))))
 ·
  replace c3:=QQ1 c3
  refine Qae (Qab (Qaa (Qac QcO rfl (Qaa (QaY (I7 o.qty) Qc7 Y 0 (Qaa (Qck rfl rfl (Qaa (Qak (.bool (decide (0<o.qty))) (Qad (Qat ?_)))))))))))
  refine ⟨_,Qau (V:=.bool (decide (0<o.qty))) results170 rfl,(Zr Y (congrArg Value.bool ?_))⟩
  unfold QbU
  have ⟨_,_,_,_,⟨hq1,hq2⟩,_,_⟩:=ho
  simp_all
  try omega
 replace c3:=QQ2 c3
 refine Qae (Qab (Qaa (Qa5 rfl rfl (Qaa (Qak (.bool (decide (o.kind=2))) (Qad (Qaq (t:=decide (o.kind=2)) rfl (fun c4=>?_) (fun c4=>?_))))))))
 ·
  replace c4:=QQ1 c4
  refine Qae (Qab (Qaa (Qak (.bool true) (Qad (Qat ?_)))))
  refine ⟨_,Qau (V:=.bool true) results170 rfl,(Zr Y (congrArg Value.bool ?_))⟩
  unfold QbU
  have ⟨_,_,_,_,⟨hq1,hq2⟩,_,_⟩:=ho
  simp_all
  try omega
 replace c4:=QQ2 c4
 refine Qae (Qab (Qaa (Qa5 rfl rfl (Qaa (Qak (.bool (decide (o.kind=3))) (Qad (Qaq (t:=decide (o.kind=3)) rfl (fun c5=>?_) (fun c5=>?_))))))))
 ·
  replace c5:=QQ1 c5
  refine Qae (Qab (Qaa (Qac QcO rfl (Qaa (QaY (I7 o.qty) Qc7 Y 0 (Qaa (Qa5 rfl rfl (Qaa (Qak (.bool (decide (o.qty=0))) (Qad (Qat ?_)))))))))))
  refine ⟨_,Qau (V:=.bool (decide (o.qty=0))) results170 rfl,(Zr Y (congrArg Value.bool ?_))⟩
  unfold QbU
  have ⟨_,_,_,_,⟨hq1,hq2⟩,_,_⟩:=ho
  simp_all
  try omega
 replace c5:=QQ2 c5
 refine Qae (Qae (Qab (Qaa (Qa5 rfl rfl (Qaa (Qak (.bool (decide (o.kind=4))) (Qad (Qaq (t:=decide (o.kind=4)) rfl (fun c6=>?_) (fun c6=>?_)))))))))
 ·
  replace c6:=QQ1 c6
  refine Qar (Qoz (congrArg Value.bool (QQ3 c6)) ?_)
  refine Qae (Qa2 (so 20 8++[some 2]) [] [0,1,3,7,15,31,63,127,255] [pv (Pq b1 (0+4)),pv (I7 o.item),pv (.bool (decide (o.item=0))),pv (.bool (decide (o.item=0))),pg ((decide (o.item=0)) == true) (Pq b1 (0+5)),pg ((decide (o.item=0)) == true) (I7 o.qty),pg ((decide (o.item=0)) == true) (.bool (decide (o.qty=0))),pv (.bool ((decide (o.item=0))&&(decide (o.qty=0)))),pv (.bool ((decide (o.item=0))&&(decide (o.qty=0))))] (fun _ _=>_) [8] (by kernel_rfl) Y ⟨?_,?_,?_,?_,?_,?_,?_,?_,?_,trivial⟩ ?_)
  ·exact oi [] fun Y=>Qac Qes rfl (Zz Y)
  ·exact oi [0] fun Y=>QaY (.int .u16 o.item) Qc7 Y 0 (Zz Y)
  ·exact oi [1] fun Y=>Qa5 rfl rfl (Zz Y)
  ·exact oi [2] fun Y=>Qag (.bool (decide (o.item=0))) (Zz Y)
  ·exact ogi [3] fun hG Y=>Qac QcO rfl (Zz Y)
  ·exact oyi [3,4] [4] fun hG Y=>QaY (.int .u16 o.qty) Qc7 Y 0 (Zz Y)
  ·exact oyi [3,5] [5] fun hG Y=>Qa5 rfl rfl (Zz Y)
  ·exact oi [3,6] fun Y=>Qa0 (h':=decide (o.qty=0)) rfl rfl rfl (Zz Y)
  ·exact oi [7] fun Y=>Qak (.bool ((decide (o.item=0))&&(decide (o.qty=0)))) (Zz Y)
  rintro J1 w7 J2 hJ Y
  replace hJ:J2=upd (mix (sq 20 8++[2]) J1 _) 2 (.bool ((decide (o.item=0))&&(decide (o.qty=0)))):=hJ
  subst hJ
  refine Qat ?_
  refine ⟨_,Qau (V:=.bool ((decide (o.item=0))&&(decide (o.qty=0)))) results170 rfl,(Zr Y (congrArg Value.bool ?_))⟩
  unfold QbU
  have ⟨_,_,_,_,⟨hq1,hq2⟩,_,_⟩:=ho
  simp_all
  try omega
 replace c6:=QQ2 c6
 refine Qab (Qaa (Qa5 rfl rfl (Qaa (Qak (.bool (decide (o.kind=5))) (Qad (Qaq (t:=decide (o.kind=5)) rfl (fun c8=>?_) (fun c8=>?_)))))))
 ·
  replace c8:=QQ1 c8
  refine Qae (Qa2 (so 20 8++[some 2]) [] [0,1,3,7,15,31,63,127,255] [pv (Pq b1 (0+4)),pv (I7 o.item),pv (.bool (decide (o.item=0))),pv (.bool (decide (o.item=0))),pg ((decide (o.item=0)) == true) (Pq b1 (0+5)),pg ((decide (o.item=0)) == true) (I7 o.qty),pg ((decide (o.item=0)) == true) (.bool (decide (o.qty=0))),pv (.bool ((decide (o.item=0))&&(decide (o.qty=0)))),pv (.bool ((decide (o.item=0))&&(decide (o.qty=0))))] (fun _ _=>_) [8] (by kernel_rfl) Y ⟨?_,?_,?_,?_,?_,?_,?_,?_,?_,trivial⟩ ?_)
  ·exact oi [] fun Y=>Qac Qes rfl (Zz Y)
  ·exact oi [0] fun Y=>QaY (.int .u16 o.item) Qc7 Y 0 (Zz Y)
  ·exact oi [1] fun Y=>Qa5 rfl rfl (Zz Y)
  ·exact oi [2] fun Y=>Qag (.bool (decide (o.item=0))) (Zz Y)
  ·exact ogi [3] fun hG Y=>Qac QcO rfl (Zz Y)
  ·exact oyi [3,4] [4] fun hG Y=>QaY (.int .u16 o.qty) Qc7 Y 0 (Zz Y)
  ·exact oyi [3,5] [5] fun hG Y=>Qa5 rfl rfl (Zz Y)
  ·exact oi [3,6] fun Y=>Qa0 (h':=decide (o.qty=0)) rfl rfl rfl (Zz Y)
  ·exact oi [7] fun Y=>Qak (.bool ((decide (o.item=0))&&(decide (o.qty=0)))) (Zz Y)
  rintro J1 w9 J2 hJ Y
  replace hJ:J2=upd (mix (sq 20 8++[2]) J1 _) 2 (.bool ((decide (o.item=0))&&(decide (o.qty=0)))):=hJ
  subst hJ
  refine Qat ?_
  refine ⟨_,Qau (V:=.bool ((decide (o.item=0))&&(decide (o.qty=0)))) results170 rfl,(Zr Y (congrArg Value.bool ?_))⟩
  unfold QbU
  have ⟨_,_,_,_,⟨hq1,hq2⟩,_,_⟩:=ho
  simp_all
  try omega
 replace c8:=QQ2 c8
 refine Qar (Qae (Qab (Qaa (Qak (.bool false) (Qad (Qat ?_))))))
 refine ⟨_,Qau (V:=.bool false) results170 rfl,(Zr Y (congrArg Value.bool ?_))⟩
 unfold QbU
 have ⟨_,_,_,_,⟨hq1,hq2⟩,_,_⟩:=ho
 simp_all
 try omega
theorem QpJ (w:World) (o:Opn) (ho:QbK o):Calls prog 179 #[.agg (oc o).toArray] w (fun e w'=>e = .returned (.bool (QbU o))/\Own w no w' []):=by
 refine Qal (n:=28) func179 rfl ntmps179 rfl ?_
 have Y:=Own.start w
 refine Qae (Qab (Qaa (Qb4 (V:=.agg (oc o).toArray) (cs:=oc o) rfl rfl Y fun b1 w2 Y=>(Qaa (Qak (.bool false) (Qad (Qae (Qae (Qab (Qaa (Qac Qhc rfl (Qaa (QaY (.int .u8 o.kind) QcG Y 0 (Qad (Qay (Qae (Qab (Qaa (Qa5 rfl rfl (Qaa (Qak (.bool (decide (o.kind=1))) (Qad (Qaq (t:=decide (o.kind=1)) rfl (fun c3=>?_) (fun c3=>?_))))))))))))))))))))))))
 ·
  replace c3:=QQ1 c3
  refine Qae (Qab (Qaa (Qac QcO rfl (Qaa (QaY (I7 o.qty) Qc7 Y 0 (Qaa (Qdj rfl rfl (Qaa (Qak (.bool (decide (1<=o.qty))) (Qad (Qat ?_)))))))))))
  refine ⟨_,Qau (V:=.bool (decide (1<=o.qty))) results179 rfl,(Zr Y (congrArg Value.bool ?_))⟩
  unfold QbU
  have ⟨_,_,_,_,⟨hq1,hq2⟩,_,_⟩:=ho
  simp_all
  try omega
 replace c3:=QQ2 c3
 refine Qae (Qab (Qaa (Qa5 rfl rfl (Qaa (Qak (.bool (decide (o.kind=2))) (Qad (Qaq (t:=decide (o.kind=2)) rfl (fun c4=>?_) (fun c4=>?_))))))))
 ·
  replace c4:=QQ1 c4
  refine Qae (Qab (Qaa (Qak (.bool true) (Qad (Qat ?_)))))
  refine ⟨_,Qau (V:=.bool true) results179 rfl,(Zr Y (congrArg Value.bool ?_))⟩
  unfold QbU
  have ⟨_,_,_,_,⟨hq1,hq2⟩,_,_⟩:=ho
  simp_all
  try omega
 replace c4:=QQ2 c4
 refine Qae (Qab (Qaa (Qa5 rfl rfl (Qaa (Qak (.bool (decide (o.kind=3))) (Qad (Qaq (t:=decide (o.kind=3)) rfl (fun c5=>?_) (fun c5=>?_))))))))
 ·
  replace c5:=QQ1 c5
  refine Qae (Qab (Qaa (Qac QcO rfl (Qaa (QaY (I7 o.qty) Qc7 Y 0 (Qaa (Qa5 rfl rfl (Qaa (Qak (.bool (decide (o.qty=0))) (Qad (Qat ?_)))))))))))
  refine ⟨_,Qau (V:=.bool (decide (o.qty=0))) results179 rfl,(Zr Y (congrArg Value.bool ?_))⟩
  unfold QbU
  have ⟨_,_,_,_,⟨hq1,hq2⟩,_,_⟩:=ho
  simp_all
  try omega
 replace c5:=QQ2 c5
 refine Qae (Qae (Qab (Qaa (Qa5 rfl rfl (Qaa (Qak (.bool (decide (o.kind=4))) (Qad (Qaq (t:=decide (o.kind=4)) rfl (fun c6=>?_) (fun c6=>?_)))))))))
 ·
  replace c6:=QQ1 c6
  refine Qar (Qoz (congrArg Value.bool (QQ3 c6)) ?_)
  refine Qae (Qa2 (so 20 8++[some 2]) [] [0,1,3,7,15,31,63,127,255] [pv (Pq b1 (0+4)),pv (I7 o.item),pv (.bool (decide (o.item=0))),pv (.bool (decide (o.item=0))),pg ((decide (o.item=0)) == true) (Pq b1 (0+5)),pg ((decide (o.item=0)) == true) (I7 o.qty),pg ((decide (o.item=0)) == true) (.bool (decide (o.qty=0))),pv (.bool ((decide (o.item=0))&&(decide (o.qty=0)))),pv (.bool ((decide (o.item=0))&&(decide (o.qty=0))))] (fun _ _=>_) [8] (by kernel_rfl) Y ⟨?_,?_,?_,?_,?_,?_,?_,?_,?_,trivial⟩ ?_)
  ·exact oi [] fun Y=>Qac Qes rfl (Zz Y)
  ·exact oi [0] fun Y=>QaY (.int .u16 o.item) Qc7 Y 0 (Zz Y)
  ·exact oi [1] fun Y=>Qa5 rfl rfl (Zz Y)
  ·exact oi [2] fun Y=>Qag (.bool (decide (o.item=0))) (Zz Y)
  ·exact ogi [3] fun hG Y=>Qac QcO rfl (Zz Y)
  ·exact oyi [3,4] [4] fun hG Y=>QaY (.int .u16 o.qty) Qc7 Y 0 (Zz Y)
  ·exact oyi [3,5] [5] fun hG Y=>Qa5 rfl rfl (Zz Y)
  ·exact oi [3,6] fun Y=>Qa0 (h':=decide (o.qty=0)) rfl rfl rfl (Zz Y)
  ·exact oi [7] fun Y=>Qak (.bool ((decide (o.item=0))&&(decide (o.qty=0)))) (Zz Y)
  rintro J1 w7 J2 hJ Y
  replace hJ:J2=upd (mix (sq 20 8++[2]) J1 _) 2 (.bool ((decide (o.item=0))&&(decide (o.qty=0)))):=hJ
  subst hJ
  refine Qat ?_
  refine ⟨_,Qau (V:=.bool ((decide (o.item=0))&&(decide (o.qty=0)))) results179 rfl,(Zr Y (congrArg Value.bool ?_))⟩
  unfold QbU
  have ⟨_,_,_,_,⟨hq1,hq2⟩,_,_⟩:=ho
  simp_all
  try omega
 replace c6:=QQ2 c6
 refine Qab (Qaa (Qa5 rfl rfl (Qaa (Qak (.bool (decide (o.kind=5))) (Qad (Qaq (t:=decide (o.kind=5)) rfl (fun c8=>?_) (fun c8=>?_)))))))
 ·
  replace c8:=QQ1 c8
  refine Qae (Qa2 (so 20 8++[some 2]) [] [0,1,3,7,15,31,63,127,255] [pv (Pq b1 (0+4)),pv (I7 o.item),pv (.bool (decide (o.item=0))),pv (.bool (decide (o.item=0))),pg ((decide (o.item=0)) == true) (Pq b1 (0+5)),pg ((decide (o.item=0)) == true) (I7 o.qty),pg ((decide (o.item=0)) == true) (.bool (decide (o.qty=0))),pv (.bool ((decide (o.item=0))&&(decide (o.qty=0)))),pv (.bool ((decide (o.item=0))&&(decide (o.qty=0))))] (fun _ _=>_) [8] (by kernel_rfl) Y ⟨?_,?_,?_,?_,?_,?_,?_,?_,?_,trivial⟩ ?_)
  ·exact oi [] fun Y=>Qac Qes rfl (Zz Y)
  ·exact oi [0] fun Y=>QaY (.int .u16 o.item) Qc7 Y 0 (Zz Y)
  ·exact oi [1] fun Y=>Qa5 rfl rfl (Zz Y)
  ·exact oi [2] fun Y=>Qag (.bool (decide (o.item=0))) (Zz Y)
  ·exact ogi [3] fun hG Y=>Qac QcO rfl (Zz Y)
  ·exact oyi [3,4] [4] fun hG Y=>QaY (.int .u16 o.qty) Qc7 Y 0 (Zz Y)
  ·exact oyi [3,5] [5] fun hG Y=>Qa5 rfl rfl (Zz Y)
  ·exact oi [3,6] fun Y=>Qa0 (h':=decide (o.qty=0)) rfl rfl rfl (Zz Y)
  ·exact oi [7] fun Y=>Qak (.bool ((decide (o.item=0))&&(decide (o.qty=0)))) (Zz Y)
  rintro J1 w9 J2 hJ Y
  replace hJ:J2=upd (mix (sq 20 8++[2]) J1 _) 2 (.bool ((decide (o.item=0))&&(decide (o.qty=0)))):=hJ
  subst hJ
  refine Qat ?_
  refine ⟨_,Qau (V:=.bool ((decide (o.item=0))&&(decide (o.qty=0)))) results179 rfl,(Zr Y (congrArg Value.bool ?_))⟩
  unfold QbU
  have ⟨_,_,_,_,⟨hq1,hq2⟩,_,_⟩:=ho
  simp_all
  try omega
 replace c8:=QQ2 c8
 refine Qar (Qae (Qab (Qaa (Qak (.bool false) (Qad (Qat ?_))))))
 refine ⟨_,Qau (V:=.bool false) results179 rfl,(Zr Y (congrArg Value.bool ?_))⟩
 unfold QbU
 have ⟨_,_,_,_,⟨hq1,hq2⟩,_,_⟩:=ho
 simp_all
 try omega
theorem Qgy (w:World) (o:Opn) (n:Int) (hO:QbK o):Calls prog 92 #[.agg (oc o).toArray,.int .i64 n] w (fun e w'=>e = .returned (.bool (QaC o n))/\Own w no w' []):=by
 refine Qal (n:=50) func92 rfl ntmps92 rfl ?_
 have Y:=Own.start w
 have ⟨⟨⟨hr1,hr2⟩,hr3,hr4⟩,_,_,_,⟨hq1,hq2⟩,_,hctx⟩:=hO
 refine Qae (Qab (Qaa (Qb4 (V:=.agg (oc o).toArray) (cs:=oc o) rfl rfl Y fun b1 w2 Y=>(Qaa (Qak (.bool false) (Qad (Qae (Qae (Qa2 (so 6 23) [] [0,1,0,7,15,31,63,127,255,511,63,2047,4095,8191,16383,32767,65535,131071,262143,524287,1048575,2097151,4194303] [pv (Pq b1 (0+7)),pv (.agg (vc o.ctx).toArray),pv (I6 n),pv (.bool (QaE o.ctx n)),pv (.bool (!(QaE o.ctx n))),pv (.bool (!(QaE o.ctx n))),pg ((!(QaE o.ctx n)) == false) (Pq b1 (0+0)),pg ((!(QaE o.ctx n)) == false) (Pq b1 (0+0+0)),pg ((!(QaE o.ctx n)) == false) (.int .u8 o.dot.rep),pg ((!(QaE o.ctx n)) == false) (I6 o.dot.rep),pg ((!(QaE o.ctx n)) == false) (I6 n),pg ((!(QaE o.ctx n)) == false) (.bool (decide (n<=o.dot.rep))),pv (.bool ((!(QaE o.ctx n))||(decide (n<=o.dot.rep)))),pv (.bool ((!(QaE o.ctx n))||(decide (n<=o.dot.rep)))),pg (((!(QaE o.ctx n))||(decide (n<=o.dot.rep))) == false) (Pq b1 (0+6)),pg (((!(QaE o.ctx n))||(decide (n<=o.dot.rep))) == false) (.int .u32 o.tick),pg (((!(QaE o.ctx n))||(decide (n<=o.dot.rep))) == false) (.bool (decide (1073741824<o.tick))),pv (.bool (((!(QaE o.ctx n))||(decide (n<=o.dot.rep)))||(decide (1073741824<o.tick)))),pv (.bool (((!(QaE o.ctx n))||(decide (n<=o.dot.rep)))||(decide (1073741824<o.tick)))),pg ((((!(QaE o.ctx n))||(decide (n<=o.dot.rep)))||(decide (1073741824<o.tick))) == false) (.agg (oc o).toArray),pg ((((!(QaE o.ctx n))||(decide (n<=o.dot.rep)))||(decide (1073741824<o.tick))) == false) (.bool (QbU o)),pg ((((!(QaE o.ctx n))||(decide (n<=o.dot.rep)))||(decide (1073741824<o.tick))) == false) (.bool (!(QbU o))),pv (.bool ((((!(QaE o.ctx n))||(decide (n<=o.dot.rep)))||(decide (1073741824<o.tick)))||(!(QbU o))))] (fun _ _=>_) [22] (by kernel_rfl) Y ⟨?_,?_,?_,?_,?_,?_,?_,?_,?_,?_,?_,?_,?_,?_,?_,?_,?_,?_,?_,?_,?_,?_,?_,trivial⟩ ?_)))))))))
 ·exact oi [] fun Y=>Qac Qeo rfl (Zz Y)
 ·exact oi [0] fun Y=>Qez (vs:=vc o.ctx) QbC Y 0 rfl rfl rfl rfl (Zz Y)
 ·exact oi [] fun Y=>Qag (.int .i64 n) (Zz Y)
 ·exact oi [1,2] fun Y=>QaH (vs:=[.agg (vc o.ctx).toArray,.int .i64 n]) (V:=.bool (QaE o.ctx n)) QuK rfl rfl (QjG _ o.ctx n (by first|assumption|exact QeZ)) Y fun _ Y=>Zz Y
 ·exact oi [3] fun Y=>Qb6 rfl (Zz Y)
 ·exact oi [4] fun Y=>Qag (.bool (!(QaE o.ctx n))) (Zz Y)
 ·exact ogi [5] fun hG Y=>Qac Qcq rfl (Zz Y)
 ·exact oyi [5,6] [6] fun hG Y=>Qac QdO rfl (Zz Y)
 ·exact oyi [5,7] [7] fun hG Y=>QaY (.int .u8 o.dot.rep) QcG Y 0 (Zz Y)
 ·exact oyi [5,8] [8] fun hG Y=>QaB Qfe QfT rfl (Qc1 (by omega) (by omega)) (Zz Y)
 ·exact ogi [5] fun hG Y=>Qag (.int .i64 n) (Zz Y)
 ·exact oyi [5,9,10] [9,10] fun hG Y=>Qdj rfl rfl (Zz Y)
 ·exact oi [5,11] fun Y=>QbL (h':=decide (n<=o.dot.rep)) rfl rfl rfl (Zz Y)
 ·exact oi [12] fun Y=>Qag (.bool ((!(QaE o.ctx n))||(decide (n<=o.dot.rep)))) (Zz Y)
 ·exact ogi [13] fun hG Y=>Qac QgF rfl (Zz Y)
 ·exact oyi [13,14] [14] fun hG Y=>QaY (.int .u32 o.tick) Qbv Y 0 (Zz Y)
 ·exact oyi [13,15] [15] fun hG Y=>Qck rfl rfl (Zz Y)
 ·exact oi [13,16] fun Y=>QbL (h':=decide (1073741824<o.tick)) rfl rfl rfl (Zz Y)
 ·exact oi [17] fun Y=>Qag (.bool (((!(QaE o.ctx n))||(decide (n<=o.dot.rep)))||(decide (1073741824<o.tick)))) (Zz Y)
 ·exact ogi [18] fun hG Y=>Qa1 (cs:=oc o) Qbp Y 0 rfl rfl rfl (Zz Y)
 ·exact oyi [18,19] [19] fun hG Y=>QaH (vs:=[.agg (oc o).toArray]) (V:=.bool (QbU o)) QtU rfl rfl (Qpy _ o (by assumption)) Y fun _ Y=>Zz Y
 ·exact oyi [18,20] [20] fun hG Y=>Qb6 rfl (Zz Y)
 ·exact oi [18,21] fun Y=>QbL (h':=!(QbU o)) rfl rfl rfl (Zz Y)
 rintro J1 w5 J2 hJ Y
 replace hJ:J2=upd (mix (sq 6 23) J1 _) 28 (.bool ((((!(QaE o.ctx n))||(decide (n<=o.dot.rep)))||(decide (1073741824<o.tick)))||(!(QbU o)))):=hJ
 subst hJ
 refine Qaq (t:=(((!(QaE o.ctx n))||(decide (n<=o.dot.rep)))||(decide (1073741824<o.tick)))||(!(QbU o))) rfl (fun c6=>?_) (fun c6=>?_)
 ·
  refine Qae (Qab (Qaa (Qak (.bool false) (Qad (Qat ?_)))))
  refine ⟨_,Qau (V:=.bool false) results92 rfl,(Zr Y ?_)⟩
  exact congrArg Value.bool (Qo3 c6).symm
 have c6r:=QdH c6
 replace c6:=QdJ c6
 have c6rr:=QdH c6
 replace c6:=QdJ c6
 have c6rrr:=QdH c6
 replace c6:=QdJ c6
 replace c6:=Qa3 c6
 replace c6rrr:=QQ2 c6rrr
 replace c6rr:=QQ2 c6rr
 replace c6r:=Qa3 c6r
 refine Qar (Qae (Qab (Qaa (Qac Qcq rfl (Qaa (Qez (vs:=dc o.dot) Ql4 Y 0 rfl rfl rfl rfl (Qaa (QaX (cs:=dc (⟨0,0⟩:Dot)) QvD rfl Y fun b7 w8 Y=>(Qaa (QbN (V:=.agg (dc o.dot).toArray) (vs:=dc o.dot) (cs':=dc o.dot) Ql4.1 Y 1 rfl rfl rfl rfl rfl (QQ8 rfl) (QqL _) (Qao rfl) fun w9 Y=>(Qad (Qae ?_))))))))))))
 have hnn:=Qiv c6
 refine Qcm HM (so 31 19++[some 4]) [] [0,1,3,7,15,31,63,127,255,511,1023,511,4095,8191,511,16895,49663,131071,262143,524287] [pv (Pq b7 (0+1)),pv (.int .u32 o.dot.seq),pv (.bool (decide (1<=o.dot.seq))),pv (.bool (decide (1<=o.dot.seq))),pg ((decide (1<=o.dot.seq)) == true) (Pq b7 (0+1)),pg ((decide (1<=o.dot.seq)) == true) (.int .u32 o.dot.seq),pg ((decide (1<=o.dot.seq)) == true) (.bool (decide (o.dot.seq<=1048576))),pv (.bool ((decide (1<=o.dot.seq))&&(decide (o.dot.seq<=1048576)))),pv (.bool ((decide (1<=o.dot.seq))&&(decide (o.dot.seq<=1048576)))),pg (((decide (1<=o.dot.seq))&&(decide (o.dot.seq<=1048576))) == true) (Pq b7 (0+0)),pg (((decide (1<=o.dot.seq))&&(decide (o.dot.seq<=1048576))) == true) (.int .u8 o.dot.rep),pg (((decide (1<=o.dot.seq))&&(decide (o.dot.seq<=1048576))) == true) (Pq b1 (0+7)),pg (((decide (1<=o.dot.seq))&&(decide (o.dot.seq<=1048576))) == true) (.pointer (some ⟨b1,0+7+o.dot.rep.toNat,none⟩)),pg (((decide (1<=o.dot.seq))&&(decide (o.dot.seq<=1048576))) == true) (.int .u32 (vat o.ctx o.dot.rep.toNat)),pg (((decide (1<=o.dot.seq))&&(decide (o.dot.seq<=1048576))) == true) (Pq b7 (0+1)),pg (((decide (1<=o.dot.seq))&&(decide (o.dot.seq<=1048576))) == true) (.int .u32 o.dot.seq),pg (((decide (1<=o.dot.seq))&&(decide (o.dot.seq<=1048576))) == true) (.int .u32 (o.dot.seq-1)),pg (((decide (1<=o.dot.seq))&&(decide (o.dot.seq<=1048576))) == true) (.bool (decide (vat o.ctx o.dot.rep.toNat=o.dot.seq-1))),pv (.bool (((decide (1<=o.dot.seq))&&(decide (o.dot.seq<=1048576)))&&(decide (vat o.ctx o.dot.rep.toNat=o.dot.seq-1)))),pv (.bool (((decide (1<=o.dot.seq))&&(decide (o.dot.seq<=1048576)))&&(decide (vat o.ctx o.dot.rep.toNat=o.dot.seq-1))))] (fun _ _=>_) [19] (by kernel_rfl) Y ⟨?_,?_,?_,?_,?_,?_,?_,?_,?_,?_,?_,?_,?_,?_,?_,?_,?_,?_,?_,?_,trivial⟩ ?_
 ·exact oi [] fun Y=>Qac Qds rfl (Zz Y)
 ·exact oi [0] fun Y=>QaY (.int .u32 o.dot.seq) Qbv Y 1 (Zz Y)
 ·exact oi [1] fun Y=>Qdj rfl rfl (Zz Y)
 ·exact oi [2] fun Y=>Qag (.bool (decide (1<=o.dot.seq))) (Zz Y)
 ·exact ogi [3] fun hG Y=>Qac Qds rfl (Zz Y)
 ·exact oyi [3,4] [4] fun hG Y=>QaY (.int .u32 o.dot.seq) Qbv Y 1 (Zz Y)
 ·exact oyi [3,5] [5] fun hG Y=>QfU rfl rfl (Zz Y)
 ·exact oi [3,6] fun Y=>Qa0 (h':=decide (o.dot.seq<=1048576)) rfl rfl rfl (Zz Y)
 ·exact oi [7] fun Y=>Qag (.bool ((decide (1<=o.dot.seq))&&(decide (o.dot.seq<=1048576)))) (Zz Y)
 ·refine ogi [8] fun hG Y=>?_
  have hg9:=Qee (eq_of_beq hG)
  have hgd:=QQ1 hg9
  exact Qac QdO rfl (Zz Y)
 ·refine oyi [8,9] [9] fun hG Y=>?_
  have hg9:=Qee (eq_of_beq hG)
  have hgd:=QQ1 hg9
  exact QaY (.int .u8 o.dot.rep) QcG Y 1 (Zz Y)
 ·refine ogi [8] fun hG Y=>?_
  have hg9:=Qee (eq_of_beq hG)
  have hgd:=QQ1 hg9
  exact Qac Qeo rfl (Zz Y)
 ·refine oyi [8,10,11] [10,11] fun hG Y=>?_
  have hg9:=Qee (eq_of_beq hG)
  have hgd:=QQ1 hg9
  exact Qb2 Qgx Qbv.1 rfl rfl (by omega) (by omega) (Zz Y)
 ·refine oyi [8,12] [12] fun hG Y=>?_
  have hg9:=Qee (eq_of_beq hG)
  have hgd:=QQ1 hg9
  exact QpP (V:=.int .u32 (vat o.ctx o.dot.rep.toNat)) Qbv Y 0 rfl rfl (Qrk (by omega) (by omega)) (Zz Y)
 ·refine ogi [8] fun hG Y=>?_
  have hg9:=Qee (eq_of_beq hG)
  have hgd:=QQ1 hg9
  exact Qac Qds rfl (Zz Y)
 ·refine oyi [8,14] [14] fun hG Y=>?_
  have hg9:=Qee (eq_of_beq hG)
  have hgd:=QQ1 hg9
  exact QaY (.int .u32 o.dot.seq) Qbv Y 1 (Zz Y)
 ·refine oyi [8,15] [15] fun hG Y=>?_
  have hg9:=Qee (eq_of_beq hG)
  have hgd:=QQ1 hg9
  exact Qh2 (a:=o.dot.seq) (b:=1) (c:=o.dot.seq-1) rfl rfl (Qjf (by omega) (by omega)) (Zz Y)
 ·refine oyi [8,13,16] [13,16] fun hG Y=>?_
  have hg9:=Qee (eq_of_beq hG)
  have hgd:=QQ1 hg9
  exact Qa5 rfl rfl (Zz Y)
 ·exact oi [8,17] fun Y=>Qa0 (h':=decide (vat o.ctx o.dot.rep.toNat=o.dot.seq-1)) rfl rfl rfl (Zz Y)
 ·exact oi [18] fun Y=>Qak (.bool (((decide (1<=o.dot.seq))&&(decide (o.dot.seq<=1048576)))&&(decide (vat o.ctx o.dot.rep.toNat=o.dot.seq-1)))) (Zz Y)
 rintro J1 w10 J2 hJ Y
 replace hJ:J2=upd (mix (sq 31 19++[4]) J1 _) 4 (.bool (((decide (1<=o.dot.seq))&&(decide (o.dot.seq<=1048576)))&&(decide (vat o.ctx o.dot.rep.toNat=o.dot.seq-1)))):=hJ
 subst hJ
 refine Qat ?_
 refine ⟨_,Qau (V:=.bool (((decide (1<=o.dot.seq))&&(decide (o.dot.seq<=1048576)))&&(decide (vat o.ctx o.dot.rep.toNat=o.dot.seq-1)))) results92 rfl,(Zr Y ?_)⟩
 exact congrArg Value.bool (Qqk c6 c6rrr c6rr c6r).symm
theorem QfB (w:World) (o:Opn) (n:Int) (hO:QbK o):Calls prog 104 #[.agg (oc o).toArray,.int .i64 n] w (fun e w'=>e = .returned (.bool (QaC o n))/\Own w no w' []):=by
 refine Qal (n:=52) func104 rfl ntmps104 rfl ?_
 have Y:=Own.start w
 have ⟨⟨⟨hr1,hr2⟩,hr3,hr4⟩,_,_,_,⟨hq1,hq2⟩,_,hctx⟩:=hO
 refine Qae (Qab (Qaa (Qb4 (V:=.agg (oc o).toArray) (cs:=oc o) rfl rfl Y fun b1 w2 Y=>(Qaa (Qak (.bool false) (Qad (Qae (Qae (Qa2 (so 5 27) [] [0,1,3,7,15,31,63,127,255,511,1023,127,4095,8191,16383,32767,65535,131071,262143,524287,1048575,2097151,4194303,2097151,16777215,33554431,67108863] [pv (I6 n),pv (.bool (decide (n<1))),pv (.bool (decide (n<1))),pg ((decide (n<1)) == false) (I6 n),pg ((decide (n<1)) == false) (.bool (decide (16<n))),pv (.bool ((decide (n<1))||(decide (16<n)))),pv (.bool ((decide (n<1))||(decide (16<n)))),pg (((decide (n<1))||(decide (16<n))) == false) (Pq b1 (0+0)),pg (((decide (n<1))||(decide (16<n))) == false) (Pq b1 (0+0+0)),pg (((decide (n<1))||(decide (16<n))) == false) (.int .u8 o.dot.rep),pg (((decide (n<1))||(decide (16<n))) == false) (I6 o.dot.rep),pg (((decide (n<1))||(decide (16<n))) == false) (I6 n),pg (((decide (n<1))||(decide (16<n))) == false) (.bool (decide (n<=o.dot.rep))),pv (.bool (((decide (n<1))||(decide (16<n)))||(decide (n<=o.dot.rep)))),pv (.bool (((decide (n<1))||(decide (16<n)))||(decide (n<=o.dot.rep)))),pg ((((decide (n<1))||(decide (16<n)))||(decide (n<=o.dot.rep))) == false) (Pq b1 (0+0)),pg ((((decide (n<1))||(decide (16<n)))||(decide (n<=o.dot.rep))) == false) (.agg (dc o.dot).toArray),pg ((((decide (n<1))||(decide (16<n)))||(decide (n<=o.dot.rep))) == false) (.bool (QdI o.dot)),pg ((((decide (n<1))||(decide (16<n)))||(decide (n<=o.dot.rep))) == false) (.bool (!(QdI o.dot))),pv (.bool ((((decide (n<1))||(decide (16<n)))||(decide (n<=o.dot.rep)))||(!(QdI o.dot)))),pv (.bool ((((decide (n<1))||(decide (16<n)))||(decide (n<=o.dot.rep)))||(!(QdI o.dot)))),pg (((((decide (n<1))||(decide (16<n)))||(decide (n<=o.dot.rep)))||(!(QdI o.dot))) == false) (Pq b1 (0+7)),pg (((((decide (n<1))||(decide (16<n)))||(decide (n<=o.dot.rep)))||(!(QdI o.dot))) == false) (.agg (vc o.ctx).toArray),pg (((((decide (n<1))||(decide (16<n)))||(decide (n<=o.dot.rep)))||(!(QdI o.dot))) == false) (I6 n),pg (((((decide (n<1))||(decide (16<n)))||(decide (n<=o.dot.rep)))||(!(QdI o.dot))) == false) (.bool (QaE o.ctx n)),pg (((((decide (n<1))||(decide (16<n)))||(decide (n<=o.dot.rep)))||(!(QdI o.dot))) == false) (.bool (!(QaE o.ctx n))),pv (.bool (((((decide (n<1))||(decide (16<n)))||(decide (n<=o.dot.rep)))||(!(QdI o.dot)))||(!(QaE o.ctx n))))] (fun _ _=>_) [26] (by kernel_rfl) Y ⟨?_,?_,?_,?_,?_,?_,?_,?_,?_,?_,?_,?_,?_,?_,?_,?_,?_,?_,?_,?_,?_,?_,?_,?_,?_,?_,?_,trivial⟩ ?_)))))))))
 ·exact oi [] fun Y=>Qag (.int .i64 n) (Zz Y)
 ·exact oi [0] fun Y=>QbQ rfl rfl (Zz Y)
 ·exact oi [1] fun Y=>Qag (.bool (decide (n<1))) (Zz Y)
 ·exact ogi [2] fun hG Y=>Qag (.int .i64 n) (Zz Y)
 ·exact oyi [2,3] [3] fun hG Y=>Qck rfl rfl (Zz Y)
 ·exact oi [2,4] fun Y=>QbL (h':=decide (16<n)) rfl rfl rfl (Zz Y)
 ·exact oi [5] fun Y=>Qag (.bool ((decide (n<1))||(decide (16<n)))) (Zz Y)
 ·exact ogi [6] fun hG Y=>Qac Qcq rfl (Zz Y)
 ·exact oyi [6,7] [7] fun hG Y=>Qac QdO rfl (Zz Y)
 ·exact oyi [6,8] [8] fun hG Y=>QaY (.int .u8 o.dot.rep) QcG Y 0 (Zz Y)
 ·exact oyi [6,9] [9] fun hG Y=>QaB Qfe QfT rfl (Qc1 (by omega) (by omega)) (Zz Y)
 ·exact ogi [6] fun hG Y=>Qag (.int .i64 n) (Zz Y)
 ·exact oyi [6,10,11] [10,11] fun hG Y=>Qdj rfl rfl (Zz Y)
 ·exact oi [6,12] fun Y=>QbL (h':=decide (n<=o.dot.rep)) rfl rfl rfl (Zz Y)
 ·exact oi [13] fun Y=>Qag (.bool (((decide (n<1))||(decide (16<n)))||(decide (n<=o.dot.rep)))) (Zz Y)
 ·exact ogi [14] fun hG Y=>Qac Qcq rfl (Zz Y)
 ·exact oyi [14,15] [15] fun hG Y=>Qez (vs:=dc o.dot) Ql4 Y 0 rfl rfl rfl rfl (Zz Y)
 ·exact oyi [14,16] [16] fun hG Y=>QaH (vs:=[.agg (dc o.dot).toArray]) (V:=.bool (QdI o.dot)) Qtq rfl rfl (QsO _ o.dot) Y fun _ Y=>Zz Y
 ·exact oyi [14,17] [17] fun hG Y=>Qb6 rfl (Zz Y)
 ·exact oi [14,18] fun Y=>QbL (h':=!(QdI o.dot)) rfl rfl rfl (Zz Y)
 ·exact oi [19] fun Y=>Qag (.bool ((((decide (n<1))||(decide (16<n)))||(decide (n<=o.dot.rep)))||(!(QdI o.dot)))) (Zz Y)
 ·exact ogi [20] fun hG Y=>Qac Qeo rfl (Zz Y)
 ·exact oyi [20,21] [21] fun hG Y=>Qez (vs:=vc o.ctx) QbC Y 0 rfl rfl rfl rfl (Zz Y)
 ·exact ogi [20] fun hG Y=>Qag (.int .i64 n) (Zz Y)
 ·exact oyi [20,22,23] [22,23] fun hG Y=>QaH (vs:=[.agg (vc o.ctx).toArray,.int .i64 n]) (V:=.bool (QaE o.ctx n)) QuC rfl rfl (QiX _ o.ctx n (by first|assumption|exact QeZ)) Y fun _ Y=>Zz Y
 ·exact oyi [20,24] [24] fun hG Y=>Qb6 rfl (Zz Y)
 ·exact oi [20,25] fun Y=>QbL (h':=!(QaE o.ctx n)) rfl rfl rfl (Zz Y)
 rintro J1 w5 J2 hJ Y
 replace hJ:J2=upd (mix (sq 5 27) J1 _) 31 (.bool (((((decide (n<1))||(decide (16<n)))||(decide (n<=o.dot.rep)))||(!(QdI o.dot)))||(!(QaE o.ctx n)))):=hJ
 subst hJ
 refine Qaq (t:=((((decide (n<1))||(decide (16<n)))||(decide (n<=o.dot.rep)))||(!(QdI o.dot)))||(!(QaE o.ctx n))) rfl (fun c6=>?_) (fun c6=>?_)
 ·
  refine Qae (Qab (Qaa (Qak (.bool false) (Qad (Qat ?_)))))
  refine ⟨_,Qau (V:=.bool false) results104 rfl,(Zr Y ?_)⟩
  exact congrArg Value.bool (Qou c6).symm
 have c6r:=QdH c6
 replace c6:=QdJ c6
 have c6rr:=QdH c6
 replace c6:=QdJ c6
 have c6rrr:=QdH c6
 replace c6:=QdJ c6
 have c6rrrr:=QdH c6
 replace c6:=QdJ c6
 replace c6:=QQ2 c6
 replace c6rrrr:=QQ2 c6rrrr
 replace c6rrr:=QQ2 c6rrr
 replace c6rr:=Qa3 c6rr
 replace c6r:=Qa3 c6r
 refine Qar (Qae ?_)
 have hnn:=Qiv c6r
 have hdd:=Qbf c6rr
 refine Qcm HM (so 32 20++[some 4]) [] [0,1,3,0,15,31,0,64,192,448,1023,2047,4095,8191,16383,32767,65535,131071,262143,524287,1048575] [pv (Pq b1 (0+0)),pv (Pq b1 (0+0+0)),pv (.int .u8 o.dot.rep),pv (Pq b1 (0+7)),pv (.pointer (some ⟨b1,0+7+o.dot.rep.toNat,none⟩)),pv (.int .u32 (vat o.ctx o.dot.rep.toNat)),pv (Pq b1 (0+0)),pv (Pq b1 (0+0+1)),pv (.int .u32 o.dot.seq),pv (.int .u32 (o.dot.seq-1)),pv (.bool (decide (vat o.ctx o.dot.rep.toNat=o.dot.seq-1))),pv (.bool (decide (vat o.ctx o.dot.rep.toNat=o.dot.seq-1))),pg ((decide (vat o.ctx o.dot.rep.toNat=o.dot.seq-1)) == true) (Pq b1 (0+6)),pg ((decide (vat o.ctx o.dot.rep.toNat=o.dot.seq-1)) == true) (.int .u32 o.tick),pg ((decide (vat o.ctx o.dot.rep.toNat=o.dot.seq-1)) == true) (.bool (decide (o.tick<=1073741824))),pv (.bool ((decide (vat o.ctx o.dot.rep.toNat=o.dot.seq-1))&&(decide (o.tick<=1073741824)))),pv (.bool ((decide (vat o.ctx o.dot.rep.toNat=o.dot.seq-1))&&(decide (o.tick<=1073741824)))),pg (((decide (vat o.ctx o.dot.rep.toNat=o.dot.seq-1))&&(decide (o.tick<=1073741824))) == true) (.agg (oc o).toArray),pg (((decide (vat o.ctx o.dot.rep.toNat=o.dot.seq-1))&&(decide (o.tick<=1073741824))) == true) (.bool (QbU o)),pv (.bool (((decide (vat o.ctx o.dot.rep.toNat=o.dot.seq-1))&&(decide (o.tick<=1073741824)))&&(QbU o))),pv (.bool (((decide (vat o.ctx o.dot.rep.toNat=o.dot.seq-1))&&(decide (o.tick<=1073741824)))&&(QbU o)))] (fun _ _=>_) [20] (by kernel_rfl) Y ⟨?_,?_,?_,?_,?_,?_,?_,?_,?_,?_,?_,?_,?_,?_,?_,?_,?_,?_,?_,?_,?_,trivial⟩ ?_
 ·exact oi [] fun Y=>Qac Qcq rfl (Zz Y)
 ·exact oi [0] fun Y=>Qac QdO rfl (Zz Y)
 ·exact oi [1] fun Y=>QaY (.int .u8 o.dot.rep) QcG Y 0 (Zz Y)
 ·exact oi [] fun Y=>Qac Qeo rfl (Zz Y)
 ·exact oi [2,3] fun Y=>Qb2 Qgx Qbv.1 rfl rfl (by omega) (by omega) (Zz Y)
 ·exact oi [4] fun Y=>QpP (V:=.int .u32 (vat o.ctx o.dot.rep.toNat)) Qbv Y 0 rfl rfl (Qrk (by omega) (by omega)) (Zz Y)
 ·exact oi [] fun Y=>Qac Qcq rfl (Zz Y)
 ·exact oi [6] fun Y=>Qac Qds rfl (Zz Y)
 ·exact oi [7] fun Y=>QaY (.int .u32 o.dot.seq) Qbv Y 0 (Zz Y)
 ·exact oi [8] fun Y=>Qh2 (a:=o.dot.seq) (b:=1) (c:=o.dot.seq-1) rfl rfl (Qjf (by omega) (by omega)) (Zz Y)
 ·exact oi [5,9] fun Y=>Qa5 rfl rfl (Zz Y)
 ·exact oi [10] fun Y=>Qag (.bool (decide (vat o.ctx o.dot.rep.toNat=o.dot.seq-1))) (Zz Y)
 ·exact ogi [11] fun hG Y=>Qac QgF rfl (Zz Y)
 ·exact oyi [11,12] [12] fun hG Y=>QaY (.int .u32 o.tick) Qbv Y 0 (Zz Y)
 ·exact oyi [11,13] [13] fun hG Y=>QfU rfl rfl (Zz Y)
 ·exact oi [11,14] fun Y=>Qa0 (h':=decide (o.tick<=1073741824)) rfl rfl rfl (Zz Y)
 ·exact oi [15] fun Y=>Qag (.bool ((decide (vat o.ctx o.dot.rep.toNat=o.dot.seq-1))&&(decide (o.tick<=1073741824)))) (Zz Y)
 ·exact ogi [16] fun hG Y=>Qa1 (cs:=oc o) Qbp Y 0 rfl rfl rfl (Zz Y)
 ·exact oyi [16,17] [17] fun hG Y=>QaH (vs:=[.agg (oc o).toArray]) (V:=.bool (QbU o)) Quc rfl rfl (QpJ _ o (by assumption)) Y fun _ Y=>Zz Y
 ·exact oi [16,18] fun Y=>Qa0 (h':=QbU o) rfl rfl rfl (Zz Y)
 ·exact oi [19] fun Y=>Qak (.bool (((decide (vat o.ctx o.dot.rep.toNat=o.dot.seq-1))&&(decide (o.tick<=1073741824)))&&(QbU o))) (Zz Y)
 rintro J1 w8 J2 hJ Y
 replace hJ:J2=upd (mix (sq 32 20++[4]) J1 _) 4 (.bool (((decide (vat o.ctx o.dot.rep.toNat=o.dot.seq-1))&&(decide (o.tick<=1073741824)))&&(QbU o))):=hJ
 subst hJ
 refine Qat ?_
 refine ⟨_,Qau (V:=.bool (((decide (vat o.ctx o.dot.rep.toNat=o.dot.seq-1))&&(decide (o.tick<=1073741824)))&&(QbU o))) results104 rfl,(Zr Y ?_)⟩
 exact congrArg Value.bool (Qop c6rrr c6rr c6r).symm
end Tt
end Go.Proofs
namespace Go.Proofs
open Go Go.Vx Go.RowKit
open Tryz
namespace Tt
theorem QmM (w:World) (x:Msv) (hxo:RdX w (.slice x.a x.c.ops.length x.n) 23 (x.c.ops.map oc)) (hxb:RdX w (.slice x.a2 x.c.b.length x.n2) 1 (x.c.b.map (ic .u8))):Calls prog 90 #[.agg (msv x).toArray] w (fun e w'=>e = .returned (.bool (QaJ x.c))/\Own w no w' []):=by
 refine Qal (n:=17) func90 rfl ntmps90 rfl ?_
 have Y:=Own.start w
 refine Qae (Qab (Qaa (Qb4 (V:=.agg (msv x).toArray) (cs:=msv x) rfl rfl Y fun b1 w2 Y=>(Qaa (Qak (.bool false) (Qad (Qae (Qa2 (so 3 14++[some 2]) [] [0,1,3,7,15,31,63,127,255,511,1023,2047,4095,8191,16383] [pv (Pq b1 (0+19)),pv (I6 x.c.idx),pv (.bool (decide (x.c.idx=0))),pv (.bool (decide (x.c.idx=0))),pg ((decide (x.c.idx=0)) == true) (Pq b1 (0+20)),pg ((decide (x.c.idx=0)) == true) (I6 x.c.tot),pg ((decide (x.c.idx=0)) == true) (.bool (decide (x.c.tot=0))),pv (.bool ((decide (x.c.idx=0))&&(decide (x.c.tot=0)))),pv (.bool ((decide (x.c.idx=0))&&(decide (x.c.tot=0)))),pg (((decide (x.c.idx=0))&&(decide (x.c.tot=0))) == true) (Pq b1 (0+21)),pg (((decide (x.c.idx=0))&&(decide (x.c.tot=0))) == true) (.slice x.a2 x.c.b.length x.n2),pg (((decide (x.c.idx=0))&&(decide (x.c.tot=0))) == true) (I6 ((x.c.b.length:Nat):Int)),pg (((decide (x.c.idx=0))&&(decide (x.c.tot=0))) == true) (.bool (decide (x.c.b.length=0))),pv (.bool (((decide (x.c.idx=0))&&(decide (x.c.tot=0)))&&(decide (x.c.b.length=0)))),pv (.bool (((decide (x.c.idx=0))&&(decide (x.c.tot=0)))&&(decide (x.c.b.length=0))))] (fun _ _=>_) [14] (by kernel_rfl) Y ⟨?_,?_,?_,?_,?_,?_,?_,?_,?_,?_,?_,?_,?_,?_,?_,trivial⟩ ?_))))))))
 ·exact oi [] fun Y=>Qac Qfd rfl (Zz Y)
 ·exact oi [0] fun Y=>QaY (.int .i64 x.c.idx) QcS Y 0 (Zz Y)
 ·exact oi [1] fun Y=>Qa5 rfl rfl (Zz Y)
 ·exact oi [2] fun Y=>Qag (.bool (decide (x.c.idx=0))) (Zz Y)
 ·exact ogi [3] fun hG Y=>Qac Qeu rfl (Zz Y)
 ·exact oyi [3,4] [4] fun hG Y=>QaY (.int .i64 x.c.tot) QcS Y 0 (Zz Y)
 ·exact oyi [3,5] [5] fun hG Y=>Qa5 rfl rfl (Zz Y)
 ·exact oi [3,6] fun Y=>Qa0 (h':=decide (x.c.tot=0)) rfl rfl rfl (Zz Y)
 ·exact oi [7] fun Y=>Qag (.bool ((decide (x.c.idx=0))&&(decide (x.c.tot=0)))) (Zz Y)
 ·exact ogi [8] fun hG Y=>Qac Qfh rfl (Zz Y)
 ·exact oyi [8,9] [9] fun hG Y=>QaY (.slice x.a2 x.c.b.length x.n2) QbD Y 0 (Zz Y)
 ·exact oyi [8,10] [10] fun hG Y=>QbR (n:=x.c.b.length) QbJ (RdX.own' hxb Y) (by simp) rfl (Zz Y)
 ·exact oyi [8,11] [11] fun hG Y=>Qas (V:=.bool (decide (((x.c.b.length:Nat):Int)=0))) (V':=.bool (decide (x.c.b.length=0))) (Qa5 rfl rfl ⟨rfl,rfl⟩) (congrArg Value.bool (decide_eq_decide.2 (by omega))) (Zz Y)
 ·exact oi [8,12] fun Y=>Qa0 (h':=decide (x.c.b.length=0)) rfl rfl rfl (Zz Y)
 ·exact oi [13] fun Y=>Qak (.bool (((decide (x.c.idx=0))&&(decide (x.c.tot=0)))&&(decide (x.c.b.length=0)))) (Zz Y)
 rintro J1 w3 J2 hJ Y
 replace hJ:J2=upd (mix (sq 3 14++[2]) J1 _) 2 (.bool (((decide (x.c.idx=0))&&(decide (x.c.tot=0)))&&(decide (x.c.b.length=0)))):=hJ
 subst hJ
 refine Qat ?_
 refine ⟨_,Qau (V:=.bool (((decide (x.c.idx=0))&&(decide (x.c.tot=0)))&&(decide (x.c.b.length=0)))) results90 rfl,(Zr Y ?_)⟩
 rfl
theorem QuT (w:World) (o:Opn) (hO:QbK o):Calls prog 91 #[.agg (oc o).toArray] w (fun e w'=>e = .returned (.bool (!QaC o 16))/\Own w no w' []):=by
 refine Qal (n:=6) func91 rfl ntmps91 rfl ?_
 have Y:=Own.start w
 refine Qae (Qab (Qaa (Qb4 (V:=.agg (oc o).toArray) (cs:=oc o) rfl rfl Y fun b1 w2 Y=>(Qaa (Qak (.bool false) (Qad (Qae (Qab (Qaa (Qa1 (cs:=oc o) Qbp Y 0 rfl rfl rfl (Qaa (QaH (vs:=[.agg (oc o).toArray,I6 16]) (V:=.bool (QaC o 16)) QsF rfl rfl ?hc Y fun w3 Y=>?_))))))))))))
 case hc=>exact (Qgy _ o 16 hO)
 refine Qaa (Qb6 rfl (Qaa (Qak (.bool (!(QaC o 16))) (Qad (Qat ?_)))))
 refine ⟨_,Qau (V:=.bool (!(QaC o 16))) results91 rfl,(Zr Y ?_)⟩
 rfl
theorem Qp0 (w:World) (a:Option Addr) (c:Nat) (l:List Opn) (g:Nat) (caps:List Value) (hg:En prog g) (p:Opn->Bool) (hp:∀ (w1:World) (L1:List Res),Own w no w1 L1->∀ x∈l,Calls prog g ([(.agg (oc x).toArray:Value)]++caps).toArray w1 (fun e w'=>e = .returned (.bool (p x))/\Own w1 no w' [])) (hr:Rd w (.slice a l.length c) 23 (l.map oc)):Calls prog 171 #[.slice a l.length c,.func (.func g) #[] caps.toArray] w (fun e w'=>e = .returned (.int .i64 (QoL p l))/\Own w no w' []):=by
 refine Qal (n:=19) func171 rfl ntmps171 rfl ?_
 have Y:=Own.start w
 have hn:=hr.sml
 refine Qae (Qab (Qaa (Qak (I6 0) (Qad (Qae (Qae (Qab (Qaa (Qag (.slice a l.length c) (Qaa (QbG (n:=l.length) Qc9 (Rd.own' hr Y) (by simp) rfl (Qaa (Qag (I6 0) (Qad (Qay (Qbb (fun J μ J' w'=>∃ (Jo:Env) (k:Nat),J'=upd (mix ([4,5]++sq 8 11) Jo J) 8 (I6 (k:Int))/\(k<=l.length)/\(∀ j:Nat,j<k->p (gd l j)=false)/\μ=l.length-k/\Own w no w' []) ?_ ?_))))))))))))))))
 ·exact ⟨_,_,0,Qaw (QaN (ds:=([4,5]++sq 8 11)) (Agr.refl _ _)) rfl,(by omega),(fun j hj=>absurd hj (Nat.not_lt_zero j)),rfl,Y⟩
 rintro μ J' w1 ⟨Jo,k,rfl,hk,hno,rfl,Y⟩
 refine Qae (Qab (Qaa (QbQ rfl rfl (Qad (Qae (Qaq (t:=decide ((k:Int)<((l.length:Nat):Int))) rfl (fun c2=>?_) (fun c2=>?_)))))))
 ·
  replace c2:=QQ1 c2
  refine Qar (Qae (Qay (Qae (Qab (Qaa (Qag (I6 (k:Int)) (Qaa (Qak (I6 (k:Int)) (Qad (Qae (Qab (Qaa (Qag (.func (.func g) #[] caps.toArray) (Qaa (Qag (.slice a l.length c) (Qaa (Qag (I6 (k:Int)) (Qaa (QcJ Qc9 Qbp.1 (Rd.own' hr Y) rfl rfl (by omega) (by rw [QQ6];omega) (Qaa (QhD (j:=0) (vs:=oc (gd l k)) k Qbp (Rd.own' hr Y) (QcN (by omega)) rfl rfl rfl (by omega) (Qaa (Qvu (vs:=[.agg (oc (gd l k)).toArray]) (cs:=caps) (V:=.bool (p (gd l k))) hg rfl rfl (hp _ _ Y (gd l k) (Qcw (by omega))) Y fun w3 Y=>(Qad (Qaq (t:=p (gd l k)) rfl (fun c4=>?_) (fun c4=>?_))))))))))))))))))))))))))
  ·
   refine Qae (Qab (Qaa (Qag (I6 (k:Int)) (Qaa (Qak (I6 (k:Int)) (Qad (Qat ?_)))))))
   refine ⟨_,Qau (V:=I6 (k:Int)) results171 rfl,(Zr Y ?_)⟩
   exact congrArg (Value.int .i64) (Qrx (by omega) hno c4).symm
  refine Qar (Qab (Qaa (Qbx (a:=(k:Int)) (b:=1) (c:=(k:Int)+1) rfl rfl (Qc1 (by omega) (by omega)) (Qaa (Qag (I6 ((k:Int)+1)) (Qad ?_))))))
  refine ⟨_,?_,_,k+1,Qaw (QaN (ds:=([4,5]++sq 8 11)) (by repeat (first|exact Agr.refl _ _|refine Agr.upd ?_ rfl|refine Agr.mix ?_ rfl))) rfl,(by omega),(QpZ hno c4),rfl,Y.take 0⟩
  omega
 replace c2:=QQ2 c2
 refine Qbs (Qae (Qab (Qaa (Qak (I6 (-1)) (Qad (Qat ?_))))))
 refine ⟨_,Qau (V:=I6 (-1)) results171 rfl,(Zr Y ?_)⟩
 exact congrArg (Value.int .i64) (QtM fun j hj=>hno j (by omega)).symm
theorem Qqf (w:World) (a:Option Addr) (c:Nat) (l:List Opn) (g:Nat) (caps:List Value) (hg:En prog g) (p:Opn->Bool) (hp:∀ (w1:World) (L1:List Res),Own w no w1 L1->∀ x∈l,Calls prog g ([(.agg (oc x).toArray:Value)]++caps).toArray w1 (fun e w'=>e = .returned (.bool (p x))/\Own w1 no w' [])) (hr:Rd w (.slice a l.length c) 23 (l.map oc)):Calls prog 93 #[.slice a l.length c,.func (.func g) #[] caps.toArray] w (fun e w'=>e = .returned (.bool (l.any p))/\Own w no w' []):=by
 refine Qal (n:=9) func93 rfl ntmps93 rfl ?_
 have Y:=Own.start w
 have hn:=hr.sml
 refine Qae (Qab (Qaa (Qak (.bool false) (Qad (Qae (Qab (Qaa (Qag (.slice a l.length c) (Qaa (Qag (.func (.func g) #[] caps.toArray) (Qaa (QaH (vs:=[.slice a l.length c,.func (.func g) #[] caps.toArray]) (V:=I6 (QoL p l)) QtS rfl rfl ?hc Y fun w1 Y=>?_))))))))))))
 case hc=>exact (Qp0 _ a c l g caps hg p (fun w1 L1 h=>hp w1 _ (Y.call h)) (Rd.own' hr Y))
 refine Qaa (Qdj rfl rfl (Qaa (Qak (.bool (decide (0<=QoL p l))) (Qad (Qat ?_)))))
 refine ⟨_,Qau (V:=.bool (decide (0<=QoL p l))) results93 rfl,(Zr Y ?_)⟩
 exact congrArg Value.bool QrH
end Tt
end Go.Proofs
namespace Go.Proofs
open Go Go.Vx Go.RowKit
open Tryz
namespace Tt
theorem QdK (w:World) (x:Msv) (hx:MscOk x.c) (hxo:RdX w (.slice x.a x.c.ops.length x.n) 23 (x.c.ops.map oc)) (hxb:RdX w (.slice x.a2 x.c.b.length x.n2) 1 (x.c.b.map (ic .u8))):Calls prog 28 #[.agg (msv x).toArray] w (fun e w'=>e = .returned (.bool (Qah x.c))/\Own w no w' []):=by
 refine Qal (n:=108) func28 rfl ntmps28 rfl ?_
 have Y:=Own.start w
 have hkn:=hx.kn
 obtain ⟨hkd1,hkd2⟩:=hx.kd
 obtain ⟨htt1,htt2⟩:=hx.tt
 refine Qae (Qab (Qaa (Qb4 (V:=.agg (msv x).toArray) (cs:=msv x) rfl rfl Y fun b1 w2 Y=>(Qaa (Qak (.bool false) (Qad (Qae (Qae (Qa2 (so 7 9) [] [0,1,3,7,15,31,63,127,255] [pv (Pq b1 (0+1)),pv (.int .u8 x.c.frm),pv (.bool (decide (16<=x.c.frm))),pv (.bool (decide (16<=x.c.frm))),pg ((decide (16<=x.c.frm)) == false) (Pq b1 (0+2)),pg ((decide (16<=x.c.frm)) == false) (.agg (vc x.c.known).toArray),pg ((decide (16<=x.c.frm)) == false) (.bool (QaE x.c.known 16)),pg ((decide (16<=x.c.frm)) == false) (.bool (!(QaE x.c.known 16))),pv (.bool ((decide (16<=x.c.frm))||(!(QaE x.c.known 16))))] (fun _ _=>_) [8] (by kernel_rfl) Y ⟨?_,?_,?_,?_,?_,?_,?_,?_,?_,trivial⟩ ?_)))))))))
 ·exact oi [] fun Y=>Qac Qkn rfl (Zz Y)
 ·exact oi [0] fun Y=>QaY (.int .u8 x.c.frm) QcG Y 0 (Zz Y)
 ·exact oi [1] fun Y=>Qdj rfl rfl (Zz Y)
 ·exact oi [2] fun Y=>Qag (.bool (decide (16<=x.c.frm))) (Zz Y)
 ·exact ogi [3] fun hG Y=>Qac Qio rfl (Zz Y)
 ·exact oyi [3,4] [4] fun hG Y=>Qez (vs:=vc x.c.known) QbC Y 0 rfl rfl rfl rfl (Zz Y)
 ·exact oyi [3,5] [5] fun hG Y=>QaH (vs:=[.agg (vc x.c.known).toArray,.int .i64 16]) (V:=.bool (QaE x.c.known 16)) QuK rfl rfl (QjG _ x.c.known 16 (by first|assumption|exact QeZ)) Y fun _ Y=>Zz Y
 ·exact oyi [3,6] [6] fun hG Y=>Qb6 rfl (Zz Y)
 ·exact oi [3,7] fun Y=>QbL (h':=!(QaE x.c.known 16)) rfl rfl rfl (Zz Y)
 rintro J1 w4 J2 hJ Y
 replace hJ:J2=upd (mix (sq 7 9) J1 _) 15 (.bool ((decide (16<=x.c.frm))||(!(QaE x.c.known 16)))):=hJ
 subst hJ
 refine Qaq (t:=(decide (16<=x.c.frm))||(!(QaE x.c.known 16))) rfl (fun c5=>?_) (fun c5=>?_)
 ·
  refine Qae (Qab (Qaa (Qak (.bool false) (Qad (Qat ?_)))))
  refine ⟨_,Qau (V:=.bool false) results28 rfl,(Zr Y ?_)⟩
  exact congrArg Value.bool (Qjl c5).symm
 have c5r:=QdH c5
 replace c5:=QdJ c5
 replace c5:=QQ2 c5
 replace c5r:=Qa3 c5r
 refine Qar (Qae (Qab (Qaa (Qac Qfs rfl (Qaa (QaY (.slice x.a x.c.ops.length x.n) Qc3 Y 0 (Qaa (QbR (n:=x.c.ops.length) Qc9 (RdX.own' hxo Y) (by simp) rfl (Qaa (Qak (I6 ((x.c.ops.length:Nat):Int)) (Qad (Qae (Qae (Qab (Qaa (Qac Qgo rfl (Qaa (QaY (I6 x.c.kind) QcS Y 0 (Qad (Qay (Qae (Qab (Qaa (Qa5 rfl rfl (Qaa (Qak (.bool (decide (x.c.kind=1))) (Qad (Qaq (t:=decide (x.c.kind=1)) rfl (fun c6=>?_) (fun c6=>?_)))))))))))))))))))))))))))))
 ·
  replace c6:=QQ1 c6
  refine Qae (Qa2 (so 23 6++[some 2]) [] [0,1,3,7,15,31,63] [pv (.agg (msv x).toArray),pv (.bool (QaJ x.c)),pv (.bool (QaJ x.c)),pg ((QaJ x.c) == true) (I6 ((x.c.ops.length:Nat):Int)),pg ((QaJ x.c) == true) (.bool (decide (x.c.ops.length=0))),pv (.bool ((QaJ x.c)&&(decide (x.c.ops.length=0)))),pv (.bool ((QaJ x.c)&&(decide (x.c.ops.length=0))))] (fun _ _=>_) [6] (by kernel_rfl) Y ⟨?_,?_,?_,?_,?_,?_,?_,trivial⟩ ?_)
  ·exact oi [] fun Y=>Qa1 (cs:=msv x) QbW Y 0 rfl rfl rfl (Zz Y)
  ·exact oi [0] fun Y=>QaH (vs:=[.agg (msv x).toArray]) (V:=.bool (QaJ x.c)) Qtl rfl rfl (QmM _ x (RdX.own' hxo Y) (RdX.own' hxb Y)) Y fun _ Y=>Zz Y
  ·exact oi [1] fun Y=>Qag (.bool (QaJ x.c)) (Zz Y)
  ·exact ogi [2] fun hG Y=>Qag (.int .i64 ((x.c.ops.length:Nat):Int)) (Zz Y)
  ·exact oyi [2,3] [3] fun hG Y=>Qas (V:=.bool (decide (((x.c.ops.length:Nat):Int)=0))) (V':=.bool (decide (x.c.ops.length=0))) (Qa5 rfl rfl ⟨rfl,rfl⟩) (congrArg Value.bool (decide_eq_decide.2 (by omega))) (Zz Y)
  ·exact oi [2,4] fun Y=>Qa0 (h':=decide (x.c.ops.length=0)) rfl rfl rfl (Zz Y)
  ·exact oi [5] fun Y=>Qak (.bool ((QaJ x.c)&&(decide (x.c.ops.length=0)))) (Zz Y)
  rintro J1 w8 J2 hJ Y
  replace hJ:J2=upd (mix (sq 23 6++[2]) J1 _) 2 (.bool ((QaJ x.c)&&(decide (x.c.ops.length=0)))):=hJ
  subst hJ
  refine Qat ?_
  refine ⟨_,Qau (V:=.bool ((QaJ x.c)&&(decide (x.c.ops.length=0)))) results28 rfl,(Zr Y (congrArg Value.bool ?_))⟩
  rw [Qcy c5 c5r]
  rw [Qmp c6]<;>rfl
 replace c6:=QQ2 c6
 refine Qae (Qab (Qaa (Qa5 rfl rfl (Qaa (Qak (.bool (decide (x.c.kind=2))) (Qad (Qaq (t:=decide (x.c.kind=2)) rfl (fun c9=>?_) (fun c9=>?_))))))))
 ·
  replace c9:=QQ1 c9
  refine Qae (Qab (Qaa (Qak (.func (.func 91) #[] #[]) (Qad (Qae (Qa2 (so 31 23++[some 2]) [] [0,1,3,7,15,7,63,127,255,511,1023,2047,4095,8191,16383,32767,65535,131071,262143,131071,1048575,2097151,4194303,8388607] [pv (.agg (msv x).toArray),pv (.bool (QaJ x.c)),pv (.bool (QaJ x.c)),pg ((QaJ x.c) == true) (Pq b1 (0+2)),pg ((QaJ x.c) == true) (.agg (vc x.c.known).toArray),pg ((QaJ x.c) == true) (.agg (vc vzero).toArray),pg ((QaJ x.c) == true) (.bool (decide (x.c.known=vzero))),pv (.bool ((QaJ x.c)&&(decide (x.c.known=vzero)))),pv (.bool ((QaJ x.c)&&(decide (x.c.known=vzero)))),pg (((QaJ x.c)&&(decide (x.c.known=vzero))) == true) (I6 ((x.c.ops.length:Nat):Int)),pg (((QaJ x.c)&&(decide (x.c.known=vzero))) == true) (.bool (decide (1<=x.c.ops.length))),pv (.bool (((QaJ x.c)&&(decide (x.c.known=vzero)))&&(decide (1<=x.c.ops.length)))),pv (.bool (((QaJ x.c)&&(decide (x.c.known=vzero)))&&(decide (1<=x.c.ops.length)))),pg ((((QaJ x.c)&&(decide (x.c.known=vzero)))&&(decide (1<=x.c.ops.length))) == true) (I6 ((x.c.ops.length:Nat):Int)),pg ((((QaJ x.c)&&(decide (x.c.known=vzero)))&&(decide (1<=x.c.ops.length))) == true) (.bool (decide (x.c.ops.length<=16))),pv (.bool ((((QaJ x.c)&&(decide (x.c.known=vzero)))&&(decide (1<=x.c.ops.length)))&&(decide (x.c.ops.length<=16)))),pv (.bool ((((QaJ x.c)&&(decide (x.c.known=vzero)))&&(decide (1<=x.c.ops.length)))&&(decide (x.c.ops.length<=16)))),pg (((((QaJ x.c)&&(decide (x.c.known=vzero)))&&(decide (1<=x.c.ops.length)))&&(decide (x.c.ops.length<=16))) == true) (Pq b1 (0+18)),pg (((((QaJ x.c)&&(decide (x.c.known=vzero)))&&(decide (1<=x.c.ops.length)))&&(decide (x.c.ops.length<=16))) == true) (.slice x.a x.c.ops.length x.n),pg (((((QaJ x.c)&&(decide (x.c.known=vzero)))&&(decide (1<=x.c.ops.length)))&&(decide (x.c.ops.length<=16))) == true) (.func (.func 91) #[] #[]),pg (((((QaJ x.c)&&(decide (x.c.known=vzero)))&&(decide (1<=x.c.ops.length)))&&(decide (x.c.ops.length<=16))) == true) (.bool (x.c.ops.any (fun o=>!QaC o 16))),pg (((((QaJ x.c)&&(decide (x.c.known=vzero)))&&(decide (1<=x.c.ops.length)))&&(decide (x.c.ops.length<=16))) == true) (.bool (x.c.ops.all QaI)),pv (.bool (((((QaJ x.c)&&(decide (x.c.known=vzero)))&&(decide (1<=x.c.ops.length)))&&(decide (x.c.ops.length<=16)))&&(x.c.ops.all QaI))),pv (.bool (((((QaJ x.c)&&(decide (x.c.known=vzero)))&&(decide (1<=x.c.ops.length)))&&(decide (x.c.ops.length<=16)))&&(x.c.ops.all QaI)))] (fun _ _=>_) [23] (by kernel_rfl) Y ⟨?_,?_,?_,?_,?_,?_,?_,?_,?_,?_,?_,?_,?_,?_,?_,?_,?_,?_,?_,?_,?_,?_,?_,?_,trivial⟩ ?_))))))
  ·exact oi [] fun Y=>Qa1 (cs:=msv x) QbW Y 0 rfl rfl rfl (Zz Y)
  ·exact oi [0] fun Y=>QaH (vs:=[.agg (msv x).toArray]) (V:=.bool (QaJ x.c)) Qtl rfl rfl (QmM _ x (RdX.own' hxo Y) (RdX.own' hxb Y)) Y fun _ Y=>Zz Y
  ·exact oi [1] fun Y=>Qag (.bool (QaJ x.c)) (Zz Y)
  ·exact ogi [2] fun hG Y=>Qac Qio rfl (Zz Y)
  ·exact oyi [2,3] [3] fun hG Y=>Qez (vs:=vc x.c.known) QbC Y 0 rfl rfl rfl rfl (Zz Y)
  ·exact ogi [2] fun hG Y=>Qbz (vs:=[]) (cs:=vc vzero) Qjw (rfl) rfl (Zz Y)
  ·exact oyi [2,4,5] [4,5] fun hG Y=>Qun (xs:=vc x.c.known) (ys:=vc vzero) eqGuardType36 (Qo1 x.c.known vzero) rfl rfl rfl (Zz Y)
  ·exact oi [2,6] fun Y=>Qa0 (h':=decide (x.c.known=vzero)) rfl rfl rfl (Zz Y)
  ·exact oi [7] fun Y=>Qag (.bool ((QaJ x.c)&&(decide (x.c.known=vzero)))) (Zz Y)
  ·exact ogi [8] fun hG Y=>Qag (.int .i64 ((x.c.ops.length:Nat):Int)) (Zz Y)
  ·exact oyi [8,9] [9] fun hG Y=>Qas (V:=.bool (decide (1<=((x.c.ops.length:Nat):Int)))) (V':=.bool (decide (1<=x.c.ops.length))) (Qdj rfl rfl ⟨rfl,rfl⟩) (congrArg Value.bool (decide_eq_decide.2 (by omega))) (Zz Y)
  ·exact oi [8,10] fun Y=>Qa0 (h':=decide (1<=x.c.ops.length)) rfl rfl rfl (Zz Y)
  ·exact oi [11] fun Y=>Qag (.bool (((QaJ x.c)&&(decide (x.c.known=vzero)))&&(decide (1<=x.c.ops.length)))) (Zz Y)
  ·exact ogi [12] fun hG Y=>Qag (.int .i64 ((x.c.ops.length:Nat):Int)) (Zz Y)
  ·exact oyi [12,13] [13] fun hG Y=>Qas (V:=.bool (decide (((x.c.ops.length:Nat):Int)<=16))) (V':=.bool (decide (x.c.ops.length<=16))) (QfU rfl rfl ⟨rfl,rfl⟩) (congrArg Value.bool (decide_eq_decide.2 (by omega))) (Zz Y)
  ·exact oi [12,14] fun Y=>Qa0 (h':=decide (x.c.ops.length<=16)) rfl rfl rfl (Zz Y)
  ·exact oi [15] fun Y=>Qag (.bool ((((QaJ x.c)&&(decide (x.c.known=vzero)))&&(decide (1<=x.c.ops.length)))&&(decide (x.c.ops.length<=16)))) (Zz Y)
  ·exact ogi [16] fun hG Y=>Qac Qfs rfl (Zz Y)
  ·exact oyi [16,17] [17] fun hG Y=>QaY (.slice x.a x.c.ops.length x.n) Qc3 Y 0 (Zz Y)
  ·exact ogi [16] fun hG Y=>Qag (.func (.func 91) #[] #[]) (Zz Y)
  ·refine oyi [16,18,19] [18,19] fun hG Y=>?_
   have hg9:=eq_of_beq hG
   simp only [Bool.and_eq_true,decide_eq_true_eq] at hg9
   have hg8:1<=x.c.ops.length:=hg9.1.2
   exact QaH (vs:=[.slice x.a x.c.ops.length x.n,.func (.func 91) #[] #[]]) (V:=.bool (x.c.ops.any (fun o=>!QaC o 16))) Qva rfl rfl (Qqf _ x.a x.n x.c.ops 91 [] QvF (fun o=>!QaC o 16) (fun w1 L1 h o ho=>QuT w1 o (hx.op o ho)) (RdX.pos (RdX.own' hxo Y) (by rw [QQ6];omega))) Y fun _ Y=>Zz Y
  ·exact oyi [16,20] [20] fun hG Y=>Qas (V:=.bool (!(x.c.ops.any (fun o=>!QaC o 16)))) (V':=.bool (x.c.ops.all QaI)) (Qb6 rfl ⟨rfl,rfl⟩) (congrArg Value.bool Qs7) (Zz Y)
  ·exact oi [16,21] fun Y=>Qa0 (h':=x.c.ops.all QaI) rfl rfl rfl (Zz Y)
  ·exact oi [22] fun Y=>Qak (.bool (((((QaJ x.c)&&(decide (x.c.known=vzero)))&&(decide (1<=x.c.ops.length)))&&(decide (x.c.ops.length<=16)))&&(x.c.ops.all QaI))) (Zz Y)
  rintro J1 w12 J2 hJ Y
  replace hJ:J2=upd (mix (sq 31 23++[2]) J1 _) 2 (.bool (((((QaJ x.c)&&(decide (x.c.known=vzero)))&&(decide (1<=x.c.ops.length)))&&(decide (x.c.ops.length<=16)))&&(x.c.ops.all QaI))):=hJ
  subst hJ
  refine Qat ?_
  refine ⟨_,Qau (V:=.bool (((((QaJ x.c)&&(decide (x.c.known=vzero)))&&(decide (1<=x.c.ops.length)))&&(decide (x.c.ops.length<=16)))&&(x.c.ops.all QaI))) results28 rfl,(Zr Y (congrArg Value.bool ?_))⟩
  rw [Qcy c5 c5r]
  rw [Qom c6 c9]
  unfold Qur<;>first|rfl|simp only [Bool.and_assoc]
 replace c9:=QQ2 c9
 refine Qae (Qab (Qaa (Qa5 rfl rfl (Qaa (Qak (.bool (decide (x.c.kind=3))) (Qad (Qaq (t:=decide (x.c.kind=3)) rfl (fun c13=>?_) (fun c13=>?_))))))))
 ·
  replace c13:=QQ1 c13
  refine Qae (Qa2 (so 56 20++[some 5]) [] [0,1,3,7,15,31,63,127,255,511,1023,2047,4095,8191,16383,32767,16383,81919,262143,524287,1048575] [pv (Pq b1 (0+20)),pv (I6 x.c.tot),pv (.bool (decide (1<=x.c.tot))),pv (.bool (decide (1<=x.c.tot))),pg ((decide (1<=x.c.tot)) == true) (Pq b1 (0+20)),pg ((decide (1<=x.c.tot)) == true) (I6 x.c.tot),pg ((decide (1<=x.c.tot)) == true) (.bool (decide (x.c.tot<=64))),pv (.bool ((decide (1<=x.c.tot))&&(decide (x.c.tot<=64)))),pv (.bool ((decide (1<=x.c.tot))&&(decide (x.c.tot<=64)))),pg (((decide (1<=x.c.tot))&&(decide (x.c.tot<=64))) == true) (Pq b1 (0+19)),pg (((decide (1<=x.c.tot))&&(decide (x.c.tot<=64))) == true) (I6 x.c.idx),pg (((decide (1<=x.c.tot))&&(decide (x.c.tot<=64))) == true) (.bool (decide (0<=x.c.idx))),pv (.bool (((decide (1<=x.c.tot))&&(decide (x.c.tot<=64)))&&(decide (0<=x.c.idx)))),pv (.bool (((decide (1<=x.c.tot))&&(decide (x.c.tot<=64)))&&(decide (0<=x.c.idx)))),pg ((((decide (1<=x.c.tot))&&(decide (x.c.tot<=64)))&&(decide (0<=x.c.idx))) == true) (Pq b1 (0+19)),pg ((((decide (1<=x.c.tot))&&(decide (x.c.tot<=64)))&&(decide (0<=x.c.idx))) == true) (I6 x.c.idx),pg ((((decide (1<=x.c.tot))&&(decide (x.c.tot<=64)))&&(decide (0<=x.c.idx))) == true) (Pq b1 (0+20)),pg ((((decide (1<=x.c.tot))&&(decide (x.c.tot<=64)))&&(decide (0<=x.c.idx))) == true) (I6 x.c.tot),pg ((((decide (1<=x.c.tot))&&(decide (x.c.tot<=64)))&&(decide (0<=x.c.idx))) == true) (.bool (decide (x.c.idx<x.c.tot))),pv (.bool ((((decide (1<=x.c.tot))&&(decide (x.c.tot<=64)))&&(decide (0<=x.c.idx)))&&(decide (x.c.idx<x.c.tot)))),pv (.bool ((((decide (1<=x.c.tot))&&(decide (x.c.tot<=64)))&&(decide (0<=x.c.idx)))&&(decide (x.c.idx<x.c.tot))))] (fun _ _=>_) [20] (by kernel_rfl) Y ⟨?_,?_,?_,?_,?_,?_,?_,?_,?_,?_,?_,?_,?_,?_,?_,?_,?_,?_,?_,?_,?_,trivial⟩ ?_)
  ·exact oi [] fun Y=>Qac Qeu rfl (Zz Y)
  ·exact oi [0] fun Y=>QaY (.int .i64 x.c.tot) QcS Y 0 (Zz Y)
  ·exact oi [1] fun Y=>Qdj rfl rfl (Zz Y)
  ·exact oi [2] fun Y=>Qag (.bool (decide (1<=x.c.tot))) (Zz Y)
  ·exact ogi [3] fun hG Y=>Qac Qeu rfl (Zz Y)
  ·exact oyi [3,4] [4] fun hG Y=>QaY (.int .i64 x.c.tot) QcS Y 0 (Zz Y)
  ·exact oyi [3,5] [5] fun hG Y=>QfU rfl rfl (Zz Y)
  ·exact oi [3,6] fun Y=>Qa0 (h':=decide (x.c.tot<=64)) rfl rfl rfl (Zz Y)
  ·exact oi [7] fun Y=>Qag (.bool ((decide (1<=x.c.tot))&&(decide (x.c.tot<=64)))) (Zz Y)
  ·exact ogi [8] fun hG Y=>Qac Qfd rfl (Zz Y)
  ·exact oyi [8,9] [9] fun hG Y=>QaY (.int .i64 x.c.idx) QcS Y 0 (Zz Y)
  ·exact oyi [8,10] [10] fun hG Y=>Qdj rfl rfl (Zz Y)
  ·exact oi [8,11] fun Y=>Qa0 (h':=decide (0<=x.c.idx)) rfl rfl rfl (Zz Y)
  ·exact oi [12] fun Y=>Qag (.bool (((decide (1<=x.c.tot))&&(decide (x.c.tot<=64)))&&(decide (0<=x.c.idx)))) (Zz Y)
  ·exact ogi [13] fun hG Y=>Qac Qfd rfl (Zz Y)
  ·exact oyi [13,14] [14] fun hG Y=>QaY (.int .i64 x.c.idx) QcS Y 0 (Zz Y)
  ·exact ogi [13] fun hG Y=>Qac Qeu rfl (Zz Y)
  ·exact oyi [13,16] [16] fun hG Y=>QaY (.int .i64 x.c.tot) QcS Y 0 (Zz Y)
  ·exact oyi [13,15,17] [15,17] fun hG Y=>QbQ rfl rfl (Zz Y)
  ·exact oi [13,18] fun Y=>Qa0 (h':=decide (x.c.idx<x.c.tot)) rfl rfl rfl (Zz Y)
  ·exact oi [19] fun Y=>Qak (.bool ((((decide (1<=x.c.tot))&&(decide (x.c.tot<=64)))&&(decide (0<=x.c.idx)))&&(decide (x.c.idx<x.c.tot)))) (Zz Y)
  rintro J1 w14 J2 hJ Y
  replace hJ:J2=upd (mix (sq 56 20++[5]) J1 _) 5 (.bool ((((decide (1<=x.c.tot))&&(decide (x.c.tot<=64)))&&(decide (0<=x.c.idx)))&&(decide (x.c.idx<x.c.tot)))):=hJ
  subst hJ
  refine Qae (Qa2 (so 76 24++[some 6]) [] [0,1,3,7,15,31,63,127,255,511,1023,2047,4095,8191,16383,32767,65535,131071,65535,327679,851967,2097151,4194303,8388607,16777215] [pv (Pq b1 (0+21)),pv (.slice x.a2 x.c.b.length x.n2),pv (I6 ((x.c.b.length:Nat):Int)),pv (.bool (decide (x.c.b.length=2000))),pv (.bool (decide (x.c.b.length=2000))),pg ((decide (x.c.b.length=2000)) == false) (Pq b1 (0+21)),pg ((decide (x.c.b.length=2000)) == false) (.slice x.a2 x.c.b.length x.n2),pg ((decide (x.c.b.length=2000)) == false) (I6 ((x.c.b.length:Nat):Int)),pg ((decide (x.c.b.length=2000)) == false) (.bool (decide (1<=x.c.b.length))),pg ((decide (x.c.b.length=2000)) == false) (.bool (decide (1<=x.c.b.length))),pg (((decide (x.c.b.length=2000)) == false)&&((decide (1<=x.c.b.length)) == true)) (Pq b1 (0+21)),pg (((decide (x.c.b.length=2000)) == false)&&((decide (1<=x.c.b.length)) == true)) (.slice x.a2 x.c.b.length x.n2),pg (((decide (x.c.b.length=2000)) == false)&&((decide (1<=x.c.b.length)) == true)) (I6 ((x.c.b.length:Nat):Int)),pg (((decide (x.c.b.length=2000)) == false)&&((decide (1<=x.c.b.length)) == true)) (.bool (decide (x.c.b.length<2000))),pg ((decide (x.c.b.length=2000)) == false) (.bool ((decide (1<=x.c.b.length))&&(decide (x.c.b.length<2000)))),pg ((decide (x.c.b.length=2000)) == false) (.bool ((decide (1<=x.c.b.length))&&(decide (x.c.b.length<2000)))),pg (((decide (x.c.b.length=2000)) == false)&&(((decide (1<=x.c.b.length))&&(decide (x.c.b.length<2000))) == true)) (Pq b1 (0+19)),pg (((decide (x.c.b.length=2000)) == false)&&(((decide (1<=x.c.b.length))&&(decide (x.c.b.length<2000))) == true)) (I6 x.c.idx),pg (((decide (x.c.b.length=2000)) == false)&&(((decide (1<=x.c.b.length))&&(decide (x.c.b.length<2000))) == true)) (Pq b1 (0+20)),pg (((decide (x.c.b.length=2000)) == false)&&(((decide (1<=x.c.b.length))&&(decide (x.c.b.length<2000))) == true)) (I6 x.c.tot),pg (((decide (x.c.b.length=2000)) == false)&&(((decide (1<=x.c.b.length))&&(decide (x.c.b.length<2000))) == true)) (I6 (IntKind.i64.wrap (x.c.tot-1))),pg (((decide (x.c.b.length=2000)) == false)&&(((decide (1<=x.c.b.length))&&(decide (x.c.b.length<2000))) == true)) (.bool (decide (x.c.idx=IntKind.i64.wrap (x.c.tot-1)))),pg ((decide (x.c.b.length=2000)) == false) (.bool (((decide (1<=x.c.b.length))&&(decide (x.c.b.length<2000)))&&(decide (x.c.idx=IntKind.i64.wrap (x.c.tot-1))))),pv (.bool ((decide (x.c.b.length=2000))||(((decide (1<=x.c.b.length))&&(decide (x.c.b.length<2000)))&&(decide (x.c.idx=IntKind.i64.wrap (x.c.tot-1)))))),pv (.bool ((decide (x.c.b.length=2000))||(((decide (1<=x.c.b.length))&&(decide (x.c.b.length<2000)))&&(decide (x.c.idx=IntKind.i64.wrap (x.c.tot-1))))))] (fun _ _=>_) [24] (by kernel_rfl) Y ⟨?_,?_,?_,?_,?_,?_,?_,?_,?_,?_,?_,?_,?_,?_,?_,?_,?_,?_,?_,?_,?_,?_,?_,?_,?_,trivial⟩ ?_)
  ·exact oi [] fun Y=>Qac Qfh rfl (Zz Y)
  ·exact oi [0] fun Y=>QaY (.slice x.a2 x.c.b.length x.n2) QbD Y 0 (Zz Y)
  ·exact oi [1] fun Y=>QbR (n:=x.c.b.length) QbJ (RdX.own' hxb Y) (by simp) rfl (Zz Y)
  ·exact oi [2] fun Y=>Qas (V:=.bool (decide (((x.c.b.length:Nat):Int)=2000))) (V':=.bool (decide (x.c.b.length=2000))) (Qa5 rfl rfl ⟨rfl,rfl⟩) (congrArg Value.bool (decide_eq_decide.2 (by omega))) (Zz Y)
  ·exact oi [3] fun Y=>Qag (.bool (decide (x.c.b.length=2000))) (Zz Y)
  ·exact ogi [4] fun hG Y=>Qac Qfh rfl (Zz Y)
  ·exact oyi [4,5] [5] fun hG Y=>QaY (.slice x.a2 x.c.b.length x.n2) QbD Y 0 (Zz Y)
  ·exact oyi [4,6] [6] fun hG Y=>QbR (n:=x.c.b.length) QbJ (RdX.own' hxb Y) (by simp) rfl (Zz Y)
  ·refine oyi [4,7] [7] fun hG Y=>?_
   have hgd:=QQ2 (eq_of_beq (hG))
   exact Qas (V:=.bool (decide (1<=((x.c.b.length:Nat):Int)))) (V':=.bool (decide (1<=x.c.b.length))) (Qdj rfl rfl ⟨rfl,rfl⟩) (congrArg Value.bool (decide_eq_decide.2 (by omega))) (Zz Y)
  ·exact oyi [4,8] [8] fun hG Y=>Qag (.bool (decide (1<=x.c.b.length))) (Zz Y)
  ·exact ogi [9] fun hG Y=>Qac Qfh rfl (Zz Y)
  ·exact oyi [9,10] [10] fun hG Y=>QaY (.slice x.a2 x.c.b.length x.n2) QbD Y 0 (Zz Y)
  ·exact oyi [9,11] [11] fun hG Y=>QbR (n:=x.c.b.length) QbJ (RdX.own' hxb Y) (by simp) rfl (Zz Y)
  ·refine oyi [9,12] [12] fun hG Y=>?_
   have hgd0:=QQ2 (eq_of_beq (Qee (hG)))
   have hgd1:=QQ1 (eq_of_beq (Qhi (hG)))
   exact Qas (V:=.bool (decide (((x.c.b.length:Nat):Int)<2000))) (V':=.bool (decide (x.c.b.length<2000))) (QbQ rfl rfl ⟨rfl,rfl⟩) (congrArg Value.bool (decide_eq_decide.2 (by omega))) (Zz Y)
  ·exact oyi [4,9,13] [9] fun hG Y=>Qhy (h':=decide (x.c.b.length<2000)) (G:=((decide (x.c.b.length=2000)) == false)) hG rfl rfl rfl (Zz Y)
  ·exact oyi [4,14] [14] fun hG Y=>Qag (.bool ((decide (1<=x.c.b.length))&&(decide (x.c.b.length<2000)))) (Zz Y)
  ·exact ogi [15] fun hG Y=>Qac Qfd rfl (Zz Y)
  ·exact oyi [15,16] [16] fun hG Y=>QaY (.int .i64 x.c.idx) QcS Y 0 (Zz Y)
  ·exact ogi [15] fun hG Y=>Qac Qeu rfl (Zz Y)
  ·exact oyi [15,18] [18] fun hG Y=>QaY (.int .i64 x.c.tot) QcS Y 0 (Zz Y)
  ·exact oyi [15,19] [19] fun hG Y=>Qh2 (a:=x.c.tot) (b:=1) (c:=IntKind.i64.wrap (x.c.tot-1)) rfl rfl rfl (Zz Y)
  ·exact oyi [15,17,20] [17,20] fun hG Y=>Qa5 rfl rfl (Zz Y)
  ·exact oyi [4,15,21] [15] fun hG Y=>Qhy (h':=decide (x.c.idx=IntKind.i64.wrap (x.c.tot-1))) (G:=((decide (x.c.b.length=2000)) == false)) hG rfl rfl rfl (Zz Y)
  ·exact oi [4,22] fun Y=>QbL (h':=((decide (1<=x.c.b.length))&&(decide (x.c.b.length<2000)))&&(decide (x.c.idx=IntKind.i64.wrap (x.c.tot-1)))) rfl rfl rfl (Zz Y)
  ·exact oi [23] fun Y=>Qak (.bool ((decide (x.c.b.length=2000))||(((decide (1<=x.c.b.length))&&(decide (x.c.b.length<2000)))&&(decide (x.c.idx=IntKind.i64.wrap (x.c.tot-1)))))) (Zz Y)
  rintro J1 w15 J2 hJ Y
  replace hJ:J2=upd (mix (sq 76 24++[6]) J1 _) 6 (.bool ((decide (x.c.b.length=2000))||(((decide (1<=x.c.b.length))&&(decide (x.c.b.length<2000)))&&(decide (x.c.idx=IntKind.i64.wrap (x.c.tot-1)))))):=hJ
  subst hJ
  refine Qae (Qa2 (so 100 8++[some 2]) [] [0,1,3,7,15,31,63,127,255] [pv (I6 ((x.c.ops.length:Nat):Int)),pv (.bool (decide (x.c.ops.length=0))),pv (.bool (decide (x.c.ops.length=0))),pg ((decide (x.c.ops.length=0)) == true) (.bool ((((decide (1<=x.c.tot))&&(decide (x.c.tot<=64)))&&(decide (0<=x.c.idx)))&&(decide (x.c.idx<x.c.tot)))),pv (.bool ((decide (x.c.ops.length=0))&&((((decide (1<=x.c.tot))&&(decide (x.c.tot<=64)))&&(decide (0<=x.c.idx)))&&(decide (x.c.idx<x.c.tot))))),pv (.bool ((decide (x.c.ops.length=0))&&((((decide (1<=x.c.tot))&&(decide (x.c.tot<=64)))&&(decide (0<=x.c.idx)))&&(decide (x.c.idx<x.c.tot))))),pg (((decide (x.c.ops.length=0))&&((((decide (1<=x.c.tot))&&(decide (x.c.tot<=64)))&&(decide (0<=x.c.idx)))&&(decide (x.c.idx<x.c.tot)))) == true) (.bool ((decide (x.c.b.length=2000))||(((decide (1<=x.c.b.length))&&(decide (x.c.b.length<2000)))&&(decide (x.c.idx=IntKind.i64.wrap (x.c.tot-1)))))),pv (.bool (((decide (x.c.ops.length=0))&&((((decide (1<=x.c.tot))&&(decide (x.c.tot<=64)))&&(decide (0<=x.c.idx)))&&(decide (x.c.idx<x.c.tot))))&&((decide (x.c.b.length=2000))||(((decide (1<=x.c.b.length))&&(decide (x.c.b.length<2000)))&&(decide (x.c.idx=IntKind.i64.wrap (x.c.tot-1))))))),pv (.bool (((decide (x.c.ops.length=0))&&((((decide (1<=x.c.tot))&&(decide (x.c.tot<=64)))&&(decide (0<=x.c.idx)))&&(decide (x.c.idx<x.c.tot))))&&((decide (x.c.b.length=2000))||(((decide (1<=x.c.b.length))&&(decide (x.c.b.length<2000)))&&(decide (x.c.idx=IntKind.i64.wrap (x.c.tot-1)))))))] (fun _ _=>_) [8] (by kernel_rfl) Y ⟨?_,?_,?_,?_,?_,?_,?_,?_,?_,trivial⟩ ?_)
  ·exact oi [] fun Y=>Qag (.int .i64 ((x.c.ops.length:Nat):Int)) (Zz Y)
  ·exact oi [0] fun Y=>Qas (V:=.bool (decide (((x.c.ops.length:Nat):Int)=0))) (V':=.bool (decide (x.c.ops.length=0))) (Qa5 rfl rfl ⟨rfl,rfl⟩) (congrArg Value.bool (decide_eq_decide.2 (by omega))) (Zz Y)
  ·exact oi [1] fun Y=>Qag (.bool (decide (x.c.ops.length=0))) (Zz Y)
  ·exact ogi [2] fun hG Y=>Qag (.bool ((((decide (1<=x.c.tot))&&(decide (x.c.tot<=64)))&&(decide (0<=x.c.idx)))&&(decide (x.c.idx<x.c.tot)))) (Zz Y)
  ·exact oi [2,3] fun Y=>Qa0 (h':=(((decide (1<=x.c.tot))&&(decide (x.c.tot<=64)))&&(decide (0<=x.c.idx)))&&(decide (x.c.idx<x.c.tot))) rfl rfl rfl (Zz Y)
  ·exact oi [4] fun Y=>Qag (.bool ((decide (x.c.ops.length=0))&&((((decide (1<=x.c.tot))&&(decide (x.c.tot<=64)))&&(decide (0<=x.c.idx)))&&(decide (x.c.idx<x.c.tot))))) (Zz Y)
  ·exact ogi [5] fun hG Y=>Qag (.bool ((decide (x.c.b.length=2000))||(((decide (1<=x.c.b.length))&&(decide (x.c.b.length<2000)))&&(decide (x.c.idx=IntKind.i64.wrap (x.c.tot-1)))))) (Zz Y)
  ·exact oi [5,6] fun Y=>Qa0 (h':=(decide (x.c.b.length=2000))||(((decide (1<=x.c.b.length))&&(decide (x.c.b.length<2000)))&&(decide (x.c.idx=IntKind.i64.wrap (x.c.tot-1))))) rfl rfl rfl (Zz Y)
  ·exact oi [7] fun Y=>Qak (.bool (((decide (x.c.ops.length=0))&&((((decide (1<=x.c.tot))&&(decide (x.c.tot<=64)))&&(decide (0<=x.c.idx)))&&(decide (x.c.idx<x.c.tot))))&&((decide (x.c.b.length=2000))||(((decide (1<=x.c.b.length))&&(decide (x.c.b.length<2000)))&&(decide (x.c.idx=IntKind.i64.wrap (x.c.tot-1))))))) (Zz Y)
  rintro J1 w16 J2 hJ Y
  replace hJ:J2=upd (mix (sq 100 8++[2]) J1 _) 2 (.bool (((decide (x.c.ops.length=0))&&((((decide (1<=x.c.tot))&&(decide (x.c.tot<=64)))&&(decide (0<=x.c.idx)))&&(decide (x.c.idx<x.c.tot))))&&((decide (x.c.b.length=2000))||(((decide (1<=x.c.b.length))&&(decide (x.c.b.length<2000)))&&(decide (x.c.idx=IntKind.i64.wrap (x.c.tot-1))))))):=hJ
  subst hJ
  refine Qat ?_
  refine ⟨_,Qau (V:=.bool (((decide (x.c.ops.length=0))&&((((decide (1<=x.c.tot))&&(decide (x.c.tot<=64)))&&(decide (0<=x.c.idx)))&&(decide (x.c.idx<x.c.tot))))&&((decide (x.c.b.length=2000))||(((decide (1<=x.c.b.length))&&(decide (x.c.b.length<2000)))&&(decide (x.c.idx=IntKind.i64.wrap (x.c.tot-1))))))) results28 rfl,(Zr Y (congrArg Value.bool ?_))⟩
  rw [Qcy c5 c5r]
  rw [QnV c6 c9 c13,← QnH]<;>first|rfl|simp only [Bool.and_assoc]
 replace c13:=QQ2 c13
 refine Qar (Qae (Qab (Qaa (Qak (.bool false) (Qad (Qat ?_))))))
 refine ⟨_,Qau (V:=.bool false) results28 rfl,(Zr Y (congrArg Value.bool ?_))⟩
 rw [Qcy c5 c5r]
 rw [Qmn c6 c9 c13]
theorem QsA (w:World) (a:Option Addr) (c:Nat) (l:List Opn) (hok:∀ o∈l,QbK o) (hr:RdX w (.slice a l.length c) 23 (l.map oc)) (hl:l.length<=1000000):Calls prog 95 #[.slice a l.length c] w (fun e w'=>e = .returned (.bool (l.all QaI))/\Own w no w' []):=by
 refine Qal (n:=16) func95 rfl ntmps95 rfl ?_
 have Y:=Own.start w
 refine Qae (Qab (Qaa (Qak (.bool false) (Qad (Qae (Qae (Qab (Qaa (Qak (I6 0) (Qad (Qay (Qbb (fun J μ J' w'=>∃ (Jo:Env) (k:Nat),J'=upd (mix (sq 2 14) Jo J) 3 (I6 (k:Int))/\(k<=l.length)/\((l.take k).all QaI=true)/\μ=l.length-k/\Own w no w' []) ?_ ?_))))))))))))
 ·exact ⟨_,_,0,Qaw (QaN (ds:=(sq 2 14)) (Agr.refl _ _)) rfl,(by omega),rfl,rfl,Y⟩
 rintro μ J' w1 ⟨Jo,k,rfl,hk,hal,rfl,Y⟩
 refine Qae (Qae (Qab (Qaa (Qag (I6 (k:Int)) (Qaa (Qag (.slice a l.length c) (Qaa (QbR (n:=l.length) Qc9 (RdX.own' hr Y) (by simp) rfl (Qaa (QbQ rfl rfl (Qad (Qaq (t:=decide ((k:Int)<((l.length:Nat):Int))) rfl (fun c2=>?_) (fun c2=>?_)))))))))))))
 ·
  replace c2:=QQ1 c2
  refine Qar (Qae (Qay (Qae (Qab (Qaa (Qag (.slice a l.length c) (Qaa (Qag (I6 (k:Int)) (Qaa (QcJ Qc9 Qbp.1 (RdX.pos (RdX.own' hr Y) (by rw [QQ6];omega)) rfl rfl (by omega) (by rw [QQ6];omega) (Qaa (QhD (j:=0) (vs:=oc (gd l k)) k Qbp (RdX.pos (RdX.own' hr Y) (by rw [QQ6];omega)) (QcN (by omega)) rfl rfl rfl (by omega) (Qaa (QaH (vs:=[.agg (oc (gd l k)).toArray,I6 16]) (V:=.bool (QaC (gd l k) 16)) QnO rfl rfl ?hc Y fun w3 Y=>?_))))))))))))))
  case hc=>exact (QfB _ (gd l k) 16 (hok _ (Qcw (by omega))))
  refine Qaa (Qb6 rfl (Qad (Qaq (t:=!(QaC (gd l k) 16)) rfl (fun c4=>?_) (fun c4=>?_))))
  ·
   replace c4:=Qcb c4
   refine Qae (Qab (Qaa (Qak (.bool false) (Qad (Qat ?_)))))
   refine ⟨_,Qau (V:=.bool false) results95 rfl,(Zr Y ?_)⟩
   exact congrArg Value.bool (QtB (k:=k) (by omega) c4).symm
  replace c4:=Qa3 c4
  refine Qar (Qab (Qaa (Qag (I6 (k:Int)) (Qaa (Qbx (a:=(k:Int)) (b:=1) (c:=(k:Int)+1) rfl rfl (Qc1 (by omega) (by omega)) (Qaa (Qak (I6 ((k:Int)+1)) (Qad ?_))))))))
  refine ⟨_,?_,_,k+1,Qaw (QaN (ds:=(sq 2 14)) (by repeat (first|exact Agr.refl _ _|refine Agr.upd ?_ rfl|refine Agr.mix ?_ rfl))) rfl,(by omega),(Qpi hal (by omega) c4),rfl,Y.take 0⟩
  omega
 replace c2:=QQ2 c2
 refine Qbs (Qae (Qab (Qaa (Qak (.bool true) (Qad (Qat ?_))))))
 refine ⟨_,Qau (V:=.bool true) results95 rfl,(Zr Y ?_)⟩
 rw [List.take_of_length_le (by omega)] at hal;exact congrArg Value.bool hal.symm
theorem Qdh (w:World) (x:Msv) (hx:MscOk x.c) (hxo:RdX w (.slice x.a x.c.ops.length x.n) 23 (x.c.ops.map oc)) (hxb:RdX w (.slice x.a2 x.c.b.length x.n2) 1 (x.c.b.map (ic .u8))):Calls prog 29 #[.agg (msv x).toArray] w (fun e w'=>e = .returned (.bool (Qah x.c))/\Own w no w' []):=by
 refine Qal (n:=118) func29 rfl ntmps29 rfl ?_
 have Y:=Own.start w
 have hkn:=hx.kn
 obtain ⟨hkd1,hkd2⟩:=hx.kd
 obtain ⟨htt1,htt2⟩:=hx.tt
 refine Qae (Qab (Qaa (Qb4 (V:=.agg (msv x).toArray) (cs:=msv x) rfl rfl Y fun b1 w2 Y=>(Qaa (Qak (.bool false) (Qad (Qae (Qae (Qa2 (so 4 9) [] [0,1,3,7,15,31,63,127,255] [pv (Pq b1 (0+1)),pv (.int .u8 x.c.frm),pv (.bool (decide (16<=x.c.frm))),pv (.bool (decide (16<=x.c.frm))),pg ((decide (16<=x.c.frm)) == false) (Pq b1 (0+2)),pg ((decide (16<=x.c.frm)) == false) (.agg (vc x.c.known).toArray),pg ((decide (16<=x.c.frm)) == false) (.bool (QaE x.c.known 16)),pg ((decide (16<=x.c.frm)) == false) (.bool (!(QaE x.c.known 16))),pv (.bool ((decide (16<=x.c.frm))||(!(QaE x.c.known 16))))] (fun _ _=>_) [8] (by kernel_rfl) Y ⟨?_,?_,?_,?_,?_,?_,?_,?_,?_,trivial⟩ ?_)))))))))
 ·exact oi [] fun Y=>Qac Qh1 rfl (Zz Y)
 ·exact oi [0] fun Y=>QaY (.int .u8 x.c.frm) QcG Y 0 (Zz Y)
 ·exact oi [1] fun Y=>Qdj rfl rfl (Zz Y)
 ·exact oi [2] fun Y=>Qag (.bool (decide (16<=x.c.frm))) (Zz Y)
 ·exact ogi [3] fun hG Y=>Qac Qgp rfl (Zz Y)
 ·exact oyi [3,4] [4] fun hG Y=>Qez (vs:=vc x.c.known) QbC Y 0 rfl rfl rfl rfl (Zz Y)
 ·exact oyi [3,5] [5] fun hG Y=>QaH (vs:=[.agg (vc x.c.known).toArray,.int .i64 16]) (V:=.bool (QaE x.c.known 16)) QuC rfl rfl (QiX _ x.c.known 16 (by first|assumption|exact QeZ)) Y fun _ Y=>Zz Y
 ·exact oyi [3,6] [6] fun hG Y=>Qb6 rfl (Zz Y)
 ·exact oi [3,7] fun Y=>QbL (h':=!(QaE x.c.known 16)) rfl rfl rfl (Zz Y)
 rintro J1 w4 J2 hJ Y
 replace hJ:J2=upd (mix (sq 4 9) J1 _) 12 (.bool ((decide (16<=x.c.frm))||(!(QaE x.c.known 16)))):=hJ
 subst hJ
 refine Qaq (t:=(decide (16<=x.c.frm))||(!(QaE x.c.known 16))) rfl (fun c5=>?_) (fun c5=>?_)
 ·
  refine Qae (Qab (Qaa (Qak (.bool false) (Qad (Qat ?_)))))
  refine ⟨_,Qau (V:=.bool false) results29 rfl,(Zr Y ?_)⟩
  exact congrArg Value.bool (Qjl c5).symm
 have c5r:=QdH c5
 replace c5:=QdJ c5
 replace c5:=QQ2 c5
 replace c5r:=Qa3 c5r
 refine Qar (Qae (Qa2 (so 13 14++[some 3]) [] [0,1,3,7,15,31,63,127,255,511,1023,2047,4095,8191,16383] [pv (Pq b1 (0+19)),pv (I6 x.c.idx),pv (.bool (decide (x.c.idx=0))),pv (.bool (decide (x.c.idx=0))),pg ((decide (x.c.idx=0)) == true) (Pq b1 (0+20)),pg ((decide (x.c.idx=0)) == true) (I6 x.c.tot),pg ((decide (x.c.idx=0)) == true) (.bool (decide (x.c.tot=0))),pv (.bool ((decide (x.c.idx=0))&&(decide (x.c.tot=0)))),pv (.bool ((decide (x.c.idx=0))&&(decide (x.c.tot=0)))),pg (((decide (x.c.idx=0))&&(decide (x.c.tot=0))) == true) (Pq b1 (0+21)),pg (((decide (x.c.idx=0))&&(decide (x.c.tot=0))) == true) (.slice x.a2 x.c.b.length x.n2),pg (((decide (x.c.idx=0))&&(decide (x.c.tot=0))) == true) (I6 ((x.c.b.length:Nat):Int)),pg (((decide (x.c.idx=0))&&(decide (x.c.tot=0))) == true) (.bool (decide (x.c.b.length=0))),pv (.bool (((decide (x.c.idx=0))&&(decide (x.c.tot=0)))&&(decide (x.c.b.length=0)))),pv (.bool (QaJ x.c))] (fun _ _=>_) [14] (by kernel_rfl) Y ⟨?_,?_,?_,?_,?_,?_,?_,?_,?_,?_,?_,?_,?_,?_,?_,trivial⟩ ?_))
 ·exact oi [] fun Y=>Qac QdM rfl (Zz Y)
 ·exact oi [0] fun Y=>QaY (.int .i64 x.c.idx) QcS Y 0 (Zz Y)
 ·exact oi [1] fun Y=>Qa5 rfl rfl (Zz Y)
 ·exact oi [2] fun Y=>Qag (.bool (decide (x.c.idx=0))) (Zz Y)
 ·exact ogi [3] fun hG Y=>Qac Qdq rfl (Zz Y)
 ·exact oyi [3,4] [4] fun hG Y=>QaY (.int .i64 x.c.tot) QcS Y 0 (Zz Y)
 ·exact oyi [3,5] [5] fun hG Y=>Qa5 rfl rfl (Zz Y)
 ·exact oi [3,6] fun Y=>Qa0 (h':=decide (x.c.tot=0)) rfl rfl rfl (Zz Y)
 ·exact oi [7] fun Y=>Qag (.bool ((decide (x.c.idx=0))&&(decide (x.c.tot=0)))) (Zz Y)
 ·exact ogi [8] fun hG Y=>Qac Qdu rfl (Zz Y)
 ·exact oyi [8,9] [9] fun hG Y=>QaY (.slice x.a2 x.c.b.length x.n2) QbD Y 0 (Zz Y)
 ·exact oyi [8,10] [10] fun hG Y=>QbR (n:=x.c.b.length) QbJ (RdX.own' hxb Y) (by simp) rfl (Zz Y)
 ·exact oyi [8,11] [11] fun hG Y=>Qas (V:=.bool (decide (((x.c.b.length:Nat):Int)=0))) (V':=.bool (decide (x.c.b.length=0))) (Qa5 rfl rfl ⟨rfl,rfl⟩) (congrArg Value.bool (decide_eq_decide.2 (by omega))) (Zz Y)
 ·exact oi [8,12] fun Y=>Qa0 (h':=decide (x.c.b.length=0)) rfl rfl rfl (Zz Y)
 ·exact oi [13] fun Y=>Qas (V:=.bool (((decide (x.c.idx=0))&&(decide (x.c.tot=0)))&&(decide (x.c.b.length=0)))) (V':=.bool (QaJ x.c)) (Qak (.bool (((decide (x.c.idx=0))&&(decide (x.c.tot=0)))&&(decide (x.c.b.length=0)))) ⟨rfl,rfl⟩) rfl (Zz Y)
 rintro J1 w6 J2 hJ Y
 replace hJ:J2=upd (mix (sq 13 14++[3]) J1 _) 3 (.bool (QaJ x.c)):=hJ
 subst hJ
 refine Qae (Qae (Qab (Qaa (Qac Qew rfl (Qaa (QaY (I6 x.c.kind) QcS Y 0 (Qad (Qay (Qae (Qab (Qaa (Qa5 rfl rfl (Qaa (Qak (.bool (decide (x.c.kind=1))) (Qad (Qaq (t:=decide (x.c.kind=1)) rfl (fun c7=>?_) (fun c7=>?_)))))))))))))))))
 ·
  replace c7:=QQ1 c7
  refine Qae (Qa2 (so 31 7++[some 2]) [] [0,1,3,7,15,31,63,127] [pv (.bool (QaJ x.c)),pv (.bool (QaJ x.c)),pg ((QaJ x.c) == true) (Pq b1 (0+18)),pg ((QaJ x.c) == true) (.slice x.a x.c.ops.length x.n),pg ((QaJ x.c) == true) (I6 ((x.c.ops.length:Nat):Int)),pg ((QaJ x.c) == true) (.bool (decide (x.c.ops.length=0))),pv (.bool ((QaJ x.c)&&(decide (x.c.ops.length=0)))),pv (.bool ((QaJ x.c)&&(decide (x.c.ops.length=0))))] (fun _ _=>_) [7] (by kernel_rfl) Y ⟨?_,?_,?_,?_,?_,?_,?_,?_,trivial⟩ ?_)
  ·exact oi [] fun Y=>Qag (.bool (QaJ x.c)) (Zz Y)
  ·exact oi [0] fun Y=>Qag (.bool (QaJ x.c)) (Zz Y)
  ·exact ogi [1] fun hG Y=>Qac Qb8 rfl (Zz Y)
  ·exact oyi [1,2] [2] fun hG Y=>QaY (.slice x.a x.c.ops.length x.n) Qc3 Y 0 (Zz Y)
  ·exact oyi [1,3] [3] fun hG Y=>QbR (n:=x.c.ops.length) Qc9 (RdX.own' hxo Y) (by simp) rfl (Zz Y)
  ·exact oyi [1,4] [4] fun hG Y=>Qas (V:=.bool (decide (((x.c.ops.length:Nat):Int)=0))) (V':=.bool (decide (x.c.ops.length=0))) (Qa5 rfl rfl ⟨rfl,rfl⟩) (congrArg Value.bool (decide_eq_decide.2 (by omega))) (Zz Y)
  ·exact oi [1,5] fun Y=>Qa0 (h':=decide (x.c.ops.length=0)) rfl rfl rfl (Zz Y)
  ·exact oi [6] fun Y=>Qak (.bool ((QaJ x.c)&&(decide (x.c.ops.length=0)))) (Zz Y)
  rintro J1 w8 J2 hJ Y
  replace hJ:J2=upd (mix (sq 31 7++[2]) J1 _) 2 (.bool ((QaJ x.c)&&(decide (x.c.ops.length=0)))):=hJ
  subst hJ
  refine Qat ?_
  refine ⟨_,Qau (V:=.bool ((QaJ x.c)&&(decide (x.c.ops.length=0)))) results29 rfl,(Zr Y (congrArg Value.bool ?_))⟩
  rw [Qcy c5 c5r]
  rw [Qmp c7]<;>rfl
 replace c7:=QQ2 c7
 refine Qae (Qab (Qaa (Qa5 rfl rfl (Qaa (Qak (.bool (decide (x.c.kind=2))) (Qad (Qaq (t:=decide (x.c.kind=2)) rfl (fun c9=>?_) (fun c9=>?_))))))))
 ·
  replace c9:=QQ1 c9
  refine Qae (Qa2 (so 40 24++[some 2]) [] [0,1,3,7,3,31,63,127,255,511,1023,2047,4095,8191,16383,32767,65535,131071,262143,524287,1048575,2097151,4194303,8388607,16777215] [pv (.bool (QaJ x.c)),pv (.bool (QaJ x.c)),pg ((QaJ x.c) == true) (Pq b1 (0+2)),pg ((QaJ x.c) == true) (.agg (vc x.c.known).toArray),pg ((QaJ x.c) == true) (.agg (vc vzero).toArray),pg ((QaJ x.c) == true) (.bool (decide (x.c.known=vzero))),pv (.bool ((QaJ x.c)&&(decide (x.c.known=vzero)))),pv (.bool ((QaJ x.c)&&(decide (x.c.known=vzero)))),pg (((QaJ x.c)&&(decide (x.c.known=vzero))) == true) (Pq b1 (0+18)),pg (((QaJ x.c)&&(decide (x.c.known=vzero))) == true) (.slice x.a x.c.ops.length x.n),pg (((QaJ x.c)&&(decide (x.c.known=vzero))) == true) (I6 ((x.c.ops.length:Nat):Int)),pg (((QaJ x.c)&&(decide (x.c.known=vzero))) == true) (.bool (decide (1<=x.c.ops.length))),pv (.bool (((QaJ x.c)&&(decide (x.c.known=vzero)))&&(decide (1<=x.c.ops.length)))),pv (.bool (((QaJ x.c)&&(decide (x.c.known=vzero)))&&(decide (1<=x.c.ops.length)))),pg ((((QaJ x.c)&&(decide (x.c.known=vzero)))&&(decide (1<=x.c.ops.length))) == true) (Pq b1 (0+18)),pg ((((QaJ x.c)&&(decide (x.c.known=vzero)))&&(decide (1<=x.c.ops.length))) == true) (.slice x.a x.c.ops.length x.n),pg ((((QaJ x.c)&&(decide (x.c.known=vzero)))&&(decide (1<=x.c.ops.length))) == true) (I6 ((x.c.ops.length:Nat):Int)),pg ((((QaJ x.c)&&(decide (x.c.known=vzero)))&&(decide (1<=x.c.ops.length))) == true) (.bool (decide (x.c.ops.length<=16))),pv (.bool ((((QaJ x.c)&&(decide (x.c.known=vzero)))&&(decide (1<=x.c.ops.length)))&&(decide (x.c.ops.length<=16)))),pv (.bool ((((QaJ x.c)&&(decide (x.c.known=vzero)))&&(decide (1<=x.c.ops.length)))&&(decide (x.c.ops.length<=16)))),pg (((((QaJ x.c)&&(decide (x.c.known=vzero)))&&(decide (1<=x.c.ops.length)))&&(decide (x.c.ops.length<=16))) == true) (Pq b1 (0+18)),pg (((((QaJ x.c)&&(decide (x.c.known=vzero)))&&(decide (1<=x.c.ops.length)))&&(decide (x.c.ops.length<=16))) == true) (.slice x.a x.c.ops.length x.n),pg (((((QaJ x.c)&&(decide (x.c.known=vzero)))&&(decide (1<=x.c.ops.length)))&&(decide (x.c.ops.length<=16))) == true) (.bool (x.c.ops.all QaI)),pv (.bool (((((QaJ x.c)&&(decide (x.c.known=vzero)))&&(decide (1<=x.c.ops.length)))&&(decide (x.c.ops.length<=16)))&&(x.c.ops.all QaI))),pv (.bool (((((QaJ x.c)&&(decide (x.c.known=vzero)))&&(decide (1<=x.c.ops.length)))&&(decide (x.c.ops.length<=16)))&&(x.c.ops.all QaI)))] (fun _ _=>_) [24] (by kernel_rfl) Y ⟨?_,?_,?_,?_,?_,?_,?_,?_,?_,?_,?_,?_,?_,?_,?_,?_,?_,?_,?_,?_,?_,?_,?_,?_,?_,trivial⟩ ?_)
  ·exact oi [] fun Y=>Qag (.bool (QaJ x.c)) (Zz Y)
  ·exact oi [0] fun Y=>Qag (.bool (QaJ x.c)) (Zz Y)
  ·exact ogi [1] fun hG Y=>Qac Qgp rfl (Zz Y)
  ·exact oyi [1,2] [2] fun hG Y=>Qez (vs:=vc x.c.known) QbC Y 0 rfl rfl rfl rfl (Zz Y)
  ·exact ogi [1] fun hG Y=>Qbz (vs:=[]) (cs:=vc vzero) Qjw (rfl) rfl (Zz Y)
  ·exact oyi [1,3,4] [3,4] fun hG Y=>Qun (xs:=vc x.c.known) (ys:=vc vzero) eqGuardType36 (Qo1 x.c.known vzero) rfl rfl rfl (Zz Y)
  ·exact oi [1,5] fun Y=>Qa0 (h':=decide (x.c.known=vzero)) rfl rfl rfl (Zz Y)
  ·exact oi [6] fun Y=>Qag (.bool ((QaJ x.c)&&(decide (x.c.known=vzero)))) (Zz Y)
  ·exact ogi [7] fun hG Y=>Qac Qb8 rfl (Zz Y)
  ·exact oyi [7,8] [8] fun hG Y=>QaY (.slice x.a x.c.ops.length x.n) Qc3 Y 0 (Zz Y)
  ·exact oyi [7,9] [9] fun hG Y=>QbR (n:=x.c.ops.length) Qc9 (RdX.own' hxo Y) (by simp) rfl (Zz Y)
  ·exact oyi [7,10] [10] fun hG Y=>Qas (V:=.bool (decide (1<=((x.c.ops.length:Nat):Int)))) (V':=.bool (decide (1<=x.c.ops.length))) (Qdj rfl rfl ⟨rfl,rfl⟩) (congrArg Value.bool (decide_eq_decide.2 (by omega))) (Zz Y)
  ·exact oi [7,11] fun Y=>Qa0 (h':=decide (1<=x.c.ops.length)) rfl rfl rfl (Zz Y)
  ·exact oi [12] fun Y=>Qag (.bool (((QaJ x.c)&&(decide (x.c.known=vzero)))&&(decide (1<=x.c.ops.length)))) (Zz Y)
  ·exact ogi [13] fun hG Y=>Qac Qb8 rfl (Zz Y)
  ·exact oyi [13,14] [14] fun hG Y=>QaY (.slice x.a x.c.ops.length x.n) Qc3 Y 0 (Zz Y)
  ·exact oyi [13,15] [15] fun hG Y=>QbR (n:=x.c.ops.length) Qc9 (RdX.own' hxo Y) (by simp) rfl (Zz Y)
  ·exact oyi [13,16] [16] fun hG Y=>Qas (V:=.bool (decide (((x.c.ops.length:Nat):Int)<=16))) (V':=.bool (decide (x.c.ops.length<=16))) (QfU rfl rfl ⟨rfl,rfl⟩) (congrArg Value.bool (decide_eq_decide.2 (by omega))) (Zz Y)
  ·exact oi [13,17] fun Y=>Qa0 (h':=decide (x.c.ops.length<=16)) rfl rfl rfl (Zz Y)
  ·exact oi [18] fun Y=>Qag (.bool ((((QaJ x.c)&&(decide (x.c.known=vzero)))&&(decide (1<=x.c.ops.length)))&&(decide (x.c.ops.length<=16)))) (Zz Y)
  ·exact ogi [19] fun hG Y=>Qac Qb8 rfl (Zz Y)
  ·exact oyi [19,20] [20] fun hG Y=>QaY (.slice x.a x.c.ops.length x.n) Qc3 Y 0 (Zz Y)
  ·refine oyi [19,21] [21] fun hG Y=>?_
   have hg9:=eq_of_beq hG
   simp only [Bool.and_eq_true,decide_eq_true_eq] at hg9
   have hg8:x.c.ops.length<=16:=hg9.2
   exact QaH (vs:=[.slice x.a x.c.ops.length x.n]) (V:=.bool (x.c.ops.all QaI)) QvZ rfl rfl (QsA _ x.a x.n x.c.ops hx.op (RdX.own' hxo Y) (by omega)) Y fun _ Y=>Zz Y
  ·exact oi [19,22] fun Y=>Qa0 (h':=x.c.ops.all QaI) rfl rfl rfl (Zz Y)
  ·exact oi [23] fun Y=>Qak (.bool (((((QaJ x.c)&&(decide (x.c.known=vzero)))&&(decide (1<=x.c.ops.length)))&&(decide (x.c.ops.length<=16)))&&(x.c.ops.all QaI))) (Zz Y)
  rintro J1 w11 J2 hJ Y
  replace hJ:J2=upd (mix (sq 40 24++[2]) J1 _) 2 (.bool (((((QaJ x.c)&&(decide (x.c.known=vzero)))&&(decide (1<=x.c.ops.length)))&&(decide (x.c.ops.length<=16)))&&(x.c.ops.all QaI))):=hJ
  subst hJ
  refine Qat ?_
  refine ⟨_,Qau (V:=.bool (((((QaJ x.c)&&(decide (x.c.known=vzero)))&&(decide (1<=x.c.ops.length)))&&(decide (x.c.ops.length<=16)))&&(x.c.ops.all QaI))) results29 rfl,(Zr Y (congrArg Value.bool ?_))⟩
  rw [Qcy c5 c5r]
  rw [Qom c7 c9]
  unfold Qur<;>first|rfl|simp only [Bool.and_assoc]
 replace c9:=QQ2 c9
 refine Qae (Qab (Qaa (Qa5 rfl rfl (Qaa (Qak (.bool (decide (x.c.kind=3))) (Qad (Qaq (t:=decide (x.c.kind=3)) rfl (fun c12=>?_) (fun c12=>?_))))))))
 ·
  replace c12:=QQ1 c12
  refine Qae (Qa2 (so 66 52++[some 2]) [] [0,1,3,7,15,31,63,127,255,511,1023,2047,4095,8191,16383,32767,65535,131071,262143,524287,1048575,2097151,1048575,5242879,16777215,33554431,67108863,134217727,268435455,536870911,1073741823,2147483647,4294967295,8589934591,17179869183,34359738367,68719476735,137438953471,274877906943,549755813887,1099511627775,2199023255551,4398046511103,8796093022207,17592186044415,35184372088831,17592186044415,87960930222079,228698418577407,562949953421311,1125899906842623,2251799813685247,4503599627370495] [pv (Pq b1 (0+18)),pv (.slice x.a x.c.ops.length x.n),pv (I6 ((x.c.ops.length:Nat):Int)),pv (.bool (decide (x.c.ops.length=0))),pv (.bool (decide (x.c.ops.length=0))),pg ((decide (x.c.ops.length=0)) == true) (Pq b1 (0+20)),pg ((decide (x.c.ops.length=0)) == true) (I6 x.c.tot),pg ((decide (x.c.ops.length=0)) == true) (.bool (decide (1<=x.c.tot))),pv (.bool ((decide (x.c.ops.length=0))&&(decide (1<=x.c.tot)))),pv (.bool ((decide (x.c.ops.length=0))&&(decide (1<=x.c.tot)))),pg (((decide (x.c.ops.length=0))&&(decide (1<=x.c.tot))) == true) (Pq b1 (0+20)),pg (((decide (x.c.ops.length=0))&&(decide (1<=x.c.tot))) == true) (I6 x.c.tot),pg (((decide (x.c.ops.length=0))&&(decide (1<=x.c.tot))) == true) (.bool (decide (x.c.tot<=64))),pv (.bool (((decide (x.c.ops.length=0))&&(decide (1<=x.c.tot)))&&(decide (x.c.tot<=64)))),pv (.bool (((decide (x.c.ops.length=0))&&(decide (1<=x.c.tot)))&&(decide (x.c.tot<=64)))),pg ((((decide (x.c.ops.length=0))&&(decide (1<=x.c.tot)))&&(decide (x.c.tot<=64))) == true) (Pq b1 (0+19)),pg ((((decide (x.c.ops.length=0))&&(decide (1<=x.c.tot)))&&(decide (x.c.tot<=64))) == true) (I6 x.c.idx),pg ((((decide (x.c.ops.length=0))&&(decide (1<=x.c.tot)))&&(decide (x.c.tot<=64))) == true) (.bool (decide (0<=x.c.idx))),pv (.bool ((((decide (x.c.ops.length=0))&&(decide (1<=x.c.tot)))&&(decide (x.c.tot<=64)))&&(decide (0<=x.c.idx)))),pv (.bool ((((decide (x.c.ops.length=0))&&(decide (1<=x.c.tot)))&&(decide (x.c.tot<=64)))&&(decide (0<=x.c.idx)))),pg (((((decide (x.c.ops.length=0))&&(decide (1<=x.c.tot)))&&(decide (x.c.tot<=64)))&&(decide (0<=x.c.idx))) == true) (Pq b1 (0+19)),pg (((((decide (x.c.ops.length=0))&&(decide (1<=x.c.tot)))&&(decide (x.c.tot<=64)))&&(decide (0<=x.c.idx))) == true) (I6 x.c.idx),pg (((((decide (x.c.ops.length=0))&&(decide (1<=x.c.tot)))&&(decide (x.c.tot<=64)))&&(decide (0<=x.c.idx))) == true) (Pq b1 (0+20)),pg (((((decide (x.c.ops.length=0))&&(decide (1<=x.c.tot)))&&(decide (x.c.tot<=64)))&&(decide (0<=x.c.idx))) == true) (I6 x.c.tot),pg (((((decide (x.c.ops.length=0))&&(decide (1<=x.c.tot)))&&(decide (x.c.tot<=64)))&&(decide (0<=x.c.idx))) == true) (.bool (decide (x.c.idx<x.c.tot))),pv (.bool (((((decide (x.c.ops.length=0))&&(decide (1<=x.c.tot)))&&(decide (x.c.tot<=64)))&&(decide (0<=x.c.idx)))&&(decide (x.c.idx<x.c.tot)))),pv (.bool (((((decide (x.c.ops.length=0))&&(decide (1<=x.c.tot)))&&(decide (x.c.tot<=64)))&&(decide (0<=x.c.idx)))&&(decide (x.c.idx<x.c.tot)))),pg ((((((decide (x.c.ops.length=0))&&(decide (1<=x.c.tot)))&&(decide (x.c.tot<=64)))&&(decide (0<=x.c.idx)))&&(decide (x.c.idx<x.c.tot))) == true) (Pq b1 (0+21)),pg ((((((decide (x.c.ops.length=0))&&(decide (1<=x.c.tot)))&&(decide (x.c.tot<=64)))&&(decide (0<=x.c.idx)))&&(decide (x.c.idx<x.c.tot))) == true) (.slice x.a2 x.c.b.length x.n2),pg ((((((decide (x.c.ops.length=0))&&(decide (1<=x.c.tot)))&&(decide (x.c.tot<=64)))&&(decide (0<=x.c.idx)))&&(decide (x.c.idx<x.c.tot))) == true) (I6 ((x.c.b.length:Nat):Int)),pg ((((((decide (x.c.ops.length=0))&&(decide (1<=x.c.tot)))&&(decide (x.c.tot<=64)))&&(decide (0<=x.c.idx)))&&(decide (x.c.idx<x.c.tot))) == true) (.bool (decide (1<=x.c.b.length))),pv (.bool ((((((decide (x.c.ops.length=0))&&(decide (1<=x.c.tot)))&&(decide (x.c.tot<=64)))&&(decide (0<=x.c.idx)))&&(decide (x.c.idx<x.c.tot)))&&(decide (1<=x.c.b.length)))),pv (.bool ((((((decide (x.c.ops.length=0))&&(decide (1<=x.c.tot)))&&(decide (x.c.tot<=64)))&&(decide (0<=x.c.idx)))&&(decide (x.c.idx<x.c.tot)))&&(decide (1<=x.c.b.length)))),pg (((((((decide (x.c.ops.length=0))&&(decide (1<=x.c.tot)))&&(decide (x.c.tot<=64)))&&(decide (0<=x.c.idx)))&&(decide (x.c.idx<x.c.tot)))&&(decide (1<=x.c.b.length))) == true) (Pq b1 (0+21)),pg (((((((decide (x.c.ops.length=0))&&(decide (1<=x.c.tot)))&&(decide (x.c.tot<=64)))&&(decide (0<=x.c.idx)))&&(decide (x.c.idx<x.c.tot)))&&(decide (1<=x.c.b.length))) == true) (.slice x.a2 x.c.b.length x.n2),pg (((((((decide (x.c.ops.length=0))&&(decide (1<=x.c.tot)))&&(decide (x.c.tot<=64)))&&(decide (0<=x.c.idx)))&&(decide (x.c.idx<x.c.tot)))&&(decide (1<=x.c.b.length))) == true) (I6 ((x.c.b.length:Nat):Int)),pg (((((((decide (x.c.ops.length=0))&&(decide (1<=x.c.tot)))&&(decide (x.c.tot<=64)))&&(decide (0<=x.c.idx)))&&(decide (x.c.idx<x.c.tot)))&&(decide (1<=x.c.b.length))) == true) (.bool (decide (x.c.b.length<=2000))),pv (.bool (((((((decide (x.c.ops.length=0))&&(decide (1<=x.c.tot)))&&(decide (x.c.tot<=64)))&&(decide (0<=x.c.idx)))&&(decide (x.c.idx<x.c.tot)))&&(decide (1<=x.c.b.length)))&&(decide (x.c.b.length<=2000)))),pv (.bool (((((((decide (x.c.ops.length=0))&&(decide (1<=x.c.tot)))&&(decide (x.c.tot<=64)))&&(decide (0<=x.c.idx)))&&(decide (x.c.idx<x.c.tot)))&&(decide (1<=x.c.b.length)))&&(decide (x.c.b.length<=2000)))),pg ((((((((decide (x.c.ops.length=0))&&(decide (1<=x.c.tot)))&&(decide (x.c.tot<=64)))&&(decide (0<=x.c.idx)))&&(decide (x.c.idx<x.c.tot)))&&(decide (1<=x.c.b.length)))&&(decide (x.c.b.length<=2000))) == true) (Pq b1 (0+21)),pg ((((((((decide (x.c.ops.length=0))&&(decide (1<=x.c.tot)))&&(decide (x.c.tot<=64)))&&(decide (0<=x.c.idx)))&&(decide (x.c.idx<x.c.tot)))&&(decide (1<=x.c.b.length)))&&(decide (x.c.b.length<=2000))) == true) (.slice x.a2 x.c.b.length x.n2),pg ((((((((decide (x.c.ops.length=0))&&(decide (1<=x.c.tot)))&&(decide (x.c.tot<=64)))&&(decide (0<=x.c.idx)))&&(decide (x.c.idx<x.c.tot)))&&(decide (1<=x.c.b.length)))&&(decide (x.c.b.length<=2000))) == true) (I6 ((x.c.b.length:Nat):Int)),pg ((((((((decide (x.c.ops.length=0))&&(decide (1<=x.c.tot)))&&(decide (x.c.tot<=64)))&&(decide (0<=x.c.idx)))&&(decide (x.c.idx<x.c.tot)))&&(decide (1<=x.c.b.length)))&&(decide (x.c.b.length<=2000))) == true) (.bool (decide (x.c.b.length=2000))),pg ((((((((decide (x.c.ops.length=0))&&(decide (1<=x.c.tot)))&&(decide (x.c.tot<=64)))&&(decide (0<=x.c.idx)))&&(decide (x.c.idx<x.c.tot)))&&(decide (1<=x.c.b.length)))&&(decide (x.c.b.length<=2000))) == true) (.bool (decide (x.c.b.length=2000))),pg (((((((((decide (x.c.ops.length=0))&&(decide (1<=x.c.tot)))&&(decide (x.c.tot<=64)))&&(decide (0<=x.c.idx)))&&(decide (x.c.idx<x.c.tot)))&&(decide (1<=x.c.b.length)))&&(decide (x.c.b.length<=2000))) == true)&&((decide (x.c.b.length=2000)) == false)) (Pq b1 (0+19)),pg (((((((((decide (x.c.ops.length=0))&&(decide (1<=x.c.tot)))&&(decide (x.c.tot<=64)))&&(decide (0<=x.c.idx)))&&(decide (x.c.idx<x.c.tot)))&&(decide (1<=x.c.b.length)))&&(decide (x.c.b.length<=2000))) == true)&&((decide (x.c.b.length=2000)) == false)) (I6 x.c.idx),pg (((((((((decide (x.c.ops.length=0))&&(decide (1<=x.c.tot)))&&(decide (x.c.tot<=64)))&&(decide (0<=x.c.idx)))&&(decide (x.c.idx<x.c.tot)))&&(decide (1<=x.c.b.length)))&&(decide (x.c.b.length<=2000))) == true)&&((decide (x.c.b.length=2000)) == false)) (Pq b1 (0+20)),pg (((((((((decide (x.c.ops.length=0))&&(decide (1<=x.c.tot)))&&(decide (x.c.tot<=64)))&&(decide (0<=x.c.idx)))&&(decide (x.c.idx<x.c.tot)))&&(decide (1<=x.c.b.length)))&&(decide (x.c.b.length<=2000))) == true)&&((decide (x.c.b.length=2000)) == false)) (I6 x.c.tot),pg (((((((((decide (x.c.ops.length=0))&&(decide (1<=x.c.tot)))&&(decide (x.c.tot<=64)))&&(decide (0<=x.c.idx)))&&(decide (x.c.idx<x.c.tot)))&&(decide (1<=x.c.b.length)))&&(decide (x.c.b.length<=2000))) == true)&&((decide (x.c.b.length=2000)) == false)) (I6 (IntKind.i64.wrap (x.c.tot-1))),pg (((((((((decide (x.c.ops.length=0))&&(decide (1<=x.c.tot)))&&(decide (x.c.tot<=64)))&&(decide (0<=x.c.idx)))&&(decide (x.c.idx<x.c.tot)))&&(decide (1<=x.c.b.length)))&&(decide (x.c.b.length<=2000))) == true)&&((decide (x.c.b.length=2000)) == false)) (.bool (decide (x.c.idx=IntKind.i64.wrap (x.c.tot-1)))),pg ((((((((decide (x.c.ops.length=0))&&(decide (1<=x.c.tot)))&&(decide (x.c.tot<=64)))&&(decide (0<=x.c.idx)))&&(decide (x.c.idx<x.c.tot)))&&(decide (1<=x.c.b.length)))&&(decide (x.c.b.length<=2000))) == true) (.bool ((decide (x.c.b.length=2000))||(decide (x.c.idx=IntKind.i64.wrap (x.c.tot-1))))),pv (.bool ((((((((decide (x.c.ops.length=0))&&(decide (1<=x.c.tot)))&&(decide (x.c.tot<=64)))&&(decide (0<=x.c.idx)))&&(decide (x.c.idx<x.c.tot)))&&(decide (1<=x.c.b.length)))&&(decide (x.c.b.length<=2000)))&&((decide (x.c.b.length=2000))||(decide (x.c.idx=IntKind.i64.wrap (x.c.tot-1)))))),pv (.bool ((((((((decide (x.c.ops.length=0))&&(decide (1<=x.c.tot)))&&(decide (x.c.tot<=64)))&&(decide (0<=x.c.idx)))&&(decide (x.c.idx<x.c.tot)))&&(decide (1<=x.c.b.length)))&&(decide (x.c.b.length<=2000)))&&((decide (x.c.b.length=2000))||(decide (x.c.idx=IntKind.i64.wrap (x.c.tot-1))))))] (fun _ _=>_) [52] (by kernel_rfl) Y ⟨?_,?_,?_,?_,?_,?_,?_,?_,?_,?_,?_,?_,?_,?_,?_,?_,?_,?_,?_,?_,?_,?_,?_,?_,?_,?_,?_,?_,?_,?_,?_,?_,?_,?_,?_,?_,?_,?_,?_,?_,?_,?_,?_,?_,?_,?_,?_,?_,?_,?_,?_,?_,?_,trivial⟩ ?_)
  ·exact oi [] fun Y=>Qac Qb8 rfl (Zz Y)
  ·exact oi [0] fun Y=>QaY (.slice x.a x.c.ops.length x.n) Qc3 Y 0 (Zz Y)
  ·exact oi [1] fun Y=>QbR (n:=x.c.ops.length) Qc9 (RdX.own' hxo Y) (by simp) rfl (Zz Y)
  ·exact oi [2] fun Y=>Qas (V:=.bool (decide (((x.c.ops.length:Nat):Int)=0))) (V':=.bool (decide (x.c.ops.length=0))) (Qa5 rfl rfl ⟨rfl,rfl⟩) (congrArg Value.bool (decide_eq_decide.2 (by omega))) (Zz Y)
  ·exact oi [3] fun Y=>Qag (.bool (decide (x.c.ops.length=0))) (Zz Y)
  ·exact ogi [4] fun hG Y=>Qac Qdq rfl (Zz Y)
  ·exact oyi [4,5] [5] fun hG Y=>QaY (.int .i64 x.c.tot) QcS Y 0 (Zz Y)
  ·exact oyi [4,6] [6] fun hG Y=>Qdj rfl rfl (Zz Y)
  ·exact oi [4,7] fun Y=>Qa0 (h':=decide (1<=x.c.tot)) rfl rfl rfl (Zz Y)
  ·exact oi [8] fun Y=>Qag (.bool ((decide (x.c.ops.length=0))&&(decide (1<=x.c.tot)))) (Zz Y)
  ·exact ogi [9] fun hG Y=>Qac Qdq rfl (Zz Y)
  ·exact oyi [9,10] [10] fun hG Y=>QaY (.int .i64 x.c.tot) QcS Y 0 (Zz Y)
  ·exact oyi [9,11] [11] fun hG Y=>QfU rfl rfl (Zz Y)
  ·exact oi [9,12] fun Y=>Qa0 (h':=decide (x.c.tot<=64)) rfl rfl rfl (Zz Y)
  ·exact oi [13] fun Y=>Qag (.bool (((decide (x.c.ops.length=0))&&(decide (1<=x.c.tot)))&&(decide (x.c.tot<=64)))) (Zz Y)
  ·exact ogi [14] fun hG Y=>Qac QdM rfl (Zz Y)
  ·exact oyi [14,15] [15] fun hG Y=>QaY (.int .i64 x.c.idx) QcS Y 0 (Zz Y)
  ·exact oyi [14,16] [16] fun hG Y=>Qdj rfl rfl (Zz Y)
  ·exact oi [14,17] fun Y=>Qa0 (h':=decide (0<=x.c.idx)) rfl rfl rfl (Zz Y)
  ·exact oi [18] fun Y=>Qag (.bool ((((decide (x.c.ops.length=0))&&(decide (1<=x.c.tot)))&&(decide (x.c.tot<=64)))&&(decide (0<=x.c.idx)))) (Zz Y)
  ·exact ogi [19] fun hG Y=>Qac QdM rfl (Zz Y)
  ·exact oyi [19,20] [20] fun hG Y=>QaY (.int .i64 x.c.idx) QcS Y 0 (Zz Y)
  ·exact ogi [19] fun hG Y=>Qac Qdq rfl (Zz Y)
  ·exact oyi [19,22] [22] fun hG Y=>QaY (.int .i64 x.c.tot) QcS Y 0 (Zz Y)
  ·exact oyi [19,21,23] [21,23] fun hG Y=>QbQ rfl rfl (Zz Y)
  ·exact oi [19,24] fun Y=>Qa0 (h':=decide (x.c.idx<x.c.tot)) rfl rfl rfl (Zz Y)
  ·exact oi [25] fun Y=>Qag (.bool (((((decide (x.c.ops.length=0))&&(decide (1<=x.c.tot)))&&(decide (x.c.tot<=64)))&&(decide (0<=x.c.idx)))&&(decide (x.c.idx<x.c.tot)))) (Zz Y)
  ·exact ogi [26] fun hG Y=>Qac Qdu rfl (Zz Y)
  ·exact oyi [26,27] [27] fun hG Y=>QaY (.slice x.a2 x.c.b.length x.n2) QbD Y 0 (Zz Y)
  ·exact oyi [26,28] [28] fun hG Y=>QbR (n:=x.c.b.length) QbJ (RdX.own' hxb Y) (by simp) rfl (Zz Y)
  ·exact oyi [26,29] [29] fun hG Y=>Qas (V:=.bool (decide (1<=((x.c.b.length:Nat):Int)))) (V':=.bool (decide (1<=x.c.b.length))) (Qdj rfl rfl ⟨rfl,rfl⟩) (congrArg Value.bool (decide_eq_decide.2 (by omega))) (Zz Y)
  ·exact oi [26,30] fun Y=>Qa0 (h':=decide (1<=x.c.b.length)) rfl rfl rfl (Zz Y)
  ·exact oi [31] fun Y=>Qag (.bool ((((((decide (x.c.ops.length=0))&&(decide (1<=x.c.tot)))&&(decide (x.c.tot<=64)))&&(decide (0<=x.c.idx)))&&(decide (x.c.idx<x.c.tot)))&&(decide (1<=x.c.b.length)))) (Zz Y)
  ·exact ogi [32] fun hG Y=>Qac Qdu rfl (Zz Y)
  ·exact oyi [32,33] [33] fun hG Y=>QaY (.slice x.a2 x.c.b.length x.n2) QbD Y 0 (Zz Y)
  ·exact oyi [32,34] [34] fun hG Y=>QbR (n:=x.c.b.length) QbJ (RdX.own' hxb Y) (by simp) rfl (Zz Y)
  ·exact oyi [32,35] [35] fun hG Y=>Qas (V:=.bool (decide (((x.c.b.length:Nat):Int)<=2000))) (V':=.bool (decide (x.c.b.length<=2000))) (QfU rfl rfl ⟨rfl,rfl⟩) (congrArg Value.bool (decide_eq_decide.2 (by omega))) (Zz Y)
  ·exact oi [32,36] fun Y=>Qa0 (h':=decide (x.c.b.length<=2000)) rfl rfl rfl (Zz Y)
  ·exact oi [37] fun Y=>Qag (.bool (((((((decide (x.c.ops.length=0))&&(decide (1<=x.c.tot)))&&(decide (x.c.tot<=64)))&&(decide (0<=x.c.idx)))&&(decide (x.c.idx<x.c.tot)))&&(decide (1<=x.c.b.length)))&&(decide (x.c.b.length<=2000)))) (Zz Y)
  ·exact ogi [38] fun hG Y=>Qac Qdu rfl (Zz Y)
  ·exact oyi [38,39] [39] fun hG Y=>QaY (.slice x.a2 x.c.b.length x.n2) QbD Y 0 (Zz Y)
  ·exact oyi [38,40] [40] fun hG Y=>QbR (n:=x.c.b.length) QbJ (RdX.own' hxb Y) (by simp) rfl (Zz Y)
  ·exact oyi [38,41] [41] fun hG Y=>Qas (V:=.bool (decide (((x.c.b.length:Nat):Int)=2000))) (V':=.bool (decide (x.c.b.length=2000))) (Qa5 rfl rfl ⟨rfl,rfl⟩) (congrArg Value.bool (decide_eq_decide.2 (by omega))) (Zz Y)
  ·exact oyi [38,42] [42] fun hG Y=>Qag (.bool (decide (x.c.b.length=2000))) (Zz Y)
  ·exact ogi [43] fun hG Y=>Qac QdM rfl (Zz Y)
  ·exact oyi [43,44] [44] fun hG Y=>QaY (.int .i64 x.c.idx) QcS Y 0 (Zz Y)
  ·exact ogi [43] fun hG Y=>Qac Qdq rfl (Zz Y)
  ·exact oyi [43,46] [46] fun hG Y=>QaY (.int .i64 x.c.tot) QcS Y 0 (Zz Y)
  ·exact oyi [43,47] [47] fun hG Y=>Qh2 (a:=x.c.tot) (b:=1) (c:=IntKind.i64.wrap (x.c.tot-1)) rfl rfl rfl (Zz Y)
  ·exact oyi [43,45,48] [45,48] fun hG Y=>Qa5 rfl rfl (Zz Y)
  ·exact oyi [38,43,49] [43] fun hG Y=>Qvk (h':=decide (x.c.idx=IntKind.i64.wrap (x.c.tot-1))) (G:=((((((((decide (x.c.ops.length=0))&&(decide (1<=x.c.tot)))&&(decide (x.c.tot<=64)))&&(decide (0<=x.c.idx)))&&(decide (x.c.idx<x.c.tot)))&&(decide (1<=x.c.b.length)))&&(decide (x.c.b.length<=2000))) == true)) hG rfl rfl rfl (Zz Y)
  ·exact oi [38,50] fun Y=>Qa0 (h':=(decide (x.c.b.length=2000))||(decide (x.c.idx=IntKind.i64.wrap (x.c.tot-1)))) rfl rfl rfl (Zz Y)
  ·exact oi [51] fun Y=>Qak (.bool ((((((((decide (x.c.ops.length=0))&&(decide (1<=x.c.tot)))&&(decide (x.c.tot<=64)))&&(decide (0<=x.c.idx)))&&(decide (x.c.idx<x.c.tot)))&&(decide (1<=x.c.b.length)))&&(decide (x.c.b.length<=2000)))&&((decide (x.c.b.length=2000))||(decide (x.c.idx=IntKind.i64.wrap (x.c.tot-1)))))) (Zz Y)
  rintro J1 w13 J2 hJ Y
  replace hJ:J2=upd (mix (sq 66 52++[2]) J1 _) 2 (.bool ((((((((decide (x.c.ops.length=0))&&(decide (1<=x.c.tot)))&&(decide (x.c.tot<=64)))&&(decide (0<=x.c.idx)))&&(decide (x.c.idx<x.c.tot)))&&(decide (1<=x.c.b.length)))&&(decide (x.c.b.length<=2000)))&&((decide (x.c.b.length=2000))||(decide (x.c.idx=IntKind.i64.wrap (x.c.tot-1)))))):=hJ
  subst hJ
  refine Qat ?_
  refine ⟨_,Qau (V:=.bool ((((((((decide (x.c.ops.length=0))&&(decide (1<=x.c.tot)))&&(decide (x.c.tot<=64)))&&(decide (0<=x.c.idx)))&&(decide (x.c.idx<x.c.tot)))&&(decide (1<=x.c.b.length)))&&(decide (x.c.b.length<=2000)))&&((decide (x.c.b.length=2000))||(decide (x.c.idx=IntKind.i64.wrap (x.c.tot-1)))))) results29 rfl,(Zr Y (congrArg Value.bool ?_))⟩
  rw [Qcy c5 c5r]
  rw [QnV c7 c9 c12,← QpS]<;>first|rfl|simp only [Bool.and_assoc]
 replace c12:=QQ2 c12
 refine Qar (Qae (Qab (Qaa (Qak (.bool false) (Qad (Qat ?_))))))
 refine ⟨_,Qau (V:=.bool false) results29 rfl,(Zr Y (congrArg Value.bool ?_))⟩
 rw [Qcy c5 c5r]
 rw [Qmn c7 c9 c12]
end Tt
end Go.Proofs
namespace Go.Proofs
open Go Go.Vx Go.RowKit
open Tryz
namespace Tt
theorem QmO (m j:Nat):m/128*128 ^ (j+1)<=m*128 ^ j:=by
 rw [Nat.pow_succ,Nat.mul_comm (128 ^ j) 128,← Nat.mul_assoc]
 exact Nat.mul_le_mul_right _ (by omega)
theorem Qos {m j n:Nat} (h:m*128 ^ j<=n) (hn:n<18446744073709551616) (hm:0<m):j+1<=10:=by
 rcases Nat.lt_or_ge 9 j with h'|h'
 ·exfalso
  have h1:128 ^ 10<=128 ^ j:=Nat.pow_le_pow_right (by omega) h'
  have h2:128 ^ j<=m*128 ^ j:=Nat.le_mul_of_pos_left _ hm
  have h3:(128:Nat) ^ 10=1180591620717411303424:=by decide
  omega
 omega
theorem QmK (w:World) (n:Nat) (hn:n<18446744073709551616):Calls prog 117 #[.int .u64 (n:Int)] w (fun e w'=>∃ x:Option Addr × Nat,e = .returned (.slice x.1 (Qan n).length x.2)/\Own w no w' [row (.slice x.1 (Qan n).length x.2) ((Qan n).map (ic .u8)) 5 1]/\True):=by
 refine Qal (n:=19) func117 rfl ntmps117 rfl ?_
 have Y:=Own.start w
 refine Qae (Qab (Qaa (Qak (.slice none 0 0) (Qad (Qae (Qab (Qaa (Qak (.slice none 0 0) (Qad (Qae (Qay ?_)))))))))))
 replace Y:=Y.more (row (.slice none 0 0) (List.map (ic .u8) []) 5 1) (QaK _ _ _ _)
 refine Qbb (fun J μ J' w'=>∃ (Jo:Env) (m:Nat) (a9:Option Addr) (c9:Nat) (L:List Int),J'=upd (upd (mix ([0]++sq 3 11) Jo J) 0 (.int .u64 (m:Int))) 3 (.slice a9 L.length c9)/\(m<=n)/\(Qan n=L++Qan m)/\(L.length<=10)/\(m*128 ^ L.length<=n)/\μ=2*m/\Own w no w' [row (.slice a9 L.length c9) (L.map (ic .u8)) 5 1]) ?_ ?_
 ·exact ⟨_,_,n,none,0,[],Qaw (Qaw (QaN (ds:=([0]++sq 3 11)) (Agr.refl _ _)) rfl) rfl,(Nat.le_refl _),rfl,(by simp),(by simp),rfl,Y⟩
 rintro μ J' w1 ⟨Jo,m,a9,c9,L,rfl,hm,hL,hll,hmp,rfl,Y⟩
 refine Qae (Qae (Qab (Qaa (Qag (.int .u64 (m:Int)) (Qaa (Qck rfl rfl (Qad (Qaq (t:=decide (127<(m:Int))) rfl (fun c2=>?_) (fun c2=>?_)))))))))
 ·
  replace c2:=QQ1 c2
  refine Qar (Qae (Qay (Qab (Qaa (Qag (.slice a9 L.length c9) (Qaa (Qag (.int .u64 (m:Int)) (Qaa (Qas (V:=.int .u8 ((m:Int)%256)) (V':=.int .u8 ((m%256:Nat):Int)) (QaB Qa6 Qfe rfl (QhY _) ⟨rfl,rfl⟩) (congrArg (Value.int .u8) (by omega)) (Qaa (Qas (V:=.int .u8 (bits .or .u8 ((m%256:Nat):Int) 128)) (V':=.int .u8 ((m%128+128:Nat):Int)) (QuR rfl rfl ⟨rfl,rfl⟩) (congrArg (Value.int .u8) (Qu2 m)) (Qaa (Ql2 (vals:=[.int .u8 ((m%128+128:Nat):Int)]) (ls:=List.map (ic .u8) ([((m%128+128:Nat):Int)]:List Int)) Qca rfl rfl rfl (Qb3 (enc:=(ic .u8)) (fun _=>rfl) _) (QaV (Qbj .u8) _) (QQ8 rfl) Y fun b3 w4 Y=>(Qaa (QbH (ls':=(L++[((m%128+128:Nat):Int)]).map (ic .u8)) (n:=(L++[((m%128+128:Nat):Int)]).length) Qca Y 0 rfl rfl rfl (Y.rd 1 rfl) (QaV (Qbj .u8) _) (by simp only [QQ6,QQ7,List.length_cons,List.length_nil];omega) (by simp) (by simp) fun a5 c5 w6 Y=>(Qaa (Qak (.slice a5 ((L++[((m%128+128:Nat):Int)]).length) c5) (Qad (Qab (Qaa (Qag (.int .u64 (m:Int)) (Qaa (Qas (V:=.int .u64 ((m:Int)/2 ^ (7:Int).toNat)) (V':=.int .u64 ((m/128:Nat):Int)) (Qku rfl rfl (by decide) (by decide) ⟨rfl,rfl⟩) (congrArg (Value.int .u64) (by rw [show (2:Int) ^ (7:Int).toNat=128 from rfl];omega)) (Qaa (Qak (.int .u64 ((m/128:Nat):Int)) (Qad ?_))))))))))))))))))))))))))
  refine ⟨_,?_,_,m/128,a5,c5,L++[((m%128+128:Nat):Int)],Qaw (Qaw (QaN (ds:=([0]++sq 3 11)) (by repeat (first|exact Agr.refl _ _|refine Agr.upd ?_ rfl|refine Agr.mix ?_ rfl))) rfl) rfl,(by omega),(by rw [hL,QcL (n:=m) (by omega)];simp),(by rw [QQ7,List.length_singleton];exact Qos hmp (by omega) (by omega)),(by rw [QQ7,List.length_singleton];exact Nat.le_trans (QmO _ _) hmp),rfl,Y.take 1⟩
  omega
 replace c2:=QQ2 c2
 refine Qbs (Qae (Qab (Qaa (Qag (.slice a9 L.length c9) (Qaa (Qag (.int .u64 (m:Int)) (Qaa (Qas (V:=.int .u8 (m:Int)) (V':=.int .u8 (m:Int)) (QaB Qa6 Qfe rfl (Qki (by omega) (by omega)) ⟨rfl,rfl⟩) (congrArg (Value.int .u8) (by omega)) (Qaa (Ql2 (vals:=[.int .u8 (m:Int)]) (ls:=List.map (ic .u8) ([(m:Int)]:List Int)) Qca rfl rfl rfl (Qb3 (enc:=(ic .u8)) (fun _=>rfl) _) (QaV (Qbj .u8) _) (QQ8 rfl) Y fun b7 w8 Y=>(Qaa (QbH (ls':=(L++[(m:Int)]).map (ic .u8)) (n:=(L++[(m:Int)]).length) Qca Y 0 rfl rfl rfl (Y.rd 1 rfl) (QaV (Qbj .u8) _) (by simp only [QQ6,QQ7,List.length_cons,List.length_nil];omega) (by simp) (by simp) fun a9 c9 w10 Y=>(Qaa (Qak (.slice a9 ((L++[(m:Int)]).length) c9) (Qad (Qat ?_))))))))))))))))
 refine ⟨_,Qau (V:=.slice a9 ((L++[(m:Int)]).length) c9) results117 rfl,?_⟩
 have hX:L++[(m:Int)]=Qan n:=by rw [hL,Qb7 (by omega)]
 rw [hX] at Y ⊢
 exact ⟨(a9,c9),rfl,Y.only 0 rfl,trivial⟩
theorem Qc5 (w:World) (n:Nat) (hn:n<18446744073709551616):Calls prog 159 #[.int .u64 (n:Int)] w (fun e w'=>∃ x:Option Addr × Nat,e = .returned (.slice x.1 (Qan n).length x.2)/\Own w no w' [row (.slice x.1 (Qan n).length x.2) ((Qan n).map (ic .u8)) 5 1]/\True):=by
 refine Qal (n:=20) func159 rfl ntmps159 rfl ?_
 have Y:=Own.start w
 refine Qae (Qab (Qaa (Qak (.slice none 0 0) (Qad (Qae (Qab (Qaa (Qak (.slice none 0 0) (Qad (Qae (Qay ?_)))))))))))
 replace Y:=Y.more (row (.slice none 0 0) (List.map (ic .u8) []) 5 1) (QaK _ _ _ _)
 refine Qbb (fun J μ J' w'=>∃ (Jo:Env) (m:Nat) (a9:Option Addr) (c9:Nat) (L:List Int),J'=upd (upd (mix ([0]++sq 3 12) Jo J) 0 (.int .u64 (m:Int))) 3 (.slice a9 L.length c9)/\(m<=n)/\(Qan n=L++Qan m)/\(L.length<=10)/\(m*128 ^ L.length<=n)/\μ=2*m/\Own w no w' [row (.slice a9 L.length c9) (L.map (ic .u8)) 5 1]) ?_ ?_
 ·exact ⟨_,_,n,none,0,[],Qaw (Qaw (QaN (ds:=([0]++sq 3 12)) (Agr.refl _ _)) rfl) rfl,(Nat.le_refl _),rfl,(by simp),(by simp),rfl,Y⟩
 rintro μ J' w1 ⟨Jo,m,a9,c9,L,rfl,hm,hL,hll,hmp,rfl,Y⟩
 refine Qae (Qae (Qab (Qaa (Qag (.int .u64 (m:Int)) (Qaa (Qdj rfl rfl (Qad (Qaq (t:=decide (128<=(m:Int))) rfl (fun c2=>?_) (fun c2=>?_)))))))))
 ·
  replace c2:=QQ1 c2
  refine Qar (Qay (Qae (Qab (Qaa (Qag (.slice a9 L.length c9) (Qaa (Qag (.int .u64 (m:Int)) (Qaa (Qas (V:=.int .u64 ((m:Int).tmod 128)) (V':=.int .u64 ((m%128:Nat):Int)) (Qps rfl rfl (by omega) rfl ⟨rfl,rfl⟩) (congrArg (Value.int .u64) (by rw [Int.tmod_eq_emod_of_nonneg (by omega)];omega)) (Qaa (QaB Qa6 Qfe rfl (Qki (by omega) (by omega)) (Qaa (Qas (V:=.int .u8 (((m%128:Nat):Int)+128)) (V':=.int .u8 ((m%128+128:Nat):Int)) (Qbx (a:=((m%128:Nat):Int)) (b:=128) (c:=((m%128:Nat):Int)+128) rfl rfl (Qki (by omega) (by omega)) ⟨rfl,rfl⟩) (congrArg (Value.int .u8) (by omega)) (Qaa (Ql2 (vals:=[.int .u8 ((m%128+128:Nat):Int)]) (ls:=List.map (ic .u8) ([((m%128+128:Nat):Int)]:List Int)) Qca rfl rfl rfl (Qb3 (enc:=(ic .u8)) (fun _=>rfl) _) (QaV (Qbj .u8) _) (QQ8 rfl) Y fun b3 w4 Y=>(Qaa (QbH (ls':=(L++[((m%128+128:Nat):Int)]).map (ic .u8)) (n:=(L++[((m%128+128:Nat):Int)]).length) Qca Y 0 rfl rfl rfl (Y.rd 1 rfl) (QaV (Qbj .u8) _) (by simp only [QQ6,QQ7,List.length_cons,List.length_nil];omega) (by simp) (by simp) fun a5 c5 w6 Y=>(Qaa (Qak (.slice a5 ((L++[((m%128+128:Nat):Int)]).length) c5) (Qad (Qab (Qaa (Qag (.int .u64 (m:Int)) (Qaa (Qas (V:=.int .u64 (IntKind.u64.wrap ((m:Int).tdiv 128))) (V':=.int .u64 ((m/128:Nat):Int)) (Qst rfl rfl (by omega) rfl ⟨rfl,rfl⟩) (congrArg (Value.int .u64) (by rw [Int.tdiv_eq_ediv_of_nonneg (by omega),IntKind.wrap_u64];omega)) (Qaa (Qak (.int .u64 ((m/128:Nat):Int)) (Qad ?_))))))))))))))))))))))))))))
  refine ⟨_,?_,_,m/128,a5,c5,L++[((m%128+128:Nat):Int)],Qaw (Qaw (QaN (ds:=([0]++sq 3 12)) (by repeat (first|exact Agr.refl _ _|refine Agr.upd ?_ rfl|refine Agr.mix ?_ rfl))) rfl) rfl,(by omega),(by rw [hL,QcL (n:=m) (by omega)];simp),(by rw [QQ7,List.length_singleton];exact Qos hmp (by omega) (by omega)),(by rw [QQ7,List.length_singleton];exact Nat.le_trans (QmO _ _) hmp),rfl,Y.take 1⟩
  omega
 replace c2:=QQ2 c2
 refine Qbs (Qae (Qab (Qaa (Qag (.slice a9 L.length c9) (Qaa (Qag (.int .u64 (m:Int)) (Qaa (QaB Qa6 Qfe rfl (Qki (by omega) (by omega)) (Qaa (Ql2 (vals:=[.int .u8 (m:Int)]) (ls:=List.map (ic .u8) ([(m:Int)]:List Int)) Qca rfl rfl rfl (Qb3 (enc:=(ic .u8)) (fun _=>rfl) _) (QaV (Qbj .u8) _) (QQ8 rfl) Y fun b7 w8 Y=>(Qaa (QbH (ls':=(L++[(m:Int)]).map (ic .u8)) (n:=(L++[(m:Int)]).length) Qca Y 0 rfl rfl rfl (Y.rd 1 rfl) (QaV (Qbj .u8) _) (by simp only [QQ6,QQ7,List.length_cons,List.length_nil];omega) (by simp) (by simp) fun a9 c9 w10 Y=>(Qaa (Qak (.slice a9 ((L++[(m:Int)]).length) c9) (Qad (Qat ?_))))))))))))))))
 refine ⟨_,Qau (V:=.slice a9 ((L++[(m:Int)]).length) c9) results159 rfl,?_⟩
 have hX:L++[(m:Int)]=Qan n:=by rw [hL,Qb7 (by omega)]
 rw [hX] at Y ⊢
 exact ⟨(a9,c9),rfl,Y.only 0 rfl,trivial⟩
end Tt
end Go.Proofs
namespace Go.Proofs
open Go Go.Vx Go.RowKit
open Tryz
namespace Tt
theorem Qnq (w:World) (a:Option Addr) (c:Nat) (l:List Int) (hby:QaZ l) (hr:Rd w (.slice a l.length c) 1 (l.map (ic .u8))) (hG:Qa8 w 0 (vc Qeh)):Calls prog 119 #[.slice a l.length c] w (fun e w'=>e = .returned (.agg (q4 (Qek (QbF l))).toArray)/\Own w no w' []):=by
 refine Qal (n:=18) func119 rfl ntmps119 rfl ?_
 have Y:=Own.start w
 have hn:=hr.sml
 have hs32:QbF l<4294967296:=Qof hby
 refine Qae (Qab (Qaa (QaX (cs:=q4 [0,0,0,0]) Qq1 rfl Y fun b1 w2 Y=>(Qad (Qae (Qab (Qaa (Qag (.slice a l.length c) (Qaa (QaH (vs:=[.slice a l.length c]) (V:=.int .u32 ((QbF l:Nat):Int)) QtV rfl rfl ?hc Y fun w3 Y=>?_))))))))))
 case hc=>exact (Qmx _ a c l hby (Rd.own' hr Y) (Qa8.own' hG Y))
 refine Qaa (Qak (.int .u32 ((QbF l:Nat):Int)) (Qad (Qae (Qab (Qaa (Qag (.int .u32 ((QbF l:Nat):Int)) (Qaa (Qas (V:=.int .u8 (((QbF l:Nat):Int)%256)) (V':=.int .u8 ((QbF l%256:Nat):Int)) (QaB Qdx Qfe rfl (QhY _) ⟨rfl,rfl⟩) (congrArg (Value.int .u8) (by omega)) (Qaa (Qag (.int .u32 ((QbF l:Nat):Int)) (Qaa (Qas (V:=.int .u32 (((QbF l:Nat):Int)/2 ^ (8:Int).toNat)) (V':=.int .u32 ((QbF l/256:Nat):Int)) (Qku rfl rfl (by decide) (by decide) ⟨rfl,rfl⟩) (congrArg (Value.int .u32) (by rw [show (2:Int) ^ (8:Int).toNat=256 from rfl];omega)) (Qaa (Qas (V:=.int .u8 (((QbF l/256:Nat):Int)%256)) (V':=.int .u8 ((QbF l/256%256:Nat):Int)) (QaB Qdx Qfe rfl (QhY _) ⟨rfl,rfl⟩) (congrArg (Value.int .u8) (by omega)) (Qaa (Qag (.int .u32 ((QbF l:Nat):Int)) (Qaa (Qas (V:=.int .u32 (((QbF l:Nat):Int)/2 ^ (16:Int).toNat)) (V':=.int .u32 ((QbF l/65536:Nat):Int)) (Qku rfl rfl (by decide) (by decide) ⟨rfl,rfl⟩) (congrArg (Value.int .u32) (by rw [show (2:Int) ^ (16:Int).toNat=65536 from rfl];omega)) (Qaa (Qas (V:=.int .u8 (((QbF l/65536:Nat):Int)%256)) (V':=.int .u8 ((QbF l/65536%256:Nat):Int)) (QaB Qdx Qfe rfl (QhY _) ⟨rfl,rfl⟩) (congrArg (Value.int .u8) (by omega)) (Qaa (Qag (.int .u32 ((QbF l:Nat):Int)) (Qaa (Qas (V:=.int .u32 (((QbF l:Nat):Int)/2 ^ (24:Int).toNat)) (V':=.int .u32 ((QbF l/16777216:Nat):Int)) (Qku rfl rfl (by decide) (by decide) ⟨rfl,rfl⟩) (congrArg (Value.int .u32) (by rw [show (2:Int) ^ (24:Int).toNat=16777216 from rfl];omega)) (Qaa (Qas (V:=.int .u8 (((QbF l/16777216:Nat):Int)%256)) (V':=.int .u8 ((QbF l/16777216%256:Nat):Int)) (QaB Qdx Qfe rfl (QhY _) ⟨rfl,rfl⟩) (congrArg (Value.int .u8) (by omega)) (Qaa (Qbz (vs:=[(0,.int .u8 ((QbF l%256:Nat):Int)),(1,.int .u8 ((QbF l/256%256:Nat):Int)),(2,.int .u8 ((QbF l/65536%256:Nat):Int)),(3,.int .u8 ((QbF l/16777216%256:Nat):Int))]) (cs:=q4 [((QbF l%256:Nat):Int),((QbF l/256%256:Nat):Int),((QbF l/65536%256:Nat):Int),((QbF l/16777216%256:Nat):Int)]) Quw (rfl) rfl (Qaa (QbN (V:=.agg (q4 [((QbF l%256:Nat):Int),((QbF l/256%256:Nat):Int),((QbF l/65536%256:Nat):Int),((QbF l/16777216%256:Nat):Int)]).toArray) (vs:=q4 [((QbF l%256:Nat):Int),((QbF l/256%256:Nat):Int),((QbF l/65536%256:Nat):Int),((QbF l/16777216%256:Nat):Int)]) (cs':=q4 [((QbF l%256:Nat):Int),((QbF l/256%256:Nat):Int),((QbF l/65536%256:Nat):Int),((QbF l/16777216%256:Nat):Int)]) QkN.1 Y 0 rfl rfl rfl rfl rfl (QQ8 rfl) (Qq7 _) (Qao rfl) fun w4 Y=>(Qad (Qat ?_))))))))))))))))))))))))))))))))
 refine ⟨_,Qii (cs:=q4 [((QbF l%256:Nat):Int),((QbF l/256%256:Nat):Int),((QbF l/65536%256:Nat):Int),((QbF l/16777216%256:Nat):Int)]) results119 QkN Y 0 rfl rfl rfl,(Zr Y ?_)⟩
 rfl
theorem Qk2 {n:Nat} (h:n<16384):(Qan n).length<=2:=by
 by_cases h1:n<128
 ·rw [Qb7 h1];simp
 rw [QcL (by omega),Qb7 (by omega)];simp
theorem Qdo {l:Bs} (h:QaZ l):QaZ (Qan l.length++l):=(Qc6 _).app h
theorem QkE (w:World) (a:Option Addr) (c:Nat) (l:List Int) (hby:QaZ l) (hl:l.length<=4096) (hr:Rd w (.slice a l.length c) 1 (l.map (ic .u8))) (hG:Qa8 w 0 (vc Qeh)):Calls prog 52 #[.slice a l.length c] w (fun e w'=>∃ x:Option Addr × Nat,e = .returned (.tuple #[.slice x.1 (Qaz l).length x.2,.int .i64 0])/\Own w no w' [row (.slice x.1 (Qaz l).length x.2) ((Qaz l).map (ic .u8)) 5 1]/\True):=by
 refine Qal (n:=20) func52 rfl ntmps52 rfl ?_
 have Y:=Own.start w
 have hn:=hr.sml
 have hp2:=Qk2 (n:=l.length) (by omega)
 have h4:∀ s,(Qek s).length=4:=fun _=>rfl
 have h4l:=h4 (QbF (Qan l.length++l))
 refine Qae (Qab (Qaa (Qak (.slice none 0 0) (Qaa (Qak (I6 0) (Qad (Qae (Qae (Qab (Qaa (Qag (.slice a l.length c) (Qaa (QbG (n:=l.length) QbJ (Rd.own' hr Y) (by simp) rfl (Qaa (Qck rfl rfl (Qad (Qaq (t:=decide (4096<((l.length:Nat):Int))) rfl (fun c1=>?_) (fun c1=>?_))))))))))))))))))
 ·
  replace c1:=QQ1 c1
  refine Qae (Qab (Qaa (Qak (.slice none 0 0) (Qaa (Qak (I6 3) (Qad (Qat ?_)))))))
  refine ⟨_,Qbq (U:=.slice none 0 0) (V:=I6 3) results52 rfl rfl,?_⟩
  exact absurd c1 (by omega)
 replace c1:=QQ2 c1
 refine Qar (Qae (Qab (Qaa (Qag (.slice a l.length c) (Qaa (QbG (n:=l.length) QbJ (Rd.own' hr Y) (by simp) rfl (Qaa (QaB QfT Qa6 rfl (Qbe (by omega) (by omega)) (Qaa (Qax (vs:=[.int .u64 ((l.length:Nat):Int)]) (V:=fun x:Option Addr × Nat=>.slice x.1 (Qan l.length).length x.2) Qnj rfl rfl (QmK _ l.length (by omega)) Y fun x2 w3 Y _=>(Qaa (Qag (.slice a l.length c) (Qaa (QbH (ls':=((Qan l.length)++l).map (ic .u8)) (n:=((Qan l.length)++l).length) Qca Y 0 rfl rfl rfl (Rd.own' hr Y) (QaV (Qbj .u8) _) (by simp only [QQ6,QQ7,List.length_cons,List.length_nil];omega) (by simp) (by simp) fun a4 c4 w5 Y=>(Qaa (Qak (.slice a4 (((Qan l.length)++l).length) c4) (Qad (Qae (Qab (Qaa (Qag (.slice a4 (((Qan l.length)++l).length) c4) (Qaa (QaH (vs:=[.slice a4 (((Qan l.length)++l).length) c4]) (V:=.agg (q4 (Qek (QbF ((Qan l.length)++l)))).toArray) QqR rfl rfl ?hc Y fun w6 Y=>?_)))))))))))))))))))))))
 case hc=>exact (Qnq _ a4 c4 ((Qan l.length)++l) (Qdo hby) (Y.rd 0 rfl) (Qa8.own' hG Y))
 refine Qaa (QaX (cs:=q4 [0,0,0,0]) Qq1 rfl Y fun b7 w8 Y=>(Qaa (QbN (V:=.agg (q4 (Qek (QbF ((Qan l.length)++l)))).toArray) (vs:=q4 (Qek (QbF ((Qan l.length)++l)))) (cs':=q4 (Qek (QbF ((Qan l.length)++l)))) QkN.1 Y 1 rfl rfl rfl rfl rfl (QQ8 rfl) (Qq7 _) (Qao rfl) fun w9 Y=>?_)))
 replace Y:=Ow [row (.slice a4 (((Qan l.length)++l).length) c4) (((Qan l.length)++l).map (ic .u8)) 5 1,blk b7 (q4 (Qek (QbF ((Qan l.length)++l)))) 217] Y
 refine Qad (Qae (Qab (Qaa (Qag (.slice a4 (((Qan l.length)++l).length) c4) (Qaa (Qs2 QoC QcG.1 rfl (Qaa (QbH (ls':=(((Qan l.length)++l)++(Qek (QbF ((Qan l.length)++l)))).map (ic .u8)) (n:=(((Qan l.length)++l)++(Qek (QbF ((Qan l.length)++l)))).length) Qca Y 0 rfl rfl rfl (Qa8.rdU (Y.cellsf 1 rfl) rfl (QQ8 rfl)) (QaV (Qbj .u8) _) (by simp only [QQ6,QQ7,List.length_cons,List.length_nil];omega) (by simp) (by simp) fun a10 c10 w11 Y=>(Qaa (Qak (.slice a10 ((((Qan l.length)++l)++(Qek (QbF ((Qan l.length)++l)))).length) c10) (Qaa (Qak (I6 0) (Qad (Qat ?_))))))))))))))
 refine ⟨_,Qbq (U:=.slice a10 ((((Qan l.length)++l)++(Qek (QbF ((Qan l.length)++l)))).length) c10) (V:=I6 0) results52 rfl rfl,?_⟩
 exact ⟨(a10,c10),rfl,Y.only 0 rfl,trivial⟩
end Tt
end Go.Proofs
namespace Go.Proofs
open Go Go.Vx Go.RowKit
open Tryz
namespace Tt
theorem QbB {l:Bs} {k x:Nat} (h:k<l.length):Qai k x (l.drop k)=if 9<k∨(k=9/\1<gd l k) then (0,0,5) else if 128<=gd l k then Qai (k+1) (x+(gd l k).toNat%128*128 ^ k) (l.drop (k+1)) else if gd l k=0/\0<k then (0,0,5) else (x+(gd l k).toNat%128*128 ^ k,k+1,0):=by
 have e:gd l k=l[k]:=by simp [gd,List.getD_eq_getElem?_getD,h]
 rw [List.drop_eq_getElem_cons h,← e]
 rfl
theorem QwA {c k:Nat} (h:c%128*128 ^ k<18446744073709551616):(IntKind.u64).wrap (((c%128:Nat):Int)*2 ^ (((7*k:Nat):Int)).toNat)=((c%128*128 ^ k:Nat):Int):=by
 have e:((c%128:Nat):Int)*2 ^ (7*k)=((c%128*128 ^ k:Nat):Int):=by
  rw [show (128:Nat) ^ k=2 ^ (7*k) by rw [Nat.pow_mul]]
  push_cast;rfl
 rw [Int.toNat_natCast,e];exact Qj2 rfl h
theorem Quj {c k:Nat} (h:k<9∨(k=9/\c<=1)):c%128*128 ^ k<18446744073709551616:=by
 rcases h with h|⟨rfl,h⟩
 ·have h2:128 ^ k<=128 ^ 8:=Nat.pow_le_pow_right (by omega) (by omega)
  have h3:c%128*128 ^ k<=127*128 ^ 8:=Nat.mul_le_mul (by omega) h2
  omega
 omega
theorem Qv7 {x k:Nat} (hk:k<=9) (hx:x<128 ^ k):x<18446744073709551616:=by
 have h2:128 ^ k<=128 ^ 9:=Nat.pow_le_pow_right (by omega) hk
 omega
theorem QqV {x k c:Nat} (hx:x<128 ^ k):x+c%128*128 ^ k<128 ^ (k+1):=by
 have h1:c%128*128 ^ k<=127*128 ^ k:=Nat.mul_le_mul_right _ (by omega)
 rw [Nat.pow_succ]
 omega
theorem QqT (w:World) (a:Option Addr) (c:Nat) (l:List Int) (hby:QaZ l) (hr:Rd w (.slice a l.length c) 1 (l.map (ic .u8))):Calls prog 164 #[.slice a l.length c] w (fun e w'=>e = .returned (.tuple #[.int .u64 ((Qai 0 0 l).1:Int),.int .i64 ((Qai 0 0 l).2.1:Int),.int .i64 ((Qai 0 0 l).2.2:Int)])/\Own w no w' []):=by
 refine Qal (n:=46) func164 rfl ntmps164 rfl ?_
 have Y:=Own.start w
 have hn:=hr.sml
 refine Qae (Qab (Qaa (Qak (.int .u64 0) (Qaa (Qak (I6 0) (Qaa (Qak (I6 0) (Qad (Qae (Qab (Qaa (Qak (.int .u64 0) (Qad (Qae (Qae (Qab (Qaa (Qag (.slice a l.length c) (Qaa (QbG (n:=l.length) QbJ (Rd.own' hr Y) (by simp) rfl (Qaa (Qag (I6 0) (Qad (Qay (Qbb (fun J μ J' w'=>∃ (Jo:Env) (k:Nat) (x:Nat),J'=upd (upd (mix (sq 2 6++sq 10 36) Jo J) 10 (I6 (k:Int))) 5 (.int .u64 (x:Int))/\(k<=l.length)/\(k<=10)/\(x<128 ^ k)/\(Qai 0 0 l=Qai k x (l.drop k))/\μ=l.length-k/\Own w no w' []) ?_ ?_)))))))))))))))))))))))))
 ·exact ⟨_,_,0,0,Qaw (Qaw (QaN (ds:=(sq 2 6++sq 10 36)) (Agr.refl _ _)) rfl) rfl,(Nat.zero_le _),(Nat.zero_le _),Nat.one_pos,rfl,rfl,Y⟩
 rintro μ J' w1 ⟨Jo,k,x,rfl,hk,hk10,hx,hg,rfl,Y⟩
 refine Qae (Qab (Qaa (QbQ rfl rfl (Qad (Qae (Qaq (t:=decide ((k:Int)<((l.length:Nat):Int))) rfl (fun c2=>?_) (fun c2=>?_)))))))
 ·
  replace c2:=QQ1 c2
  refine Qar (Qae (Qay (Qae (Qab (Qaa (Qag (I6 (k:Int)) (Qaa (QcJ QbJ QcG.1 (Rd.own' hr Y) rfl rfl (by omega) (by rw [QQ6];omega) (Qaa (QdX (j:=0) (V:=.int .u8 (gd l k)) k QcG (Rd.own' hr Y) (QcN (by omega)) rfl rfl (by omega) (Qaa (Qak (I6 (k:Int)) (Qaa (Qak (.int .u8 (gd l k)) (Qad (Qae (Qae ?_)))))))))))))))))
  have hb:0<=gd l k/\gd l k<256:=hby _ (Qcw (by omega))
  refine Qa2 (so 15 10) [] [0,1,3,7,15,31,63,127,255,511] [pv (I6 (k:Int)),pv (.bool (decide (9<(k:Int)))),pv (.bool (decide (9<(k:Int)))),pg ((decide (9<(k:Int))) == false) (I6 (k:Int)),pg ((decide (9<(k:Int))) == false) (.bool (decide ((k:Int)=9))),pg ((decide (9<(k:Int))) == false) (.bool (decide ((k:Int)=9))),pg (((decide (9<(k:Int))) == false)&&((decide ((k:Int)=9)) == true)) (.int .u8 (gd l k)),pg (((decide (9<(k:Int))) == false)&&((decide ((k:Int)=9)) == true)) (.bool (decide (1<gd l k))),pg ((decide (9<(k:Int))) == false) (.bool ((decide ((k:Int)=9))&&(decide (1<gd l k)))),pv (.bool ((decide (9<(k:Int)))||((decide ((k:Int)=9))&&(decide (1<gd l k)))))] (fun _ _=>_) [9] (by kernel_rfl) Y ⟨?_,?_,?_,?_,?_,?_,?_,?_,?_,?_,trivial⟩ ?_
  ·exact oi [] fun Y=>Qag (.int .i64 (k:Int)) (Zz Y)
  ·exact oi [0] fun Y=>Qck rfl rfl (Zz Y)
  ·exact oi [1] fun Y=>Qag (.bool (decide (9<(k:Int)))) (Zz Y)
  ·exact ogi [2] fun hG Y=>Qag (.int .i64 (k:Int)) (Zz Y)
  ·exact oyi [2,3] [3] fun hG Y=>Qa5 rfl rfl (Zz Y)
  ·exact oyi [2,4] [4] fun hG Y=>Qag (.bool (decide ((k:Int)=9))) (Zz Y)
  ·exact ogi [5] fun hG Y=>Qag (.int .u8 (gd l k)) (Zz Y)
  ·exact oyi [5,6] [6] fun hG Y=>Qck rfl rfl (Zz Y)
  ·exact oyi [2,5,7] [5] fun hG Y=>Qhy (h':=decide (1<gd l k)) (G:=((decide (9<(k:Int))) == false)) hG rfl rfl rfl (Zz Y)
  ·exact oi [2,8] fun Y=>QbL (h':=(decide ((k:Int)=9))&&(decide (1<gd l k))) rfl rfl rfl (Zz Y)
  rintro J1 w3 J2 hJ Y
  replace hJ:J2=upd (mix (sq 15 10) J1 _) 24 (.bool ((decide (9<(k:Int)))||((decide ((k:Int)=9))&&(decide (1<gd l k))))):=hJ
  subst hJ
  refine Qaq (t:=(decide (9<(k:Int)))||((decide ((k:Int)=9))&&(decide (1<gd l k)))) rfl (fun c4=>?_) (fun c4=>?_)
  ·
   refine Qae (Qab (Qaa (Qak (.int .u64 0) (Qaa (Qak (I6 0) (Qaa (Qak (I6 5) (Qad (Qat ?_)))))))))
   refine ⟨_,Qa9 (U:=.int .u64 0) (V:=I6 0) (Z:=I6 5) results164 rfl rfl rfl,?_⟩
   try simp only [Bool.or_eq_true,Bool.and_eq_true,decide_eq_true_eq] at c4
   try simp only [Bool.and_eq_false_iff,decide_eq_false_iff_not] at c4r
   try simp only [Bool.and_eq_false_iff,decide_eq_false_iff_not] at c7
   first
    | exact ⟨by rw [show Qai 0 0 l=(0,0,4) by rw [hg,List.drop_eq_nil_of_le (by omega)];rfl];rfl,Y⟩
    | exact ⟨by rw [show Qai 0 0 l=(0,0,5) by rw [hg,QbB (by omega),if_pos (by omega)]];rfl,Y⟩
    | exact ⟨by rw [show Qai 0 0 l=(0,0,5) by rw [hg,QbB (by omega),if_neg (by omega),if_neg (by omega),if_pos (by omega)]];rfl,Y⟩
    | exact ⟨by rw [show Qai 0 0 l=(x+(gd l k).toNat%128*128 ^ k,k+1,0) by rw [hg,QbB (by omega),if_neg (by omega),if_neg (by omega),if_neg (by omega)]];rfl,Y⟩
  have c4r:=QdH c4
  replace c4:=QdJ c4
  replace c4:=QQ2 c4
  refine Qar (Qae ?_)
  have hq:(gd l k).toNat%128*128 ^ k<18446744073709551616:=Quj (by simp only [Bool.and_eq_false_iff,decide_eq_false_iff_not] at c4r;omega)
  refine Qab (Qaa (Qag (.int .u64 (x:Int)) (Qaa (Qag (.int .u8 (gd l k)) (Qaa (Qas (V:=.int .u8 (bits .and .u8 (gd l k) 127)) (V':=.int .u8 (((gd l k).toNat%128:Nat):Int)) (Qle rfl rfl ⟨rfl,rfl⟩) (congrArg (Value.int .u8) (QtX hb)) (Qaa (QaB Qfe Qa6 rfl (Qbe (by omega) (by omega)) (Qaa (Qag (I6 (k:Int)) (Qaa (QrN (a:=7) (b:=(k:Int)) (c:=((7*k:Nat):Int)) rfl rfl (QaS (by omega) (by omega)) (Qaa (Qas (V:=.int .u64 ((IntKind.u64).wrap ((((gd l k).toNat%128:Nat):Int)*2 ^ (((7*k:Nat):Int)).toNat))) (V':=.int .u64 (((gd l k).toNat%128*128 ^ k:Nat):Int)) (Qwa rfl rfl (by omega) (by show _<=((IntKind.u64).bits:Int);simp only [IntKind.bits];omega) ⟨rfl,rfl⟩) (congrArg (Value.int .u64) (QwA hq)) (Qaa (Qas (V:=.int .u64 (bits .or .u64 (x:Int) (((gd l k).toNat%128*128 ^ k:Nat):Int))) (V':=.int .u64 ((x+(gd l k).toNat%128*128 ^ k:Nat):Int)) (QuR rfl rfl ⟨rfl,rfl⟩) (congrArg (Value.int .u64) ((Qwu (Qv7 (by omega) hx) hq).trans (congrArg (fun z:Nat=>(z:Int)) (QpT hx)))) (Qaa (Qak (.int .u64 ((x+(gd l k).toNat%128*128 ^ k:Nat):Int)) (Qad (Qae (Qae (Qab (Qaa (Qag (.int .u8 (gd l k)) (Qaa (Qle rfl rfl (Qaa (Qas (V:=.bool (!decide (bits .and .u8 (gd l k) 128=0))) (V':=.bool (decide (128<=gd l k))) (QbM rfl rfl ⟨rfl,rfl⟩) (congrArg Value.bool (Qt5 hb)) (Qad (Qaq (t:=decide (128<=gd l k)) rfl (fun c5=>?_) (fun c5=>?_)))))))))))))))))))))))))))))))
  ·
   replace c5:=QQ1 c5
   refine Qbs (Qab (Qaa (Qbx (a:=(k:Int)) (b:=1) (c:=((k+1:Nat):Int)) rfl rfl (QaS (by omega) (by omega)) (Qaa (Qag (I6 ((k+1:Nat):Int)) (Qad ?_))))))
   refine ⟨_,?_,_,k+1,x+(gd l k).toNat%128*128 ^ k,Qaw (Qaw (QaN (ds:=(sq 2 6++sq 10 36)) (by repeat (first|exact Agr.refl _ _|refine Agr.upd ?_ rfl|refine Agr.mix ?_ rfl))) rfl) rfl,(by omega),(by omega),(QqV hx),(by rw [hg,QbB (by omega),if_neg (by simp only [Bool.and_eq_false_iff,decide_eq_false_iff_not] at c4r;omega),if_pos (by omega)]),rfl,Y.take 0⟩
   omega
  replace c5:=QQ2 c5
  refine Qar (Qae (Qae (Qa2 (so 36 6) [] [0,1,3,7,15,31] [pv (.int .u8 (gd l k)),pv (.bool (decide (gd l k=0))),pv (.bool (decide (gd l k=0))),pg ((decide (gd l k=0)) == true) (I6 (k:Int)),pg ((decide (gd l k=0)) == true) (.bool (decide (0<(k:Int)))),pv (.bool ((decide (gd l k=0))&&(decide (0<(k:Int)))))] (fun _ _=>_) [5] (by kernel_rfl) Y ⟨?_,?_,?_,?_,?_,?_,trivial⟩ ?_)))
  ·exact oi [] fun Y=>Qag (.int .u8 (gd l k)) (Zz Y)
  ·exact oi [0] fun Y=>Qa5 rfl rfl (Zz Y)
  ·exact oi [1] fun Y=>Qag (.bool (decide (gd l k=0))) (Zz Y)
  ·exact ogi [2] fun hG Y=>Qag (.int .i64 (k:Int)) (Zz Y)
  ·exact oyi [2,3] [3] fun hG Y=>Qck rfl rfl (Zz Y)
  ·exact oi [2,4] fun Y=>Qa0 (h':=decide (0<(k:Int))) rfl rfl rfl (Zz Y)
  rintro J1 w6 J2 hJ Y
  replace hJ:J2=upd (mix (sq 36 6) J1 _) 41 (.bool ((decide (gd l k=0))&&(decide (0<(k:Int))))):=hJ
  subst hJ
  refine Qaq (t:=(decide (gd l k=0))&&(decide (0<(k:Int)))) rfl (fun c7=>?_) (fun c7=>?_)
  ·
   have c7r:=Qhi c7
   replace c7:=Qee c7
   replace c7:=QQ1 c7
   replace c7r:=QQ1 c7r
   refine Qae (Qab (Qaa (Qak (.int .u64 0) (Qaa (Qak (I6 0) (Qaa (Qak (I6 5) (Qad (Qat ?_)))))))))
   refine ⟨_,Qa9 (U:=.int .u64 0) (V:=I6 0) (Z:=I6 5) results164 rfl rfl rfl,?_⟩
   try simp only [Bool.or_eq_true,Bool.and_eq_true,decide_eq_true_eq] at c4
   try simp only [Bool.and_eq_false_iff,decide_eq_false_iff_not] at c4r
   try simp only [Bool.and_eq_false_iff,decide_eq_false_iff_not] at c7
   first
    | exact ⟨by rw [show Qai 0 0 l=(0,0,4) by rw [hg,List.drop_eq_nil_of_le (by omega)];rfl];rfl,Y⟩
    | exact ⟨by rw [show Qai 0 0 l=(0,0,5) by rw [hg,QbB (by omega),if_pos (by omega)]];rfl,Y⟩
    | exact ⟨by rw [show Qai 0 0 l=(0,0,5) by rw [hg,QbB (by omega),if_neg (by omega),if_neg (by omega),if_pos (by omega)]];rfl,Y⟩
    | exact ⟨by rw [show Qai 0 0 l=(x+(gd l k).toNat%128*128 ^ k,k+1,0) by rw [hg,QbB (by omega),if_neg (by omega),if_neg (by omega),if_neg (by omega)]];rfl,Y⟩
  refine Qar (Qae (Qab (Qaa (Qag (.int .u64 ((x+(gd l k).toNat%128*128 ^ k:Nat):Int)) (Qaa (Qag (I6 (k:Int)) (Qaa (Qbx (a:=(k:Int)) (b:=1) (c:=((k+1:Nat):Int)) rfl rfl (QaS (by omega) (by omega)) (Qaa (Qak (.int .u64 ((x+(gd l k).toNat%128*128 ^ k:Nat):Int)) (Qaa (Qak (I6 ((k+1:Nat):Int)) (Qaa (Qak (I6 0) (Qad (Qat ?_))))))))))))))))
  refine ⟨_,Qa9 (U:=.int .u64 ((x+(gd l k).toNat%128*128 ^ k:Nat):Int)) (V:=I6 ((k+1:Nat):Int)) (Z:=I6 0) results164 rfl rfl rfl,?_⟩
  try simp only [Bool.or_eq_true,Bool.and_eq_true,decide_eq_true_eq] at c4
  try simp only [Bool.and_eq_false_iff,decide_eq_false_iff_not] at c4r
  try simp only [Bool.and_eq_false_iff,decide_eq_false_iff_not] at c7
  first
   | exact ⟨by rw [show Qai 0 0 l=(0,0,4) by rw [hg,List.drop_eq_nil_of_le (by omega)];rfl];rfl,Y⟩
   | exact ⟨by rw [show Qai 0 0 l=(0,0,5) by rw [hg,QbB (by omega),if_pos (by omega)]];rfl,Y⟩
   | exact ⟨by rw [show Qai 0 0 l=(0,0,5) by rw [hg,QbB (by omega),if_neg (by omega),if_neg (by omega),if_pos (by omega)]];rfl,Y⟩
   | exact ⟨by rw [show Qai 0 0 l=(x+(gd l k).toNat%128*128 ^ k,k+1,0) by rw [hg,QbB (by omega),if_neg (by omega),if_neg (by omega),if_neg (by omega)]];rfl,Y⟩
 replace c2:=QQ2 c2
 refine Qbs (Qae (Qab (Qaa (Qak (.int .u64 0) (Qaa (Qak (I6 0) (Qaa (Qak (I6 4) (Qad (Qat ?_))))))))))
 refine ⟨_,Qa9 (U:=.int .u64 0) (V:=I6 0) (Z:=I6 4) results164 rfl rfl rfl,?_⟩
 try simp only [Bool.or_eq_true,Bool.and_eq_true,decide_eq_true_eq] at c4
 try simp only [Bool.and_eq_false_iff,decide_eq_false_iff_not] at c4r
 try simp only [Bool.and_eq_false_iff,decide_eq_false_iff_not] at c7
 first
  | exact ⟨by rw [show Qai 0 0 l=(0,0,4) by rw [hg,List.drop_eq_nil_of_le (by omega)];rfl];rfl,Y⟩
  | exact ⟨by rw [show Qai 0 0 l=(0,0,5) by rw [hg,QbB (by omega),if_pos (by omega)]];rfl,Y⟩
  | exact ⟨by rw [show Qai 0 0 l=(0,0,5) by rw [hg,QbB (by omega),if_neg (by omega),if_neg (by omega),if_pos (by omega)]];rfl,Y⟩
  | exact ⟨by rw [show Qai 0 0 l=(x+(gd l k).toNat%128*128 ^ k,k+1,0) by rw [hg,QbB (by omega),if_neg (by omega),if_neg (by omega),if_neg (by omega)]];rfl,Y⟩
end Tt
end Go.Proofs
namespace Go.Proofs
open Go Go.Vx Go.RowKit
open Tryz
namespace Tt
theorem Qub {l:Bs} (ok:QaZ l) (h:(Qai 0 0 l).2.2=0):(Qai 0 0 l).2.1<=l.length:=by
 obtain ⟨h1,h2,_⟩:=QgW (l:=l) (n:=(Qai 0 0 l).1) (k:=(Qai 0 0 l).2.1) ok (Prod.ext rfl (Prod.ext rfl h))
 have:=congrArg List.length h1
 rw [QQ7] at this
 omega
theorem Qql {l:Bs} (ok:QaZ l) (h:(Qai 0 0 l).2.2=0) (hl:(Qai 0 0 l).2.1+(Qai 0 0 l).1<=l.length):QaM ((l.drop (Qai 0 0 l).2.1).take (Qai 0 0 l).1)=l.take ((Qai 0 0 l).2.1+(Qai 0 0 l).1):=by
 obtain ⟨h1,h2,_⟩:=QgW (l:=l) (n:=(Qai 0 0 l).1) (k:=(Qai 0 0 l).2.1) ok (Prod.ext rfl (Prod.ext rfl h))
 generalize (Qai 0 0 l).2.1=j at *
 generalize (Qai 0 0 l).1=n at *
 have hlen:((l.drop j).take n).length=n:=by rw [List.length_take,List.length_drop];omega
 unfold QaM
 rw [hlen,List.take_add]
 congr 1
 conv=>rhs;rw [h1]
 rw [h2]
 exact (List.take_left' rfl).symm
theorem Qmz {l:Bs} (h:¬(Qai 0 0 l).2.2=0):QaP l=([],0,(Qai 0 0 l).2.2):=by unfold QaP;rw [if_pos h]
theorem QiJ {l:Bs} (h:(Qai 0 0 l).2.2=0) (h1:4096<(Qai 0 0 l).1):QaP l=([],0,5):=by unfold QaP;rw [if_neg (by omega),if_pos h1]
theorem Qg2 {l:Bs} (h:(Qai 0 0 l).2.2=0) (h1:¬4096<(Qai 0 0 l).1) (h2:l.length<(Qai 0 0 l).2.1+(Qai 0 0 l).1+4):QaP l=([],0,4):=by unfold QaP;rw [if_neg (by omega),if_neg h1,if_pos h2]
theorem QiN {l:Bs} (h:(Qai 0 0 l).2.2=0) (h1:¬4096<(Qai 0 0 l).1) (h2:¬l.length<(Qai 0 0 l).2.1+(Qai 0 0 l).1+4) (h3:¬Qek (QbF (l.take ((Qai 0 0 l).2.1+(Qai 0 0 l).1)))=(l.drop ((Qai 0 0 l).2.1+(Qai 0 0 l).1)).take 4):QaP l=([],0,6):=by unfold QaP;rw [if_neg (by omega),if_neg h1,if_neg h2,if_pos h3]
theorem Qja {l:Bs} (h:(Qai 0 0 l).2.2=0) (h1:¬4096<(Qai 0 0 l).1) (h2:¬l.length<(Qai 0 0 l).2.1+(Qai 0 0 l).1+4) (h3:Qek (QbF (l.take ((Qai 0 0 l).2.1+(Qai 0 0 l).1)))=(l.drop ((Qai 0 0 l).2.1+(Qai 0 0 l).1)).take 4):QaP l=((l.drop (Qai 0 0 l).2.1).take (Qai 0 0 l).1,(Qai 0 0 l).2.1+(Qai 0 0 l).1+4,0):=by unfold QaP;rw [if_neg (by omega),if_neg h1,if_neg h2,if_neg (by simpa using h3)]
theorem QjP {l:Bs} (ok:QaZ l) (h:(Qai 0 0 l).2.2=0) (h2:¬l.length<(Qai 0 0 l).2.1+(Qai 0 0 l).1+4):(Qaz ((l.drop (Qai 0 0 l).2.1).take (Qai 0 0 l).1)=l.take ((Qai 0 0 l).2.1+(Qai 0 0 l).1+4))↔Qek (QbF (l.take ((Qai 0 0 l).2.1+(Qai 0 0 l).1)))=(l.drop ((Qai 0 0 l).2.1+(Qai 0 0 l).1)).take 4:=by
 unfold Qaz
 rw [Qql ok h (by omega),List.take_add (i:=(Qai 0 0 l).2.1+(Qai 0 0 l).1) (j:=4),List.append_cancel_left_eq]
theorem Qog {s k:Nat} (h:k<4):(Qek s).take (k+1)=(Qek s).take k++[((s/256 ^ k%256:Nat):Int)]:=by
 have:k=0∨k=1∨k=2∨k=3:=by omega
 rcases this with rfl|rfl|rfl|rfl<;>simp [Qek]
theorem QpU {s k:Nat}:s/256 ^ k/256=s/256 ^ (k+1):=by rw [Nat.div_div_eq_div_mul,Nat.pow_succ]
theorem Qpk (s:Nat):(Qek s).take 4=Qek s:=rfl
theorem Qh5 (w:World) (a:Option Addr) (c:Nat) (l:List Int) (hN:l.length*2<=140737488355328) (hr:Rd w (.slice a l.length c) 1 (l.map (ic .u8))):Calls prog 118 #[.slice a l.length c] w (fun e w'=>∃ x:Option Addr × Nat,e = .returned (.slice x.1 (l).length x.2)/\Own w no w' [row (.slice x.1 (l).length x.2) ((l).map (ic .u8)) 5 1]/\True):=by
 refine Qal (n:=8) func118 rfl ntmps118 rfl ?_
 have Y:=Own.start w
 have hn:=hr.sml
 refine Qae (Qab (Qaa (Qak (.slice none 0 0) (Qad (Qae (Qae (Qab (Qaa (Qag (.slice a l.length c) (Qaa (Qvt Qbh rfl rfl (Qad (Qaq (t:=a.isNone) rfl (fun c1=>?_) (fun c1=>?_))))))))))))))
 ·
  refine Qae (Qab (Qaa (Qak (.slice none 0 0) (Qad (Qat ?_)))))
  refine ⟨_,Qau (V:=.slice none 0 0) results118 rfl,?_⟩
  have hl0:=hr.isN c1
  subst hl0
  exact ⟨(none,0),rfl,(Y.take 0).more _ (QaK _ _ _ _),trivial⟩
 refine Qar (Qae (Qab (Qaa (Ql2 (vals:=[]) (ls:=List.map (ic .u8) ([]:List Int)) Qca rfl rfl rfl (Qb3 (enc:=(ic .u8)) (fun _=>rfl) _) (QaV (Qbj .u8) _) (QQ8 rfl) Y fun b2 w3 Y=>(Qaa (Qag (.slice a l.length c) (Qaa (QbH (ls':=l.map (ic .u8)) (n:=l.length) Qca Y 0 rfl rfl rfl (Rd.own' hr Y) (QaV (Qbj .u8) _) (by simp only [QQ6,QQ7,List.length_cons,List.length_nil];omega) (by simp) (by simp) fun a4 c4 w5 Y=>(Qaa (Qak (.slice a4 l.length c4) (Qad (Qat ?_))))))))))))
 refine ⟨_,Qau (V:=.slice a4 l.length c4) results118 rfl,?_⟩
 exact ⟨(a4,c4),rfl,Y.only 0 rfl,trivial⟩
theorem Qea (w:World) (a:Option Addr) (c:Nat) (l:List Int) (hby:QaZ l) (hl:l.length<=1000000) (hr:Rd w (.slice a l.length c) 1 (l.map (ic .u8))) (hG:Qa8 w 0 (vc Qeh)):Calls prog 77 #[.slice a l.length c] w (fun e w'=>∃ x:Option Addr × Nat,e = .returned (.tuple #[.slice x.1 (QaP l).1.length x.2,.int .i64 ((QaP l).2.1:Int),.int .i64 ((QaP l).2.2:Int)])/\Own w no w' [row (.slice x.1 (QaP l).1.length x.2) ((QaP l).1.map (ic .u8)) 5 1]/\True):=by
 refine Qal (n:=48) func77 rfl ntmps77 rfl ?_
 have Y:=Own.start w
 have hn:=hr.sml
 refine Qae (Qab (Qaa (Qak (.slice none 0 0) (Qaa (Qak (I6 0) (Qaa (Qak (I6 0) (Qad (Qae (Qab (Qaa (Qag (.slice a l.length c) (Qaa (QaH (vs:=[.slice a l.length c]) (V:=.tuple #[.int .u64 (((Qai 0 0 l).1:Nat):Int),I6 (((Qai 0 0 l).2.1:Nat):Int),I6 (((Qai 0 0 l).2.2:Nat):Int)]) QqZ rfl rfl ?hc Y fun w1 Y=>?_))))))))))))))
 case hc=>exact (QqT _ a c l hby (Rd.own' hr Y))
 refine Qaa (Qag (.tuple #[.int .u64 (((Qai 0 0 l).1:Nat):Int),I6 (((Qai 0 0 l).2.1:Nat):Int),I6 (((Qai 0 0 l).2.2:Nat):Int)]) (Qaa (Qaf (V:=.int .u64 (((Qai 0 0 l).1:Nat):Int)) rfl rfl (Qaa (Qaf (V:=I6 (((Qai 0 0 l).2.1:Nat):Int)) rfl rfl (Qaa (Qaf (V:=I6 (((Qai 0 0 l).2.2:Nat):Int)) rfl rfl (Qaa (Qak (.int .u64 (((Qai 0 0 l).1:Nat):Int)) (Qaa (Qak (I6 (((Qai 0 0 l).2.1:Nat):Int)) (Qaa (Qak (I6 (((Qai 0 0 l).2.2:Nat):Int)) (Qad (Qae (Qay (Qae (Qab (Qaa (Qag (I6 (((Qai 0 0 l).2.2:Nat):Int)) (Qaa (QbM rfl rfl (Qaa (Qak (.bool (!decide ((((Qai 0 0 l).2.2:Nat):Int)=0))) (Qad (Qaq (t:=!decide ((((Qai 0 0 l).2.2:Nat):Int)=0)) rfl (fun c2=>?_) (fun c2=>?_)))))))))))))))))))))))))))
 ·
  replace c2:=Qcb c2
  replace c2:=QQ2 c2
  refine Qae (Qab (Qaa (Qag (I6 (((Qai 0 0 l).2.2:Nat):Int)) (Qaa (Qak (.slice none 0 0) (Qaa (Qak (I6 0) (Qaa (Qak (I6 (((Qai 0 0 l).2.2:Nat):Int)) (Qad (Qat ?_)))))))))))
  refine ⟨_,Qa9 (U:=.slice none 0 0) (V:=I6 0) (Z:=I6 (((Qai 0 0 l).2.2:Nat):Int)) results77 rfl rfl rfl,?_⟩
  rw [Qmz (l:=l) (by omega)]
  exact ⟨(none,0),rfl,(Y.take 0).more _ (QaK _ _ _ _),trivial⟩
 replace c2:=Qa3 c2
 replace c2:=QQ1 c2
 refine Qae (Qab (Qaa (Qag (.int .u64 (((Qai 0 0 l).1:Nat):Int)) (Qaa (Qck rfl rfl (Qaa (Qak (.bool (decide (4096<(((Qai 0 0 l).1:Nat):Int)))) (Qad (Qaq (t:=decide (4096<(((Qai 0 0 l).1:Nat):Int))) rfl (fun c3=>?_) (fun c3=>?_))))))))))
 ·
  replace c3:=QQ1 c3
  refine Qae (Qab (Qaa (Qak (.slice none 0 0) (Qaa (Qak (I6 0) (Qaa (Qak (I6 5) (Qad (Qat ?_)))))))))
  refine ⟨_,Qa9 (U:=.slice none 0 0) (V:=I6 0) (Z:=I6 5) results77 rfl rfl rfl,?_⟩
  rw [QiJ (l:=l) (by omega) (by omega)]
  exact ⟨(none,0),rfl,(Y.take 0).more _ (QaK _ _ _ _),trivial⟩
 replace c3:=QQ2 c3
 refine Qar (Qae ?_)
 have hgk:=Qub hby (by omega)
 refine Qab (Qaa (Qag (I6 (((Qai 0 0 l).2.1:Nat):Int)) (Qaa (Qag (.int .u64 (((Qai 0 0 l).1:Nat):Int)) (Qaa (QaB Qa6 QfT rfl (Qc1 (by omega) (by omega)) (Qaa (Qbx (a:=(((Qai 0 0 l).2.1:Nat):Int)) (b:=(((Qai 0 0 l).1:Nat):Int)) (c:=((((Qai 0 0 l).2.1)+((Qai 0 0 l).1):Nat):Int)) rfl rfl (QaS (by omega) (by omega)) (Qaa (Qak (I6 ((((Qai 0 0 l).2.1)+((Qai 0 0 l).1):Nat):Int)) (Qad (Qae (Qae (Qab (Qaa (Qag (.slice a l.length c) (Qaa (QbG (n:=l.length) QbJ (Rd.own' hr Y) (by simp) rfl (Qaa (Qag (I6 ((((Qai 0 0 l).2.1)+((Qai 0 0 l).1):Nat):Int)) (Qaa (Qbx (a:=((((Qai 0 0 l).2.1)+((Qai 0 0 l).1):Nat):Int)) (b:=4) (c:=(((((Qai 0 0 l).2.1)+((Qai 0 0 l).1))+4:Nat):Int)) rfl rfl (QaS (by omega) (by omega)) (Qaa (QbQ rfl rfl (Qad (Qaq (t:=decide (((l.length:Nat):Int)<(((((Qai 0 0 l).2.1)+((Qai 0 0 l).1))+4:Nat):Int))) rfl (fun c4=>?_) (fun c4=>?_)))))))))))))))))))))))))))
 ·
  replace c4:=QQ1 c4
  refine Qae (Qab (Qaa (Qak (.slice none 0 0) (Qaa (Qak (I6 0) (Qaa (Qak (I6 4) (Qad (Qat ?_)))))))))
  refine ⟨_,Qa9 (U:=.slice none 0 0) (V:=I6 0) (Z:=I6 4) results77 rfl rfl rfl,?_⟩
  rw [Qg2 (l:=l) (by omega) (by omega) (by omega)]
  exact ⟨(none,0),rfl,(Y.take 0).more _ (QaK _ _ _ _),trivial⟩
 replace c4:=QQ2 c4
 refine Qar (Qae (Qae (Qcm HM (so 31 10) [] [0,0,3,7,0,0,48,112,240,511] [pv (.slice a l.length c),pv (I6 ((((Qai 0 0 l).2.1)+((Qai 0 0 l).1):Nat):Int)),pv (.slice (sla a 0 c 1) ((l.take (((Qai 0 0 l).2.1)+((Qai 0 0 l).1))).length) (c-0)),pv (.agg (q4 (Qek (QbF (l.take (((Qai 0 0 l).2.1)+((Qai 0 0 l).1)))))).toArray),pv (.slice a l.length c),pv (I6 ((((Qai 0 0 l).2.1)+((Qai 0 0 l).1):Nat):Int)),pv (.slice (sla a (((Qai 0 0 l).2.1)+((Qai 0 0 l).1)) c 1) ((l.drop (((Qai 0 0 l).2.1)+((Qai 0 0 l).1))).length) (c-(((Qai 0 0 l).2.1)+((Qai 0 0 l).1)))),pv (.pointer (some ⟨bkS (.slice (sla a (((Qai 0 0 l).2.1)+((Qai 0 0 l).1)) c 1) ((l.drop (((Qai 0 0 l).2.1)+((Qai 0 0 l).1))).length) (c-(((Qai 0 0 l).2.1)+((Qai 0 0 l).1)))),ofS (.slice (sla a (((Qai 0 0 l).2.1)+((Qai 0 0 l).1)) c 1) ((l.drop (((Qai 0 0 l).2.1)+((Qai 0 0 l).1))).length) (c-(((Qai 0 0 l).2.1)+((Qai 0 0 l).1)))),none⟩)),pv (.agg (q4 ((l.drop (((Qai 0 0 l).2.1)+((Qai 0 0 l).1))).take 4)).toArray),pv (.bool (!decide (Qek (QbF (l.take (((Qai 0 0 l).2.1)+((Qai 0 0 l).1))))=(l.drop (((Qai 0 0 l).2.1)+((Qai 0 0 l).1))).take 4)))] (fun _ _=>_) [9] (by kernel_rfl) Y ⟨?_,?_,?_,?_,?_,?_,?_,?_,?_,?_,trivial⟩ ?_)))
 ·exact oi [] fun Y=>Qag (.slice a l.length c) (Zz Y)
 ·exact oi [] fun Y=>Qag (.int .i64 ((((Qai 0 0 l).2.1)+((Qai 0 0 l).1):Nat):Int)) (Zz Y)
 ·exact oi [0,1] fun Y=>Qkk (l:=0) (h:=((Qai 0 0 l).2.1)+((Qai 0 0 l).1)) (m:=c) (n':=(l.take (((Qai 0 0 l).2.1)+((Qai 0 0 l).1))).length) Qbh QcG.1 (Rd.own' hr Y) rfl (.inl ⟨rfl,rfl⟩) (.inr ⟨_,_,rfl,rfl⟩) (.inl ⟨rfl,rfl⟩) (by omega) (by omega) (Nat.le_trans (show (((Qai 0 0 l).2.1)+((Qai 0 0 l).1))<=l.length by omega) (Rd.roomM (Rd.own' hr Y))) (Nat.le_refl _) (by simp only [List.length_take,List.length_drop]<;>omega) (Zz Y)
 ·exact oi [2] fun Y=>QaH (vs:=[.slice (sla a 0 c 1) ((l.take (((Qai 0 0 l).2.1)+((Qai 0 0 l).1))).length) (c-0)]) (V:=.agg (q4 (Qek (QbF (l.take (((Qai 0 0 l).2.1)+((Qai 0 0 l).1)))))).toArray) QqR rfl rfl (Qnq _ (sla a 0 c 1) (c-0) (l.take (((Qai 0 0 l).2.1)+((Qai 0 0 l).1))) (hby.take _) (Rd.subM (Rd.own' hr Y) 0 (((Qai 0 0 l).2.1)+((Qai 0 0 l).1)) c (by omega) (by omega) (Nat.le_trans (show (((Qai 0 0 l).2.1)+((Qai 0 0 l).1))<=l.length by omega) (Rd.roomM (Rd.own' hr Y))) (Nat.le_refl _) _ (by simp only [List.length_take,List.length_drop]<;>omega)) (Qa8.own' hG Y)) Y fun _ Y=>Zz Y
 ·exact oi [] fun Y=>Qag (.slice a l.length c) (Zz Y)
 ·exact oi [] fun Y=>Qag (.int .i64 ((((Qai 0 0 l).2.1)+((Qai 0 0 l).1):Nat):Int)) (Zz Y)
 ·exact oi [4,5] fun Y=>Qkk (l:=((Qai 0 0 l).2.1)+((Qai 0 0 l).1)) (h:=l.length) (m:=c) (n':=(l.drop (((Qai 0 0 l).2.1)+((Qai 0 0 l).1))).length) Qbh QcG.1 (Rd.own' hr Y) rfl (.inr ⟨_,_,rfl,rfl⟩) (.inl ⟨rfl,rfl⟩) (.inl ⟨rfl,rfl⟩) (by omega) (by omega) (Nat.le_trans (show l.length<=l.length by omega) (Rd.roomM (Rd.own' hr Y))) (Nat.le_refl _) (by simp only [List.length_take,List.length_drop]<;>omega) (Zz Y)
 ·exact oi [6] fun Y=>QvS QoC (Rd.dropM (Rd.own' hr Y) (((Qai 0 0 l).2.1)+((Qai 0 0 l).1)) (by omega) _ (by simp only [List.length_take,List.length_drop]<;>omega)) (by simp only [QQ6,List.length_drop,List.length_take];omega) (by simp only [QQ6,List.length_drop,List.length_take];omega) rfl (Zz Y)
 ·exact oi [7] fun Y=>Qve QkN (Rd.dropM (Rd.own' hr Y) (((Qai 0 0 l).2.1)+((Qai 0 0 l).1)) (by omega) _ (by simp only [List.length_take,List.length_drop]<;>omega)) (by simp only [List.length_drop,List.length_take];omega) rfl rfl (Zz Y)
 ·exact oi [3,8] fun Y=>Qry (xs:=q4 (Qek (QbF (l.take (((Qai 0 0 l).2.1)+((Qai 0 0 l).1)))))) (ys:=q4 ((l.drop (((Qai 0 0 l).2.1)+((Qai 0 0 l).1))).take 4)) eqGuardType217 (Qtu rfl (by simp only [List.length_take,List.length_drop];omega)) rfl rfl rfl (Zz Y)
 rintro J1 w6 J2 hJ Y
 replace hJ:J2=upd (mix (sq 31 10) J1 _) 40 (.bool (!decide (Qek (QbF (l.take (((Qai 0 0 l).2.1)+((Qai 0 0 l).1))))=(l.drop (((Qai 0 0 l).2.1)+((Qai 0 0 l).1))).take 4))):=hJ
 subst hJ
 refine Qaq (t:=!decide (Qek (QbF (l.take (((Qai 0 0 l).2.1)+((Qai 0 0 l).1))))=(l.drop (((Qai 0 0 l).2.1)+((Qai 0 0 l).1))).take 4)) rfl (fun c7=>?_) (fun c7=>?_)
 ·
  replace c7:=Qcb c7
  replace c7:=QQ2 c7
  refine Qae (Qab (Qaa (Qak (.slice none 0 0) (Qaa (Qak (I6 0) (Qaa (Qak (I6 6) (Qad (Qat ?_)))))))))
  refine ⟨_,Qa9 (U:=.slice none 0 0) (V:=I6 0) (Z:=I6 6) results77 rfl rfl rfl,?_⟩
  rw [QiN (l:=l) (by omega) (by omega) (by omega) c7]
  exact ⟨(none,0),rfl,(Y.take 0).more _ (QaK _ _ _ _),trivial⟩
 replace c7:=Qa3 c7
 replace c7:=QQ1 c7
 refine Qar (Qae (Qab (Qaa (Qag (.slice a l.length c) (Qaa (Qag (I6 (((Qai 0 0 l).2.1:Nat):Int)) (Qaa (Qag (I6 ((((Qai 0 0 l).2.1)+((Qai 0 0 l).1):Nat):Int)) (Qaa (Qkk (l:=(Qai 0 0 l).2.1) (h:=((Qai 0 0 l).2.1)+((Qai 0 0 l).1)) (m:=c) (n':=((l.drop ((Qai 0 0 l).2.1)).take (((Qai 0 0 l).2.1)+((Qai 0 0 l).1)-(Qai 0 0 l).2.1)).length) Qbh QcG.1 (Rd.own' hr Y) rfl (.inr ⟨_,_,rfl,rfl⟩) (.inr ⟨_,_,rfl,rfl⟩) (.inl ⟨rfl,rfl⟩) (by omega) (by omega) (Nat.le_trans (show (((Qai 0 0 l).2.1)+((Qai 0 0 l).1))<=l.length by omega) (Rd.roomM (Rd.own' hr Y))) (Nat.le_refl _) (by simp only [List.length_take,List.length_drop]<;>omega) ?_))))))))))
 refine Qaa (Qax (vs:=[.slice (sla a ((Qai 0 0 l).2.1) c 1) (((l.drop ((Qai 0 0 l).2.1)).take (((Qai 0 0 l).2.1)+((Qai 0 0 l).1)-(Qai 0 0 l).2.1)).length) (c-((Qai 0 0 l).2.1))]) (V:=fun x:Option Addr × Nat=>.slice x.1 (((l.drop ((Qai 0 0 l).2.1)).take (((Qai 0 0 l).2.1)+((Qai 0 0 l).1)-(Qai 0 0 l).2.1))).length x.2) QkG rfl rfl (Qh5 _ (sla a ((Qai 0 0 l).2.1) c 1) (c-((Qai 0 0 l).2.1)) ((l.drop ((Qai 0 0 l).2.1)).take (((Qai 0 0 l).2.1)+((Qai 0 0 l).1)-(Qai 0 0 l).2.1)) (by simp only [List.length_take,List.length_drop];omega) (Rd.subM (Rd.own' hr Y) ((Qai 0 0 l).2.1) (((Qai 0 0 l).2.1)+((Qai 0 0 l).1)) c (by omega) (by omega) (Nat.le_trans (show (((Qai 0 0 l).2.1)+((Qai 0 0 l).1))<=l.length by omega) (Rd.roomM (Rd.own' hr Y))) (Nat.le_refl _) _ (by simp only [List.length_take,List.length_drop]<;>omega))) Y fun x8 w9 Y _=>?_)
 refine Qaa (Qag (I6 ((((Qai 0 0 l).2.1)+((Qai 0 0 l).1):Nat):Int)) (Qaa (Qbx (a:=((((Qai 0 0 l).2.1)+((Qai 0 0 l).1):Nat):Int)) (b:=4) (c:=(((((Qai 0 0 l).2.1)+((Qai 0 0 l).1))+4:Nat):Int)) rfl rfl (QaS (by omega) (by omega)) (Qaa (Qak (.slice x8.1 ((((l.drop ((Qai 0 0 l).2.1)).take (((Qai 0 0 l).2.1)+((Qai 0 0 l).1)-(Qai 0 0 l).2.1))).length) x8.2) (Qaa (Qak (I6 (((((Qai 0 0 l).2.1)+((Qai 0 0 l).1))+4:Nat):Int)) (Qaa (Qak (I6 0) (Qad (Qat ?_)))))))))))
 refine ⟨_,Qa9 (U:=.slice x8.1 ((((l.drop ((Qai 0 0 l).2.1)).take (((Qai 0 0 l).2.1)+((Qai 0 0 l).1)-(Qai 0 0 l).2.1))).length) x8.2) (V:=I6 (((((Qai 0 0 l).2.1)+((Qai 0 0 l).1))+4:Nat):Int)) (Z:=I6 0) results77 rfl rfl rfl,?_⟩
 rw [Qja (l:=l) (by omega) (by omega) (by omega) c7]
 rw [Nat.add_sub_cancel_left] at Y
 exact ⟨(x8.1,x8.2),by rw [Nat.add_sub_cancel_left];rfl,Y.only 0 rfl,trivial⟩
end Tt
end Go.Proofs
namespace Go.Proofs
open Go Go.Vx Go.RowKit
open Tryz
namespace Tt
theorem QoV (w:World) (n:Nat) (hn:n<=1000000):Calls prog 244 #[.slice none 0 0,.int .i64 (n:Int)] w (fun e w'=>∃ x:Option Addr × Nat,e = .returned (.slice x.1 0 x.2)/\Own w no w' [row (.slice x.1 0 x.2) ([].map (ic .u8)) 5 1]/\True):=by
 refine Qal (n:=27) func244 rfl ntmps244 rfl ?_
 have Y:=Own.start w
 refine Qae (Qab (Qaa (Qak (.slice none 0 0) (Qad (Qae (Qae (Qab (Qaa (Qag (I6 (n:Int)) (Qaa (Qas (V:=.bool (decide ((n:Int)<0))) (V':=.bool false) (QbQ rfl rfl ⟨rfl,rfl⟩) (congrArg Value.bool (QQ4 (by omega))) (Qad (QcR rfl ?_)))))))))))))
 refine Qar (Qae (Qae (Qab (Qaa (Qag (I6 (n:Int)) (Qaa (Qag (.slice none 0 0) (Qaa (Qq8 QbJ rfl (Qaa (Qag (.slice none 0 0) (Qaa (QbG (n:=0) QbJ (Rd.nil _ 1) (by simp) rfl (Qaa (Qh2 (a:=0) (b:=(0:Int)) (c:=((0-0:Nat):Int)) rfl rfl (QaS (by omega) (by omega)) (Qaa (Qh2 (a:=(n:Int)) (b:=((0-0:Nat):Int)) (c:=((n-(0-0):Nat):Int)) rfl rfl (QaS (by omega) (by omega)) (Qaa (Qak (I6 ((n-(0-0):Nat):Int)) (Qad (Qae (Qab (Qaa (Qag (I6 ((n-(0-0):Nat):Int)) (Qaa (Qck rfl rfl (Qad (Qaq (t:=decide (0<((n-(0-0):Nat):Int))) rfl (fun c1=>?_) (fun c1=>?_)))))))))))))))))))))))))))))
 ·
  replace c1:=QQ1 c1
  refine Qab (Qaa (Qag (.slice none 0 0) (Qaa (Qag (.slice none 0 0) (Qaa (Qq8 QbJ rfl (Qaa (Qkk (l:=0) (h:=0) (m:=0) (n':=(([]:List Int).take 0).length) Qbh QcG.1 (Rd.nil _ 1) rfl (.inl ⟨rfl,rfl⟩) (.inr ⟨_,_,rfl,rfl⟩) (.inl ⟨rfl,rfl⟩) (by omega) (by omega) (Nat.zero_le _) (Nat.le_refl _) (by simp only [List.length_take,List.length_drop]<;>omega) (Qaa (Qag (I6 ((n-(0-0):Nat):Int)) (Qaa (QsB (zl:=(ic .u8) 0) (ls':=(List.replicate (n-(0-0)) (0:Int)).map (ic .u8)) Qca QvA (.inr ⟨_,rfl,Qwr,rfl⟩) Y rfl rfl (by omega) ((Qbj .u8) _) rfl (by omega) (by simp only [List.map_replicate]) (List.replicate (n-(0-0)) (0:Int)).length (by rw [QQ6]) fun a2 c2 w3 Y=>(Qaa (Qag (.slice none 0 0) (Qaa (QbG (n:=0) QbJ (Rd.nil _ 1) (by simp) rfl (Qaa (Qkk (l:=0) (h:=0) (m:=c2) (n':=((List.replicate (n-(0-0)) (0:Int)).take 0).length) Qbh QcG.1 (Y.rd 0 rfl) rfl (.inl ⟨rfl,rfl⟩) (.inr ⟨_,_,rfl,rfl⟩) (.inl ⟨rfl,rfl⟩) (by omega) (by omega) (Nat.le_trans (show 0<=(List.replicate (n-(0-0)) (0:Int)).length by omega) (Rd.roomM (Y.rd 0 rfl))) (Nat.le_refl _) (by simp only [List.length_take,List.length_drop]<;>omega) ?_))))))))))))))))))
  refine Qaa (Qak (.slice (sla a2 0 c2 1) (((List.replicate (n-(0-0)) (0:Int)).take 0).length) (c2-0)) (Qad (Qae (Qab (Qaa (Qag (.slice (sla a2 0 c2 1) (((List.replicate (n-(0-0)) (0:Int)).take 0).length) (c2-0)) (Qaa (Qak (.slice (sla a2 0 c2 1) (((List.replicate (n-(0-0)) (0:Int)).take 0).length) (c2-0)) (Qad (Qat ?_))))))))))
  refine ⟨_,Qau (V:=.slice (sla a2 0 c2 1) (((List.replicate (n-(0-0)) (0:Int)).take 0).length) (c2-0)) results244 rfl,?_⟩
  replace Y:=Y.cutRow 0 rfl 0 (by omega)
  rw [List.take_zero] at Y
  exact ⟨(a2,c2),by rw [QpC];rfl,Y.only 0 rfl,trivial⟩
 replace c1:=QQ2 c1
 refine Qar (Qae (Qab (Qaa (Qag (.slice none 0 0) (Qaa (Qak (.slice none 0 0) (Qad (Qat ?_))))))))
 refine ⟨_,Qau (V:=.slice none 0 0) results244 rfl,?_⟩
 exact ⟨(none,0),rfl,(Y.take 0).more _ (QaK _ _ _ _),trivial⟩
theorem Qoi (w:World) (a:Option Addr) (c:Nat) (ls:List Bsl) (hel:∀ x∈ls,Rd w (.slice x.a x.l.length x.c) 1 (x.l.map (ic .u8))) (hl:(Qcr ls).length<=1000000) (hr:Rd w (.slice a ls.length c) 1 (ls.map bse)):Calls prog 187 #[.slice a ls.length c] w (fun e w'=>∃ x:Option Addr × Nat,e = .returned (.slice x.1 (Qcr ls).length x.2)/\Own w no w' [row (.slice x.1 (Qcr ls).length x.2) ((Qcr ls).map (ic .u8)) 5 1]/\True):=by
 refine Qal (n:=36) func187 rfl ntmps187 rfl ?_
 have Y:=Own.start w
 have hn:=hr.sml
 refine Qae (Qab (Qaa (Qak (.slice none 0 0) (Qad (Qae (Qab (Qaa (Qak (I6 0) (Qad (Qae (Qae (Qab (Qaa (Qag (.slice a ls.length c) (Qaa (QbG (n:=ls.length) Qlu (Rd.own' hr Y) (by simp) rfl (Qaa (Qag (I6 0) (Qad (Qay (Qbb (fun J μ J' w'=>∃ (Jo:Env) (k:Nat),J'=upd (upd (mix ([3,5]++sq 11 12) Jo J) 11 (I6 (k:Int))) 3 (I6 (((Qcr (ls.take k)).length:Nat):Int))/\(k<=ls.length)/\μ=ls.length-k/\Own w no w' []) ?_ ?_)))))))))))))))))))))
 ·exact ⟨_,_,0,Qaw (Qaw (QaN (ds:=([3,5]++sq 11 12)) (Agr.refl _ _)) rfl) rfl,(Nat.zero_le _),rfl,Y⟩
 rintro μ J' w1 ⟨Jo,k,rfl,hk,rfl,Y⟩
 have hck:=QgK (l:=ls) (k:=k)
 refine Qae (Qab (Qaa (QbQ rfl rfl (Qad (Qae (Qaq (t:=decide ((k:Int)<((ls.length:Nat):Int))) rfl (fun c2=>?_) (fun c2=>?_)))))))
 ·
  replace c2:=QQ1 c2
  refine Qar (Qae (Qay (Qae (Qab (Qaa (QcJ Qlu QbD.1 (Rd.own' hr Y) rfl rfl (by omega) (by rw [QQ6];omega) (Qaa (QdX (j:=0) (V:=.slice ((gd ls k).a) ((gd ls k).l.length) ((gd ls k).c)) k QbD (Rd.own' hr Y) (QcN (by omega)) rfl rfl (by omega) (Qaa (Qak (.slice ((gd ls k).a) ((gd ls k).l.length) ((gd ls k).c)) (Qad (Qae ?_))))))))))))
  have hck1:=QgK (l:=ls) (k:=k+1)
  rw [QeK (by omega),QQ7] at hck1
  refine Qab (Qaa (Qag (I6 (((Qcr (ls.take k)).length:Nat):Int)) (Qaa (Qag (.slice ((gd ls k).a) ((gd ls k).l.length) ((gd ls k).c)) (Qaa (QbG (n:=(gd ls k).l.length) QbJ (Rd.own' (hel _ (Qcw (by omega))) Y) (by simp) rfl (Qaa (Qbx (a:=(((Qcr (ls.take k)).length:Nat):Int)) (b:=(((gd ls k).l.length:Nat):Int)) (c:=((((Qcr (ls.take k)).length)+((gd ls k).l.length):Nat):Int)) rfl rfl (QaS (by omega) (by omega)) (Qaa (Qak (I6 ((((Qcr (ls.take k)).length)+((gd ls k).l.length):Nat):Int)) (Qad (Qae (Qab (Qaa (Qag (I6 ((((Qcr (ls.take k)).length)+((gd ls k).l.length):Nat):Int)) (Qaa (Qas (V:=.bool (decide (((((Qcr (ls.take k)).length)+((gd ls k).l.length):Nat):Int)<0))) (V':=.bool false) (QbQ rfl rfl ⟨rfl,rfl⟩) (congrArg Value.bool (QQ4 (by omega))) (Qad (QcR rfl ?_)))))))))))))))))))
  refine Qar (Qab (Qaa (Qbx (a:=(k:Int)) (b:=1) (c:=((k+1:Nat):Int)) rfl rfl (QaS (by omega) (by omega)) (Qaa (Qag (I6 ((k+1:Nat):Int)) (Qad ?_))))))
  refine ⟨_,?_,_,k+1,Qaw (Qaw (QaN (ds:=([3,5]++sq 11 12)) (by repeat (first|exact Agr.refl _ _|refine Agr.upd ?_ rfl|refine Agr.mix ?_ rfl))) rfl) (congrArg (fun z:Nat=>(Value.int .i64 (z:Int))) (by rw [QeK (by omega),QQ7])),(by omega),rfl,Y.take 0⟩
  omega
 replace c2:=QQ2 c2
 refine Qbs (Qae ?_)
 have hck0:=QgK (l:=ls) (k:=k)
 refine Qab (Qaa (Qag (I6 (((Qcr (ls.take k)).length:Nat):Int)) (Qaa (Qax (vs:=[.slice none 0 0,I6 (((Qcr (ls.take k)).length:Nat):Int)]) (V:=fun x:Option Addr × Nat=>.slice x.1 (([]:List Int)).length x.2) Qul rfl rfl (QoV _ ((Qcr (ls.take k)).length) (by omega)) Y fun x3 w4 Y _=>(Qaa (Qak (.slice x3.1 ((([]:List Int)).length) x3.2) (Qad (Qae (Qae (Qab (Qaa (Qag (.slice a ls.length c) (Qaa (QbG (n:=ls.length) Qlu (Rd.own' hr Y) (by simp) rfl (Qaa (Qag (I6 0) (Qad (Qay (Qbb (fun J μ J' w'=>∃ (Jo:Env) (j:Nat) (a9:Option Addr) (c9:Nat) (L:List Int),J'=upd (upd (mix ([6,8]++sq 27 8) Jo J) 27 (I6 (j:Int))) 6 (.slice a9 L.length c9)/\(j<=ls.length)/\(L=Qcr (ls.take j))/\μ=ls.length-j/\Own w no w' [row (.slice a9 L.length c9) (L.map (ic .u8)) 5 1]) ?_ ?_)))))))))))))))))))
 ·exact ⟨_,_,0,x3.1,x3.2,[],Qaw (Qaw (QaN (ds:=([6,8]++sq 27 8)) (Agr.refl _ _)) rfl) rfl,(Nat.zero_le _),rfl,rfl,Y⟩
 rintro μ J' w5 ⟨Jo,j,a9,c9,L,rfl,hk,hL,rfl,Y⟩
 have hck:=QgK (l:=ls) (k:=j)
 have hLl:L.length<=1000000:=by rw [hL];omega
 refine Qae (Qab (Qaa (QbQ rfl rfl (Qad (Qae (Qaq (t:=decide ((j:Int)<((ls.length:Nat):Int))) rfl (fun c6=>?_) (fun c6=>?_)))))))
 ·
  replace c6:=QQ1 c6
  refine Qar (Qae (Qay (Qae (Qab (Qaa (QcJ Qlu QbD.1 (Rd.own' hr Y) rfl rfl (by omega) (by rw [QQ6];omega) (Qaa (QdX (j:=0) (V:=.slice ((gd ls j).a) ((gd ls j).l.length) ((gd ls j).c)) j QbD (Rd.own' hr Y) (QcN (by omega)) rfl rfl (by omega) (Qaa (Qak (.slice ((gd ls j).a) ((gd ls j).l.length) ((gd ls j).c)) (Qad ?_)))))))))))
  have hck1:=QgK (l:=ls) (k:=j+1)
  rw [QeK (by omega),QQ7] at hck1
  refine Qab (Qaa (Qag (.slice a9 L.length c9) (Qaa (Qag (.slice ((gd ls j).a) ((gd ls j).l.length) ((gd ls j).c)) (Qaa (QbH (ls':=(L++((gd ls j).l)).map (ic .u8)) (n:=(L++((gd ls j).l)).length) Qca Y 0 rfl rfl rfl (Rd.own' (hel _ (Qcw (by omega))) Y) (QaV (Qbj .u8) _) (by simp only [QQ6,QQ7,List.length_cons,List.length_nil];omega) (by simp) (by simp) fun a7 c7 w8 Y=>(Qaa (Qak (.slice a7 ((L++((gd ls j).l)).length) c7) (Qad (Qab (Qaa (Qbx (a:=(j:Int)) (b:=1) (c:=((j+1:Nat):Int)) rfl rfl (QaS (by omega) (by omega)) (Qaa (Qag (I6 ((j+1:Nat):Int)) (Qad ?_)))))))))))))))
  refine ⟨_,?_,_,j+1,a7,c7,L++((gd ls j).l),Qaw (Qaw (QaN (ds:=([6,8]++sq 27 8)) (by repeat (first|exact Agr.refl _ _|refine Agr.upd ?_ rfl|refine Agr.mix ?_ rfl))) rfl) rfl,(by omega),(by rw [hL,QeK (by omega)]),rfl,Y.take 1⟩
  omega
 replace c6:=QQ2 c6
 refine Qbs (Qae (Qab (Qaa (Qag (.slice a9 L.length c9) (Qaa (Qak (.slice a9 L.length c9) (Qad (Qat ?_))))))))
 refine ⟨_,Qau (V:=.slice a9 L.length c9) results187 rfl,?_⟩
 have hX:L=Qcr ls:=by rw [hL,List.take_of_length_le (by omega)]
 subst hX
 exact ⟨(a9,c9),rfl,Y.only 0 rfl,trivial⟩
end Tt
end Go.Proofs
