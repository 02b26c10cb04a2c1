/- A part of a proof: what functions of the program compute, and plain facts on that. -/
import Derived.Test.YtbkdlibbcepppaaGreatDoorShipBytesP9
import Derived.Test.YtbkdlibbcepppaaGreatDoorShipBytesP6
set_option linter.unusedVariables false
set_option linter.unusedSectionVars false
set_option linter.unusedSimpArgs false
set_option maxHeartbeats 4000000
set_option maxRecDepth 100000
namespace Go.Proofs
open Go Go.Vx Go.RowKit
open Tryz
namespace Tt
theorem Qpu (w:World) (a:Option Addr) (c:Nat) (l:Bs) (hby:QaZ l) (hl:l.length<=100000) (hr:Rd w (.slice a l.length c) 1 (l.map (ic .u8))):Calls prog 27 #[.slice a l.length c] w (fun e w'=>∃ y:Msv × Nat,e = .returned (.tuple #[.agg (msv y.1).toArray,.int .i64 ((y.2:Nat):Int)])/\Own w no w' [row (.slice y.1.a y.1.c.ops.length y.1.n) (y.1.c.ops.map oc) 54 23]/\(QcT l y.1.c y.2/\∀ w1,Rd w1 (.slice a l.length c) 1 (l.map (ic .u8))->Rd w1 (.slice y.1.a2 y.1.c.b.length y.1.n2) 1 (y.1.c.b.map (ic .u8)))):=by
 refine Qal (n:=134) func27 rfl ntmps27 rfl ?_
 have Y:=Own.start w
 have hn:=hr.sml
 refine Qae (Qab (Qaa (QaX (cs:=msv (⟨⟨0,0,vzero,[],0,0,[]⟩,none,0,none,0⟩:Msv)) Qpx rfl Y fun b1 w2 Y=>(Qaa (Qak (I6 0) (Qad (Qae (Qab (Qaa (Qag (.slice a l.length c) (Qaa (Qax (vs:=[.slice a l.length c]) (V:=fun y:(Option Addr × Nat) × Bs × Nat × Nat=>.tuple #[.slice y.1.1 y.2.1.length y.1.2,I6 ((y.2.2.1:Nat):Int),I6 ((y.2.2.2:Nat):Int)]) (Lo:=fun _=>[]) Qv9 rfl rfl (QpV _ a c l hby (by omega) (Rd.own' hr Y)) Y fun y3 w4 Y hFF=>?_))))))))))))
 obtain ⟨hFi,hFb,hFl,hFr⟩:=hFF
 refine Qaa (Qag (.tuple #[.slice y3.1.1 y3.2.1.length y3.1.2,I6 ((y3.2.2.1:Nat):Int),I6 ((y3.2.2.2:Nat):Int)]) (Qaa (Qaf (V:=.slice y3.1.1 y3.2.1.length y3.1.2) rfl rfl (Qaa (Qaf (V:=I6 ((y3.2.2.1:Nat):Int)) rfl rfl (Qaa (Qaf (V:=I6 ((y3.2.2.2:Nat):Int)) rfl rfl (Qaa (Qak (.slice y3.1.1 y3.2.1.length y3.1.2) (Qaa (Qak (I6 ((y3.2.2.1:Nat):Int)) (Qaa (Qak (I6 ((y3.2.2.2:Nat):Int)) (Qad (Qae (Qae (Qab (Qaa (Qag (I6 ((y3.2.2.2:Nat):Int)) (Qaa (QbM rfl rfl (Qad (Qaq (t:=!decide (((y3.2.2.2:Nat):Int)=0)) rfl (fun c5=>?_) (fun c5=>?_))))))))))))))))))))))))
 ·
  replace c5:=Qcb c5
  replace c5:=QQ2 c5
  refine Qae ?_
  have hno:=Qll hFi (by omega)
  refine Qab (Qaa (Qbi (vs:=[]) (cs:=msv (⟨⟨0,0,vzero,[],0,0,[]⟩,none,0,none,0⟩:Msv)) [[(I6 0:Value)],[(.int .u8 0:Value)],vc vzero,[(.slice none 0 0:Value)],[(I6 0:Value)],[(I6 0:Value)],[(.slice none 0 0:Value)]] [[(I6 0:Value)],[(.int .u8 0:Value)],vc vzero,[(.slice none 0 0:Value)],[(I6 0:Value)],[(I6 0:Value)],[(.slice none 0 0:Value)]] Ql3 rfl (rfl) rfl rfl (Qaa (Qag (I6 ((y3.2.2.2:Nat):Int)) (Qaa (QbN (V:=.agg (msv (⟨⟨0,0,vzero,[],0,0,[]⟩,none,0,none,0⟩:Msv)).toArray) (vs:=msv (⟨⟨0,0,vzero,[],0,0,[]⟩,none,0,none,0⟩:Msv)) (cs':=msv (⟨⟨0,0,vzero,[],0,0,[]⟩,none,0,none,0⟩:Msv)) QbI.1 Y 0 rfl rfl rfl rfl rfl (QQ8 rfl) (Qbo _) (Qao rfl) fun w6 Y=>?_))))))
  replace Y:=Ow [blk b1 (msv (⟨⟨0,0,vzero,[],0,0,[]⟩,none,0,none,0⟩:Msv)) 86] Y
  refine Qaa (Qak (I6 ((y3.2.2.2:Nat):Int)) (Qad (Qat ?_)))
  refine ⟨_,QaD (cs:=msv (⟨⟨0,0,vzero,[],0,0,[]⟩,none,0,none,0⟩:Msv)) (V:=I6 ((y3.2.2.2:Nat):Int)) results27 QbI Y 0 rfl rfl rfl rfl,?_⟩
  exact ⟨((⟨⟨0,0,vzero,[],0,0,[]⟩,none,0,none,0⟩:Msv),y3.2.2.2),rfl,(Y.take 0).more (row (.slice none 0 0) (([]:List Opn).map oc) 54 23) (QaK _ _ _ _),hno,fun _ _=>Rd.nil _ _⟩
 replace c5:=Qa3 c5
 replace c5:=QQ1 c5
 refine Qar (Qae ?_)
 have he0:y3.2.2.2=0:=by omega
 rw [he0] at hFi
 obtain ⟨x0,hx0⟩:∃ x:Rdv,x=⟨y3.1.1,y3.1.2,0,y3.2.1⟩:=⟨_,rfl⟩
 have h0x:x0.ok w:=by rw [hx0];exact ⟨hFr _ hr,hFb,by show (0:Int)<=0;omega⟩
 have h0r:x0.r=⟨0,y3.2.1⟩:=by rw [hx0];rfl
 have h0l:x0.l.length<=100000:=by rw [hx0];show y3.2.1.length<=_;omega
 refine Qab (Qaa (Qag (.slice y3.1.1 y3.2.1.length y3.1.2) (Qaa (Qas (V:=.agg (rve (⟨y3.1.1,y3.1.2,0,y3.2.1⟩:Rdv)).toArray) (V':=.agg (rve x0).toArray) (Qbz (vs:=[(0,.slice y3.1.1 y3.2.1.length y3.1.2)]) (cs:=rve (⟨y3.1.1,y3.1.2,0,y3.2.1⟩:Rdv)) QnG (rfl) rfl ⟨rfl,rfl⟩) (by rw [hx0]<;>rfl) (Qaa (Qax (vs:=[.agg (rve x0).toArray]) (V:=fun y:Nat × Nat × Rdv=>.tuple #[.agg (rve y.2.2).toArray,.int .u64 ((y.1:Nat):Int),I6 ((y.2.1:Nat):Int)]) (Lo:=fun _=>[]) QhR rfl rfl (Qjh _ x0 (Rdv.own h0x Y) (by omega)) Y fun y7 w8 Y hN9=>?_))))))
 obtain ⟨hN9,hN9b,hN9l,hN9k⟩:=hN9
 refine Qaa (Qag (.tuple #[.agg (rve y7.2.2).toArray,.int .u64 ((y7.1:Nat):Int),I6 ((y7.2.1:Nat):Int)]) (Qaa (Qaf (V:=.agg (rve y7.2.2).toArray) rfl rfl (Qaa (Qaf (V:=.int .u64 ((y7.1:Nat):Int)) rfl rfl (Qaa (Qaf (V:=I6 ((y7.2.1:Nat):Int)) rfl rfl (Qaa (QaX (cs:=rve (⟨none,0,0,[]⟩:Rdv)) Qda rfl Y fun b10 w11 Y=>?_)))))))))
 replace Y:=Ow [blk b1 (msv (⟨⟨0,0,vzero,[],0,0,[]⟩,none,0,none,0⟩:Msv)) 86,blk b10 (rve (⟨none,0,0,[]⟩:Rdv)) 174] Y
 refine Qaa (QbN (V:=.agg (rve y7.2.2).toArray) (vs:=rve y7.2.2) (cs':=rve y7.2.2) QaW.1 Y 1 rfl rfl rfl rfl rfl (QQ8 rfl) (Qbn _) (Qao rfl) fun w12 Y=>(Qaa (Qak (.int .u64 ((y7.1:Nat):Int)) (Qaa (Qak (I6 ((y7.2.1:Nat):Int)) (Qad (Qae (Qab (Qaa (Qa1 (cs:=rve y7.2.2) QaW Y 1 rfl rfl rfl (Qaa (Qax (vs:=[.agg (rve y7.2.2).toArray]) (V:=fun y:Nat × Nat × Rdv=>.tuple #[.agg (rve y.2.2).toArray,.int .u64 ((y.1:Nat):Int),I6 ((y.2.1:Nat):Int)]) (Lo:=fun _=>[]) QhR rfl rfl (Qjh _ y7.2.2 (Rdv.own (hN9k _ h0x) Y) (by omega)) Y fun y13 w14 Y hN15=>?_))))))))))))
 obtain ⟨hN15,hN15b,hN15l,hN15k⟩:=hN15
 refine Qaa (Qag (.tuple #[.agg (rve y13.2.2).toArray,.int .u64 ((y13.1:Nat):Int),I6 ((y13.2.1:Nat):Int)]) (Qaa (Qaf (V:=.agg (rve y13.2.2).toArray) rfl rfl (Qaa (Qaf (V:=.int .u64 ((y13.1:Nat):Int)) rfl rfl (Qaa (Qaf (V:=I6 ((y13.2.1:Nat):Int)) rfl rfl (Qaa (QbN (V:=.agg (rve y13.2.2).toArray) (vs:=rve y13.2.2) (cs':=rve y13.2.2) QaW.1 Y 1 rfl rfl rfl rfl rfl (QQ8 rfl) (Qbn _) (Qao rfl) fun w16 Y=>?_)))))))))
 replace Y:=Ow [blk b1 (msv (⟨⟨0,0,vzero,[],0,0,[]⟩,none,0,none,0⟩:Msv)) 86,blk b10 (rve y13.2.2) 174] Y
 refine Qaa (Qak (.int .u64 ((y13.1:Nat):Int)) (Qaa (Qak (I6 ((y13.2.1:Nat):Int)) (Qad (Qae (Qab (Qaa (Qa1 (cs:=rve y13.2.2) QaW Y 1 rfl rfl rfl (Qaa (Qax (vs:=[.agg (rve y13.2.2).toArray]) (V:=fun y:(Option Addr × Nat) × Bs × Nat × Rdv=>.tuple #[.agg (rve y.2.2.2).toArray,.slice y.1.1 y.2.1.length y.1.2,I6 ((y.2.2.1:Nat):Int)]) (Lo:=fun _=>[]) Qp6 rfl rfl (Qiw _ y13.2.2 (Rdv.own (hN15k _ (hN9k _ h0x)) Y) (by omega)) Y fun y17 w18 Y hB19=>?_))))))))))
 obtain ⟨hB19,hB19b,hB19l,hB19m,hB19k⟩:=hB19
 refine Qaa (Qag (.tuple #[.agg (rve y17.2.2.2).toArray,.slice y17.1.1 y17.2.1.length y17.1.2,I6 ((y17.2.2.1:Nat):Int)]) (Qaa (Qaf (V:=.agg (rve y17.2.2.2).toArray) rfl rfl (Qaa (Qaf (V:=.slice y17.1.1 y17.2.1.length y17.1.2) rfl rfl (Qaa (Qaf (V:=I6 ((y17.2.2.1:Nat):Int)) rfl rfl (Qaa (QbN (V:=.agg (rve y17.2.2.2).toArray) (vs:=rve y17.2.2.2) (cs':=rve y17.2.2.2) QaW.1 Y 1 rfl rfl rfl rfl rfl (QQ8 rfl) (Qbn _) (Qao rfl) fun w20 Y=>(Qaa (Qak (.slice y17.1.1 y17.2.1.length y17.1.2) (Qaa (Qak (I6 ((y17.2.2.1:Nat):Int)) (Qad ?_))))))))))))))
 have hHd:=HdN.mk' (by rw [← h0r];exact hN9) hN15 hB19
 refine Qae (Qab (Qaa (Qag (.slice y17.1.1 y17.2.1.length y17.1.2) (Qaa (Qax (vs:=[.slice y17.1.1 y17.2.1.length y17.1.2]) (V:=fun x:Vec × Nat=>.tuple #[.agg (vc x.1).toArray,I6 ((x.2:Nat):Int)]) QtT rfl rfl (Qlj _ y17.1.1 y17.1.2 y17.2.1 hB19b (by omega) (Rd.own' (hB19k _ (hN15k _ (hN9k _ h0x))).2 Y)) Y fun x21 w22 Y hd23=>?_)))))
 replace Y:=Ow [blk b1 (msv (⟨⟨0,0,vzero,[],0,0,[]⟩,none,0,none,0⟩:Msv)) 86,blk b10 (rve y17.2.2.2) 174] Y
 refine Qaa (Qag (.tuple #[.agg (vc x21.1).toArray,I6 ((x21.2:Nat):Int)]) (Qaa (Qaf (V:=.agg (vc x21.1).toArray) rfl rfl (Qaa (Qaf (V:=I6 ((x21.2:Nat):Int)) rfl rfl (Qaa (QaX (cs:=vc vzero) Ql5 rfl Y fun b24 w25 Y=>(Qaa (QbN (V:=.agg (vc x21.1).toArray) (vs:=vc x21.1) (cs':=vc x21.1) QbC.1 Y 2 rfl rfl rfl rfl rfl (QQ8 rfl) (QdC _) (Qao rfl) fun w26 Y=>?_)))))))))
 replace Y:=Ow [blk b1 (msv (⟨⟨0,0,vzero,[],0,0,[]⟩,none,0,none,0⟩:Msv)) 86,blk b10 (rve y17.2.2.2) 174,blk b24 (vc x21.1) 36] Y
 refine Qaa (Qak (I6 ((x21.2:Nat):Int)) (Qad (Qae (Qae (Qa2 (so 62 10) [] [0,1,3,7,15,31,63,127,255,511] [pv (I6 ((x21.2:Nat):Int)),pv (.bool (!decide (((x21.2:Nat):Int)=0))),pv (.bool (!decide (((x21.2:Nat):Int)=0))),pg ((!decide (((x21.2:Nat):Int)=0)) == false) (.int .u64 ((y7.1:Nat):Int)),pg ((!decide (((x21.2:Nat):Int)=0)) == false) (.bool (decide (3<((y7.1:Nat):Int)))),pv (.bool ((!decide (((x21.2:Nat):Int)=0))||(decide (3<((y7.1:Nat):Int))))),pv (.bool ((!decide (((x21.2:Nat):Int)=0))||(decide (3<((y7.1:Nat):Int))))),pg (((!decide (((x21.2:Nat):Int)=0))||(decide (3<((y7.1:Nat):Int)))) == false) (.int .u64 ((y13.1:Nat):Int)),pg (((!decide (((x21.2:Nat):Int)=0))||(decide (3<((y7.1:Nat):Int)))) == false) (.bool (decide (15<((y13.1:Nat):Int)))),pv (.bool (((!decide (((x21.2:Nat):Int)=0))||(decide (3<((y7.1:Nat):Int))))||(decide (15<((y13.1:Nat):Int)))))] (fun _ _=>_) [9] (by kernel_rfl) Y ⟨?_,?_,?_,?_,?_,?_,?_,?_,?_,?_,trivial⟩ ?_)))))
 ·exact oi [] fun Y=>Qag (.int .i64 ((x21.2:Nat):Int)) (Zz Y)
 ·exact oi [0] fun Y=>QbM rfl rfl (Zz Y)
 ·exact oi [1] fun Y=>Qag (.bool (!decide (((x21.2:Nat):Int)=0))) (Zz Y)
 ·exact ogi [2] fun hG Y=>Qag (.int .u64 ((y7.1:Nat):Int)) (Zz Y)
 ·exact oyi [2,3] [3] fun hG Y=>Qck rfl rfl (Zz Y)
 ·exact oi [2,4] fun Y=>QbL (h':=decide (3<((y7.1:Nat):Int))) rfl rfl rfl (Zz Y)
 ·exact oi [5] fun Y=>Qag (.bool ((!decide (((x21.2:Nat):Int)=0))||(decide (3<((y7.1:Nat):Int))))) (Zz Y)
 ·exact ogi [6] fun hG Y=>Qag (.int .u64 ((y13.1:Nat):Int)) (Zz Y)
 ·exact oyi [6,7] [7] fun hG Y=>Qck rfl rfl (Zz Y)
 ·exact oi [6,8] fun Y=>QbL (h':=decide (15<((y13.1:Nat):Int))) rfl rfl rfl (Zz Y)
 rintro J1 w27 J2 hJ Y
 replace hJ:J2=upd (mix (sq 62 10) J1 _) 71 (.bool (((!decide (((x21.2:Nat):Int)=0))||(decide (3<((y7.1:Nat):Int))))||(decide (15<((y13.1:Nat):Int))))):=hJ
 subst hJ
 refine Qaq (t:=((!decide (((x21.2:Nat):Int)=0))||(decide (3<((y7.1:Nat):Int))))||(decide (15<((y13.1:Nat):Int)))) rfl (fun c28=>?_) (fun c28=>?_)
 ·
  refine Qae ?_
  have hno:QcT l mscz 5:=Qth hFi hHd hd23 (by
    have h9:=c28
    simp only [Bool.or_eq_true,Bool.not_eq_true',decide_eq_true_eq,decide_eq_false_iff_not] at h9
    omega)
  refine Qab (Qaa (Qbi (vs:=[]) (cs:=msv (⟨⟨0,0,vzero,[],0,0,[]⟩,none,0,none,0⟩:Msv)) [[(I6 0:Value)],[(.int .u8 0:Value)],vc vzero,[(.slice none 0 0:Value)],[(I6 0:Value)],[(I6 0:Value)],[(.slice none 0 0:Value)]] [[(I6 0:Value)],[(.int .u8 0:Value)],vc vzero,[(.slice none 0 0:Value)],[(I6 0:Value)],[(I6 0:Value)],[(.slice none 0 0:Value)]] Ql3 rfl (rfl) rfl rfl (Qaa (QbN (V:=.agg (msv (⟨⟨0,0,vzero,[],0,0,[]⟩,none,0,none,0⟩:Msv)).toArray) (vs:=msv (⟨⟨0,0,vzero,[],0,0,[]⟩,none,0,none,0⟩:Msv)) (cs':=msv (⟨⟨0,0,vzero,[],0,0,[]⟩,none,0,none,0⟩:Msv)) QbI.1 Y 0 rfl rfl rfl rfl rfl (QQ8 rfl) (Qbo _) (Qao rfl) fun w29 Y=>(Qaa (Qak (I6 5) (Qad (Qat ?_))))))))
  refine ⟨_,QaD (cs:=msv (⟨⟨0,0,vzero,[],0,0,[]⟩,none,0,none,0⟩:Msv)) (V:=I6 5) results27 QbI Y 0 rfl rfl rfl rfl,?_⟩
  exact ⟨((⟨⟨0,0,vzero,[],0,0,[]⟩,none,0,none,0⟩:Msv),5),rfl,(Y.take 0).more (row (.slice none 0 0) (([]:List Opn).map oc) 54 23) (QaK _ _ _ _),hno,fun _ _=>Rd.nil _ _⟩
 have c28r:=QdH c28
 replace c28:=QdJ c28
 have c28rr:=QdH c28
 replace c28:=QdJ c28
 replace c28:=Qa3 c28
 replace c28:=QQ1 c28
 replace c28rr:=QQ2 c28rr
 replace c28r:=QQ2 c28r
 refine Qar (Qae ?_)
 have hv0:x21.2=0:=by omega
 have hdv:QcA y17.2.1 x21.1 0:=by rw [← hv0];exact hd23
 have hk3:y7.1<=3:=by omega
 have hx15:y13.1<=15:=by omega
 refine Qab (Qaa (Qag (.int .u64 ((y7.1:Nat):Int)) (Qaa (QaB Qa6 QfT rfl (Qc1 (by omega) (by omega)) (Qaa (Qag (.int .u64 ((y13.1:Nat):Int)) (Qaa (QaB Qa6 Qfe rfl (Qki (by omega) (by omega)) (Qaa (Qa1 (cs:=vc x21.1) QbC Y 2 rfl rfl rfl (Qaa (Qbi (vs:=[(0,I6 ((y7.1:Nat):Int)),(1,.int .u8 ((y13.1:Nat):Int)),(2,.agg (vc x21.1).toArray)]) (cs:=msv (⟨⟨((y7.1:Nat):Int),((y13.1:Nat):Int),x21.1,[],0,0,[]⟩,none,0,none,0⟩:Msv)) [[(I6 0:Value)],[(.int .u8 0:Value)],vc vzero,[(.slice none 0 0:Value)],[(I6 0:Value)],[(I6 0:Value)],[(.slice none 0 0:Value)]] [[(I6 ((y7.1:Nat):Int):Value)],[(.int .u8 ((y13.1:Nat):Int):Value)],vc x21.1,[(.slice none 0 0:Value)],[(I6 0:Value)],[(I6 0:Value)],[(.slice none 0 0:Value)]] Ql3 rfl (rfl) rfl rfl (Qaa (QaX (cs:=msv (⟨⟨0,0,vzero,[],0,0,[]⟩,none,0,none,0⟩:Msv)) Qpx rfl Y fun b30 w31 Y=>(Qaa (QbN (V:=.agg (msv (⟨⟨((y7.1:Nat):Int),((y13.1:Nat):Int),x21.1,[],0,0,[]⟩,none,0,none,0⟩:Msv)).toArray) (vs:=msv (⟨⟨((y7.1:Nat):Int),((y13.1:Nat):Int),x21.1,[],0,0,[]⟩,none,0,none,0⟩:Msv)) (cs':=msv (⟨⟨((y7.1:Nat):Int),((y13.1:Nat):Int),x21.1,[],0,0,[]⟩,none,0,none,0⟩:Msv)) QbI.1 Y 3 rfl rfl rfl rfl rfl (QQ8 rfl) (Qbo _) (Qao rfl) fun w32 Y=>?_))))))))))))))))
 replace Y:=Ow [blk b1 (msv (⟨⟨0,0,vzero,[],0,0,[]⟩,none,0,none,0⟩:Msv)) 86,blk b10 (rve y17.2.2.2) 174,blk b24 (vc x21.1) 36,blk b30 (msv (⟨⟨((y7.1:Nat):Int),((y13.1:Nat):Int),x21.1,[],0,0,[]⟩,none,0,none,0⟩:Msv)) 86] Y
 refine Qad (Qae (Qae (Qab (Qaa (Qag (.int .u64 ((y7.1:Nat):Int)) (Qaa (Qa5 rfl rfl (Qad (Qaq (t:=decide (((y7.1:Nat):Int)=2)) rfl (fun c33=>?_) (fun c33=>?_))))))))))
 ·
  replace c33:=QQ1 c33
  refine Qae (Qab (Qaa (Qa1 (cs:=rve y17.2.2.2) QaW Y 1 rfl rfl rfl (Qaa (Qax (vs:=[.agg (rve y17.2.2.2).toArray]) (V:=fun y:Nat × Nat × Rdv=>.tuple #[.agg (rve y.2.2).toArray,.int .u64 ((y.1:Nat):Int),I6 ((y.2.1:Nat):Int)]) (Lo:=fun _=>[]) QhR rfl rfl (Qjh _ y17.2.2.2 (Rdv.own (hB19k _ (hN15k _ (hN9k _ h0x))).1 Y) (by omega)) Y fun y34 w35 Y hN36=>?_)))))
  obtain ⟨hN36,hN36b,hN36l,hN36k⟩:=hN36
  refine Qaa (Qag (.tuple #[.agg (rve y34.2.2).toArray,.int .u64 ((y34.1:Nat):Int),I6 ((y34.2.1:Nat):Int)]) (Qaa (Qaf (V:=.agg (rve y34.2.2).toArray) rfl rfl (Qaa (Qaf (V:=.int .u64 ((y34.1:Nat):Int)) rfl rfl (Qaa (Qaf (V:=I6 ((y34.2.1:Nat):Int)) rfl rfl (Qaa (QaX (cs:=rve (⟨none,0,0,[]⟩:Rdv)) Qda rfl Y fun b37 w38 Y=>(Qaa (QbN (V:=.agg (rve y34.2.2).toArray) (vs:=rve y34.2.2) (cs':=rve y34.2.2) QaW.1 Y 4 rfl rfl rfl rfl rfl (QQ8 rfl) (Qbn _) (Qao rfl) fun w39 Y=>?_)))))))))))
  replace Y:=Ow [blk b1 (msv (⟨⟨0,0,vzero,[],0,0,[]⟩,none,0,none,0⟩:Msv)) 86,blk b10 (rve y17.2.2.2) 174,blk b24 (vc x21.1) 36,blk b30 (msv (⟨⟨((y7.1:Nat):Int),((y13.1:Nat):Int),x21.1,[],0,0,[]⟩,none,0,none,0⟩:Msv)) 86,blk b37 (rve y34.2.2) 174] Y
  refine Qaa (Qak (.int .u64 ((y34.1:Nat):Int)) (Qaa (Qak (I6 ((y34.2.1:Nat):Int)) (Qad (Qab (Qaa (Qa1 (cs:=rve y34.2.2) QaW Y 4 rfl rfl rfl (Qaa (Qag (.int .u64 ((y34.1:Nat):Int)) (Qaa (Qax (vs:=[.agg (rve y34.2.2).toArray,.int .u64 ((y34.1:Nat):Int)]) (V:=fun y:(Option Addr × Nat) × List Opn=>.slice y.1.1 y.2.length y.1.2) (Lo:=fun y=>[row (.slice y.1.1 y.2.length y.1.2) (y.2.map oc) 54 23]) Qu6 rfl rfl (Qsy _ y34.2.2 (Rdv.own (hN36k _ (hB19k _ (hN15k _ (hN9k _ h0x))).1) Y) (by omega) y34.1 (by omega)) Y fun y40 w41 Y hO42=>(Qaa (Qac Qb8 rfl (Qaa (Qcl (V:=.slice y40.1.1 y40.2.length y40.1.2) (cs':=msv (⟨⟨((y7.1:Nat):Int),((y13.1:Nat):Int),x21.1,y40.2,0,0,[]⟩,y40.1.1,y40.1.2,none,0⟩:Msv)) Qc3 Y 3 rfl rfl rfl rfl (QQ8 rfl) rfl fun w43 Y=>?_)))))))))))))))
  replace Y:=Ow [blk b1 (msv (⟨⟨0,0,vzero,[],0,0,[]⟩,none,0,none,0⟩:Msv)) 86,blk b10 (rve y17.2.2.2) 174,blk b24 (vc x21.1) 36,blk b30 (msv (⟨⟨((y7.1:Nat):Int),((y13.1:Nat):Int),x21.1,y40.2,0,0,[]⟩,y40.1.1,y40.1.2,none,0⟩:Msv)) 86,blk b37 (rve y34.2.2) 174,row (.slice y40.1.1 y40.2.length y40.1.2) (y40.2.map oc) 54 23] Y
  refine Qad (Qae (Qae (Qab (Qaa (Qag (.int .u64 ((y7.1:Nat):Int)) (Qaa (Qas (V:=.bool (decide (((y7.1:Nat):Int)=3))) (V':=.bool false) (Qa5 rfl rfl ⟨rfl,rfl⟩) (congrArg Value.bool (QQ4 (by omega))) (Qad (QcR rfl ?_)))))))))
  refine Qar (Qae (Qae ?_))
  have hmok:MscOk (⟨⟨((y7.1:Nat):Int),((y13.1:Nat):Int),x21.1,y40.2,0,0,[]⟩,y40.1.1,y40.1.2,none,0⟩:Msv).c:=QlS (by omega) (by omega) (QcA.vok hdv) hO42.2 QfQ QfQ QcY
  have hs9:=QsM (m:=(⟨⟨((y7.1:Nat):Int),((y13.1:Nat):Int),x21.1,y40.2,0,0,[]⟩,y40.1.1,y40.1.2,none,0⟩:Msv).c) hFi hHd hdv (by omega) hN36 hO42 rfl
  have hend:=Qkq hFi hmok hs9
  replace Y:=Y.more emp trivial
  refine Qcm HM (so 121 11) [[],[],[],[],[],[126]] [0,1,3,7,15,31,63,15,143,511,1023] [pv (.agg (msv (⟨⟨((y7.1:Nat):Int),((y13.1:Nat):Int),x21.1,y40.2,0,0,[]⟩,y40.1.1,y40.1.2,none,0⟩:Msv)).toArray),pv (.bool (Qah (⟨⟨((y7.1:Nat):Int),((y13.1:Nat):Int),x21.1,y40.2,0,0,[]⟩,y40.1.1,y40.1.2,none,0⟩:Msv).c)),pv (.bool (!(Qah (⟨⟨((y7.1:Nat):Int),((y13.1:Nat):Int),x21.1,y40.2,0,0,[]⟩,y40.1.1,y40.1.2,none,0⟩:Msv).c))),pv (.bool (!(Qah (⟨⟨((y7.1:Nat):Int),((y13.1:Nat):Int),x21.1,y40.2,0,0,[]⟩,y40.1.1,y40.1.2,none,0⟩:Msv).c))),pg ((!(Qah (⟨⟨((y7.1:Nat):Int),((y13.1:Nat):Int),x21.1,y40.2,0,0,[]⟩,y40.1.1,y40.1.2,none,0⟩:Msv).c)) == false) (.agg (msv (⟨⟨((y7.1:Nat):Int),((y13.1:Nat):Int),x21.1,y40.2,0,0,[]⟩,y40.1.1,y40.1.2,none,0⟩:Msv)).toArray),(((!(Qah (⟨⟨((y7.1:Nat):Int),((y13.1:Nat):Int),x21.1,y40.2,0,0,[]⟩,y40.1.1,y40.1.2,none,0⟩:Msv).c)) == false),fun J=>.slice (aOf (J 126)) ((Qaz (Qap (⟨⟨((y7.1:Nat):Int),((y13.1:Nat):Int),x21.1,y40.2,0,0,[]⟩,y40.1.1,y40.1.2,none,0⟩:Msv).c)).length) (cOf (J 126))),pg ((!(Qah (⟨⟨((y7.1:Nat):Int),((y13.1:Nat):Int),x21.1,y40.2,0,0,[]⟩,y40.1.1,y40.1.2,none,0⟩:Msv).c)) == false) (sv (sOf (Qaz (Qap (⟨⟨((y7.1:Nat):Int),((y13.1:Nat):Int),x21.1,y40.2,0,0,[]⟩,y40.1.1,y40.1.2,none,0⟩:Msv).c)))),pg ((!(Qah (⟨⟨((y7.1:Nat):Int),((y13.1:Nat):Int),x21.1,y40.2,0,0,[]⟩,y40.1.1,y40.1.2,none,0⟩:Msv).c)) == false) (.slice a l.length c),pg ((!(Qah (⟨⟨((y7.1:Nat):Int),((y13.1:Nat):Int),x21.1,y40.2,0,0,[]⟩,y40.1.1,y40.1.2,none,0⟩:Msv).c)) == false) (sv (sOf l)),pg ((!(Qah (⟨⟨((y7.1:Nat):Int),((y13.1:Nat):Int),x21.1,y40.2,0,0,[]⟩,y40.1.1,y40.1.2,none,0⟩:Msv).c)) == false) (.bool (!decide (Qaz (Qap (⟨⟨((y7.1:Nat):Int),((y13.1:Nat):Int),x21.1,y40.2,0,0,[]⟩,y40.1.1,y40.1.2,none,0⟩:Msv).c)=l))),pv (.bool ((!(Qah (⟨⟨((y7.1:Nat):Int),((y13.1:Nat):Int),x21.1,y40.2,0,0,[]⟩,y40.1.1,y40.1.2,none,0⟩:Msv).c))||(!decide (Qaz (Qap (⟨⟨((y7.1:Nat):Int),((y13.1:Nat):Int),x21.1,y40.2,0,0,[]⟩,y40.1.1,y40.1.2,none,0⟩:Msv).c)=l))))] (fun D J=>[blk b1 (msv (⟨⟨0,0,vzero,[],0,0,[]⟩,none,0,none,0⟩:Msv)) 86,blk b10 (rve y17.2.2.2) 174,blk b24 (vc x21.1) 36,blk b30 (msv (⟨⟨((y7.1:Nat):Int),((y13.1:Nat):Int),x21.1,y40.2,0,0,[]⟩,y40.1.1,y40.1.2,none,0⟩:Msv)) 86,blk b37 (rve y34.2.2) 174,row (.slice y40.1.1 y40.2.length y40.1.2) (y40.2.map oc) 54 23,cond (D 5) (cond ((!(Qah (⟨⟨((y7.1:Nat):Int),((y13.1:Nat):Int),x21.1,y40.2,0,0,[]⟩,y40.1.1,y40.1.2,none,0⟩:Msv).c)) == false) (row (.slice (aOf (J 126)) ((Qaz (Qap (⟨⟨((y7.1:Nat):Int),((y13.1:Nat):Int),x21.1,y40.2,0,0,[]⟩,y40.1.1,y40.1.2,none,0⟩:Msv).c)).length) (cOf (J 126))) ((Qaz (Qap (⟨⟨((y7.1:Nat):Int),((y13.1:Nat):Int),x21.1,y40.2,0,0,[]⟩,y40.1.1,y40.1.2,none,0⟩:Msv).c)).map (ic .u8)) 5 1) (emp)) (emp)]) [10] (by kernel_rfl) Y ⟨?_,?_,?_,?_,?_,?_,?_,?_,?_,?_,?_,trivial⟩ ?_
  ·exact oi [] fun Y=>Qa1 (cs:=msv (⟨⟨((y7.1:Nat):Int),((y13.1:Nat):Int),x21.1,y40.2,0,0,[]⟩,y40.1.1,y40.1.2,none,0⟩:Msv)) QbI Y 3 rfl rfl rfl (Zz Y)
  ·exact oi [0] fun Y=>QaH (vs:=[.agg (msv (⟨⟨((y7.1:Nat):Int),((y13.1:Nat):Int),x21.1,y40.2,0,0,[]⟩,y40.1.1,y40.1.2,none,0⟩:Msv)).toArray]) (V:=.bool (Qah (⟨⟨((y7.1:Nat):Int),((y13.1:Nat):Int),x21.1,y40.2,0,0,[]⟩,y40.1.1,y40.1.2,none,0⟩:Msv).c)) Qnu rfl rfl (Qdh _ (⟨⟨((y7.1:Nat):Int),((y13.1:Nat):Int),x21.1,y40.2,0,0,[]⟩,y40.1.1,y40.1.2,none,0⟩:Msv) hmok (.inl (Y.rd 5 rfl)) (.inl (Rd.nil _ 1))) Y fun _ Y=>Zz Y
  ·exact oi [1] fun Y=>Qb6 rfl (Zz Y)
  ·exact oi [2] fun Y=>Qag (.bool (!(Qah (⟨⟨((y7.1:Nat):Int),((y13.1:Nat):Int),x21.1,y40.2,0,0,[]⟩,y40.1.1,y40.1.2,none,0⟩:Msv).c))) (Zz Y)
  ·exact ogi [3] fun hG Y=>Qa1 (cs:=msv (⟨⟨((y7.1:Nat):Int),((y13.1:Nat):Int),x21.1,y40.2,0,0,[]⟩,y40.1.1,y40.1.2,none,0⟩:Msv)) QbI Y 3 rfl rfl rfl (Zz Y)
  ·refine obgy [3,4] [] [4] (!(Qah (⟨⟨((y7.1:Nat):Int),((y13.1:Nat):Int),x21.1,y40.2,0,0,[]⟩,y40.1.1,y40.1.2,none,0⟩:Msv).c)) rfl (fun _=>rfl) rfl (fun _ _ _ hG Y=>by change ((!(Qah (⟨⟨((y7.1:Nat):Int),((y13.1:Nat):Int),x21.1,y40.2,0,0,[]⟩,y40.1.1,y40.1.2,none,0⟩:Msv).c)) == false)=false at hG;rw [hG];exact Y) (fun hG=>⟨hG,trivial⟩) fun D J w hG Y=>?_
   have hri9:Qah (⟨⟨((y7.1:Nat):Int),((y13.1:Nat):Int),x21.1,y40.2,0,0,[]⟩,y40.1.1,y40.1.2,none,0⟩:Msv).c=true:=by have h:=hG;change ((!(Qah (⟨⟨((y7.1:Nat):Int),((y13.1:Nat):Int),x21.1,y40.2,0,0,[]⟩,y40.1.1,y40.1.2,none,0⟩:Msv).c)) == false)=true at h;simpa using h
   exact Qax (vs:=[.agg (msv (⟨⟨((y7.1:Nat):Int),((y13.1:Nat):Int),x21.1,y40.2,0,0,[]⟩,y40.1.1,y40.1.2,none,0⟩:Msv)).toArray]) (V:=fun x:Option Addr × Nat=>.slice x.1 (Qaz (Qap (⟨⟨((y7.1:Nat):Int),((y13.1:Nat):Int),x21.1,y40.2,0,0,[]⟩,y40.1.1,y40.1.2,none,0⟩:Msv).c)).length x.2) Qpl rfl rfl (Qd6 _ (⟨⟨((y7.1:Nat):Int),((y13.1:Nat):Int),x21.1,y40.2,0,0,[]⟩,y40.1.1,y40.1.2,none,0⟩:Msv) hmok (.inl (Y.rd 5 rfl)) (.inl (Rd.nil _ 1)) hri9) Y fun _ _ Y _=>⟨rfl,(by change ((!(Qah (⟨⟨((y7.1:Nat):Int),((y13.1:Nat):Int),x21.1,y40.2,0,0,[]⟩,y40.1.1,y40.1.2,none,0⟩:Msv).c)) == false)=true at hG;rw [hG];exact Y.put 6 (QQ8 rfl))⟩
  ·refine oyi [3,5] [5] fun hG Y=>?_
   have hz:=Y
   have hG0:=hG
   change ((!(Qah (⟨⟨((y7.1:Nat):Int),((y13.1:Nat):Int),x21.1,y40.2,0,0,[]⟩,y40.1.1,y40.1.2,none,0⟩:Msv).c)) == false)=true at hG0
   rw [hG0] at Y
   exact QbS Qbh QdG QdF (Y.rd 6 rfl) rfl (Zz hz)
  ·exact ogi [3] fun hG Y=>Qag (.slice a l.length c) (Zz Y)
  ·exact oyi [3,7] [7] fun hG Y=>QbS Qbh QdG QdF (Rd.own' hr Y) rfl (Zz Y)
  ·exact oyi [3,6,8] [6,8] fun hG Y=>Qas (V:=.bool (!decide (sOf (Qaz (Qap (⟨⟨((y7.1:Nat):Int),((y13.1:Nat):Int),x21.1,y40.2,0,0,[]⟩,y40.1.1,y40.1.2,none,0⟩:Msv).c))=sOf l))) (V':=.bool (!decide (Qaz (Qap (⟨⟨((y7.1:Nat):Int),((y13.1:Nat):Int),x21.1,y40.2,0,0,[]⟩,y40.1.1,y40.1.2,none,0⟩:Msv).c)=l))) (QiP rfl rfl ⟨rfl,rfl⟩) (congrArg (fun b:Bool=>Value.bool (!b)) (QfF (Qf0 (QeS hmok)) hby)) (Zz Y)
  ·exact oi [3,9] fun Y=>QbL (h':=!decide (Qaz (Qap (⟨⟨((y7.1:Nat):Int),((y13.1:Nat):Int),x21.1,y40.2,0,0,[]⟩,y40.1.1,y40.1.2,none,0⟩:Msv).c)=l)) rfl rfl rfl (Zz Y)
  rintro J1 w46 J2 hJ Y
  replace hJ:J2=upd (mix (sq 121 11) J1 _) 131 (.bool ((!(Qah (⟨⟨((y7.1:Nat):Int),((y13.1:Nat):Int),x21.1,y40.2,0,0,[]⟩,y40.1.1,y40.1.2,none,0⟩:Msv).c))||(!decide (Qaz (Qap (⟨⟨((y7.1:Nat):Int),((y13.1:Nat):Int),x21.1,y40.2,0,0,[]⟩,y40.1.1,y40.1.2,none,0⟩:Msv).c)=l)))):=hJ
  replace Y:Own w no w46 [blk b1 (msv (⟨⟨0,0,vzero,[],0,0,[]⟩,none,0,none,0⟩:Msv)) 86,blk b10 (rve y17.2.2.2) 174,blk b24 (vc x21.1) 36,blk b30 (msv (⟨⟨((y7.1:Nat):Int),((y13.1:Nat):Int),x21.1,y40.2,0,0,[]⟩,y40.1.1,y40.1.2,none,0⟩:Msv)) 86,blk b37 (rve y34.2.2) 174,row (.slice y40.1.1 y40.2.length y40.1.2) (y40.2.map oc) 54 23,cond ((!(Qah (⟨⟨((y7.1:Nat):Int),((y13.1:Nat):Int),x21.1,y40.2,0,0,[]⟩,y40.1.1,y40.1.2,none,0⟩:Msv).c)) == false) (row (.slice (aOf (J1 126)) ((Qaz (Qap (⟨⟨((y7.1:Nat):Int),((y13.1:Nat):Int),x21.1,y40.2,0,0,[]⟩,y40.1.1,y40.1.2,none,0⟩:Msv).c)).length) (cOf (J1 126))) ((Qaz (Qap (⟨⟨((y7.1:Nat):Int),((y13.1:Nat):Int),x21.1,y40.2,0,0,[]⟩,y40.1.1,y40.1.2,none,0⟩:Msv).c)).map (ic .u8)) 5 1) (emp)]:=Y
  generalize (aOf (J1 126))=a47 at Y
  generalize (cOf (J1 126))=c48 at Y
  subst hJ
  refine Qaq (t:=(!(Qah (⟨⟨((y7.1:Nat):Int),((y13.1:Nat):Int),x21.1,y40.2,0,0,[]⟩,y40.1.1,y40.1.2,none,0⟩:Msv).c))||(!decide (Qaz (Qap (⟨⟨((y7.1:Nat):Int),((y13.1:Nat):Int),x21.1,y40.2,0,0,[]⟩,y40.1.1,y40.1.2,none,0⟩:Msv).c)=l))) rfl (fun c49=>?_) (fun c49=>?_)
  ·
   refine Qae ?_
   have hno:QcT l mscz 5:=hend.2 (by
      rintro ⟨h1,h2⟩
      have h9:=c49
      rw [h1,show Qaz (Qap _)=l from h2] at h9
      simp at h9)
   refine Qab (Qaa (Qbi (vs:=[]) (cs:=msv (⟨⟨0,0,vzero,[],0,0,[]⟩,none,0,none,0⟩:Msv)) [[(I6 0:Value)],[(.int .u8 0:Value)],vc vzero,[(.slice none 0 0:Value)],[(I6 0:Value)],[(I6 0:Value)],[(.slice none 0 0:Value)]] [[(I6 0:Value)],[(.int .u8 0:Value)],vc vzero,[(.slice none 0 0:Value)],[(I6 0:Value)],[(I6 0:Value)],[(.slice none 0 0:Value)]] Ql3 rfl (rfl) rfl rfl (Qaa (QbN (V:=.agg (msv (⟨⟨0,0,vzero,[],0,0,[]⟩,none,0,none,0⟩:Msv)).toArray) (vs:=msv (⟨⟨0,0,vzero,[],0,0,[]⟩,none,0,none,0⟩:Msv)) (cs':=msv (⟨⟨0,0,vzero,[],0,0,[]⟩,none,0,none,0⟩:Msv)) QbI.1 Y 0 rfl rfl rfl rfl rfl (QQ8 rfl) (Qbo _) (Qao rfl) fun w50 Y=>(Qaa (Qak (I6 5) (Qad (Qat ?_))))))))
   refine ⟨_,QaD (cs:=msv (⟨⟨0,0,vzero,[],0,0,[]⟩,none,0,none,0⟩:Msv)) (V:=I6 5) results27 QbI Y 0 rfl rfl rfl rfl,?_⟩
   exact ⟨((⟨⟨0,0,vzero,[],0,0,[]⟩,none,0,none,0⟩:Msv),5),rfl,(Y.take 0).more (row (.slice none 0 0) (([]:List Opn).map oc) 54 23) (QaK _ _ _ _),hno,fun _ _=>Rd.nil _ _⟩
  have c49r:=QdH c49
  replace c49:=QdJ c49
  replace c49:=Qa3 c49
  replace c49r:=Qa3 c49r
  replace c49r:=QQ1 c49r
  refine Qar (Qae ?_)
  have hyes:=hend.1 ⟨c49,c49r⟩
  refine Qab (Qaa (Qa1 (cs:=msv (⟨⟨((y7.1:Nat):Int),((y13.1:Nat):Int),x21.1,y40.2,0,0,[]⟩,y40.1.1,y40.1.2,none,0⟩:Msv)) QbI Y 3 rfl rfl rfl (Qaa (QbN (V:=.agg (msv (⟨⟨((y7.1:Nat):Int),((y13.1:Nat):Int),x21.1,y40.2,0,0,[]⟩,y40.1.1,y40.1.2,none,0⟩:Msv)).toArray) (vs:=msv (⟨⟨((y7.1:Nat):Int),((y13.1:Nat):Int),x21.1,y40.2,0,0,[]⟩,y40.1.1,y40.1.2,none,0⟩:Msv)) (cs':=msv (⟨⟨((y7.1:Nat):Int),((y13.1:Nat):Int),x21.1,y40.2,0,0,[]⟩,y40.1.1,y40.1.2,none,0⟩:Msv)) QbI.1 Y 0 rfl rfl rfl rfl rfl (QQ8 rfl) (Qbo _) (Qao rfl) fun w51 Y=>(Qaa (Qak (I6 0) (Qad (Qat ?_))))))))
  refine ⟨_,QaD (cs:=msv (⟨⟨((y7.1:Nat):Int),((y13.1:Nat):Int),x21.1,y40.2,0,0,[]⟩,y40.1.1,y40.1.2,none,0⟩:Msv)) (V:=I6 0) results27 QbI Y 0 rfl rfl rfl rfl,?_⟩
  replace Y:=Y.more (row (.slice none 0 0) (([]:List Opn).map oc) 54 23) (QaK _ _ _ _)
  exact ⟨((⟨⟨((y7.1:Nat):Int),((y13.1:Nat):Int),x21.1,y40.2,0,0,[]⟩,y40.1.1,y40.1.2,none,0⟩:Msv),0),rfl,Y.sel [5] (by decide) rfl,hyes,fun w1 h=>Rd.nil _ _⟩
 replace c33:=QQ2 c33
 refine Qar (Qae (Qae (Qab (Qaa (Qag (.int .u64 ((y7.1:Nat):Int)) (Qaa (Qas (V:=.bool (decide (((y7.1:Nat):Int)=3))) (V':=.bool (decide (((y7.1:Nat):Int)=3))) (Qa5 rfl rfl ⟨rfl,rfl⟩) rfl (Qad (Qaq (t:=decide (((y7.1:Nat):Int)=3)) rfl (fun c52=>?_) (fun c52=>?_))))))))))
 ·
  replace c52:=QQ1 c52
  refine Qae (Qab (Qaa (Qa1 (cs:=rve y17.2.2.2) QaW Y 1 rfl rfl rfl (Qaa (Qax (vs:=[.agg (rve y17.2.2.2).toArray]) (V:=fun y:Nat × Nat × Rdv=>.tuple #[.agg (rve y.2.2).toArray,.int .u64 ((y.1:Nat):Int),I6 ((y.2.1:Nat):Int)]) (Lo:=fun _=>[]) QhR rfl rfl (Qjh _ y17.2.2.2 (Rdv.own (hB19k _ (hN15k _ (hN9k _ h0x))).1 Y) (by omega)) Y fun y53 w54 Y hN55=>?_)))))
  obtain ⟨hN55,hN55b,hN55l,hN55k⟩:=hN55
  refine Qaa (Qag (.tuple #[.agg (rve y53.2.2).toArray,.int .u64 ((y53.1:Nat):Int),I6 ((y53.2.1:Nat):Int)]) (Qaa (Qaf (V:=.agg (rve y53.2.2).toArray) rfl rfl (Qaa (Qaf (V:=.int .u64 ((y53.1:Nat):Int)) rfl rfl (Qaa (Qaf (V:=I6 ((y53.2.1:Nat):Int)) rfl rfl (Qaa (QaX (cs:=rve (⟨none,0,0,[]⟩:Rdv)) Qda rfl Y fun b56 w57 Y=>(Qaa (QbN (V:=.agg (rve y53.2.2).toArray) (vs:=rve y53.2.2) (cs':=rve y53.2.2) QaW.1 Y 4 rfl rfl rfl rfl rfl (QQ8 rfl) (Qbn _) (Qao rfl) fun w58 Y=>?_)))))))))))
  replace Y:=Ow [blk b1 (msv (⟨⟨0,0,vzero,[],0,0,[]⟩,none,0,none,0⟩:Msv)) 86,blk b10 (rve y17.2.2.2) 174,blk b24 (vc x21.1) 36,blk b30 (msv (⟨⟨((y7.1:Nat):Int),((y13.1:Nat):Int),x21.1,[],0,0,[]⟩,none,0,none,0⟩:Msv)) 86,blk b56 (rve y53.2.2) 174] Y
  refine Qaa (Qak (.int .u64 ((y53.1:Nat):Int)) (Qaa (Qak (I6 ((y53.2.1:Nat):Int)) (Qad (Qae (Qab (Qaa (Qa1 (cs:=rve y53.2.2) QaW Y 4 rfl rfl rfl (Qaa (Qax (vs:=[.agg (rve y53.2.2).toArray]) (V:=fun y:Nat × Nat × Rdv=>.tuple #[.agg (rve y.2.2).toArray,.int .u64 ((y.1:Nat):Int),I6 ((y.2.1:Nat):Int)]) (Lo:=fun _=>[]) QhR rfl rfl (Qjh _ y53.2.2 (Rdv.own (hN55k _ (hB19k _ (hN15k _ (hN9k _ h0x))).1) Y) (by omega)) Y fun y59 w60 Y hN61=>?_))))))))))
  obtain ⟨hN61,hN61b,hN61l,hN61k⟩:=hN61
  refine Qaa (Qag (.tuple #[.agg (rve y59.2.2).toArray,.int .u64 ((y59.1:Nat):Int),I6 ((y59.2.1:Nat):Int)]) (Qaa (Qaf (V:=.agg (rve y59.2.2).toArray) rfl rfl (Qaa (Qaf (V:=.int .u64 ((y59.1:Nat):Int)) rfl rfl (Qaa (Qaf (V:=I6 ((y59.2.1:Nat):Int)) rfl rfl (Qaa (QbN (V:=.agg (rve y59.2.2).toArray) (vs:=rve y59.2.2) (cs':=rve y59.2.2) QaW.1 Y 4 rfl rfl rfl rfl rfl (QQ8 rfl) (Qbn _) (Qao rfl) fun w62 Y=>(Qaa (Qak (.int .u64 ((y59.1:Nat):Int)) (Qaa (Qak (I6 ((y59.2.1:Nat):Int)) (Qad (Qae (Qab (Qaa (Qa1 (cs:=rve y59.2.2) QaW Y 4 rfl rfl rfl (Qaa (Qax (vs:=[.agg (rve y59.2.2).toArray]) (V:=fun y:(Option Addr × Nat) × Bs × Nat × Rdv=>.tuple #[.agg (rve y.2.2.2).toArray,.slice y.1.1 y.2.1.length y.1.2,I6 ((y.2.2.1:Nat):Int)]) (Lo:=fun _=>[]) Qp6 rfl rfl (Qiw _ y59.2.2 (Rdv.own (hN61k _ (hN55k _ (hB19k _ (hN15k _ (hN9k _ h0x))).1)) Y) (by omega)) Y fun y63 w64 Y hB65=>?_))))))))))))))))))))
  obtain ⟨hB65,hB65b,hB65l,hB65m,hB65k⟩:=hB65
  refine Qaa (Qag (.tuple #[.agg (rve y63.2.2.2).toArray,.slice y63.1.1 y63.2.1.length y63.1.2,I6 ((y63.2.2.1:Nat):Int)]) (Qaa (Qaf (V:=.agg (rve y63.2.2.2).toArray) rfl rfl (Qaa (Qaf (V:=.slice y63.1.1 y63.2.1.length y63.1.2) rfl rfl (Qaa (Qaf (V:=I6 ((y63.2.2.1:Nat):Int)) rfl rfl (Qaa (QaX (cs:=rve (⟨none,0,0,[]⟩:Rdv)) Qda rfl Y fun b66 w67 Y=>?_)))))))))
  replace Y:=Ow [blk b1 (msv (⟨⟨0,0,vzero,[],0,0,[]⟩,none,0,none,0⟩:Msv)) 86,blk b10 (rve y17.2.2.2) 174,blk b24 (vc x21.1) 36,blk b30 (msv (⟨⟨((y7.1:Nat):Int),((y13.1:Nat):Int),x21.1,[],0,0,[]⟩,none,0,none,0⟩:Msv)) 86,blk b56 (rve y59.2.2) 174,blk b66 (rve (⟨none,0,0,[]⟩:Rdv)) 174] Y
  refine Qaa (QbN (V:=.agg (rve y63.2.2.2).toArray) (vs:=rve y63.2.2.2) (cs':=rve y63.2.2.2) QaW.1 Y 5 rfl rfl rfl rfl rfl (QQ8 rfl) (Qbn _) (Qao rfl) fun w68 Y=>(Qaa (Qak (.slice y63.1.1 y63.2.1.length y63.1.2) (Qaa (Qak (I6 ((y63.2.2.1:Nat):Int)) (Qad (Qae (Qab (Qaa (Qag (.int .u64 ((y53.1:Nat):Int)) (Qaa (Qas (V:=.int .u64 (min ((y53.1:Nat):Int) 100)) (V':=.int .u64 ((min y53.1 100:Nat):Int)) (QpG rfl rfl ⟨rfl,rfl⟩) (congrArg (Value.int .u64) (by omega)) (Qaa (QaB Qa6 QfT rfl (Qc1 (by omega) (by omega)) (Qaa (Qac QdM rfl (Qaa (Qcl (V:=I6 ((min y53.1 100:Nat):Int)) (cs':=msv (⟨⟨((y7.1:Nat):Int),((y13.1:Nat):Int),x21.1,[],((min y53.1 100:Nat):Int),0,[]⟩,none,0,none,0⟩:Msv)) QcS Y 3 rfl rfl rfl rfl (QQ8 rfl) rfl fun w69 Y=>?_))))))))))))))))))
  replace Y:=Ow [blk b1 (msv (⟨⟨0,0,vzero,[],0,0,[]⟩,none,0,none,0⟩:Msv)) 86,blk b10 (rve y17.2.2.2) 174,blk b24 (vc x21.1) 36,blk b30 (msv (⟨⟨((y7.1:Nat):Int),((y13.1:Nat):Int),x21.1,[],((min y53.1 100:Nat):Int),0,[]⟩,none,0,none,0⟩:Msv)) 86,blk b56 (rve y59.2.2) 174,blk b66 (rve y63.2.2.2) 174] Y
  refine Qad (Qae (Qab (Qaa (Qag (.int .u64 ((y59.1:Nat):Int)) (Qaa (Qas (V:=.int .u64 (min ((y59.1:Nat):Int) 100)) (V':=.int .u64 ((min y59.1 100:Nat):Int)) (QpG rfl rfl ⟨rfl,rfl⟩) (congrArg (Value.int .u64) (by omega)) (Qaa (QaB Qa6 QfT rfl (Qc1 (by omega) (by omega)) (Qaa (Qac Qdq rfl (Qaa (Qcl (V:=I6 ((min y59.1 100:Nat):Int)) (cs':=msv (⟨⟨((y7.1:Nat):Int),((y13.1:Nat):Int),x21.1,[],((min y53.1 100:Nat):Int),((min y59.1 100:Nat):Int),[]⟩,none,0,none,0⟩:Msv)) QcS Y 3 rfl rfl rfl rfl (QQ8 rfl) rfl fun w70 Y=>(Qad (Qab (Qaa (Qag (.slice y63.1.1 y63.2.1.length y63.1.2) (Qaa (Qac Qdu rfl (Qaa (Qcl (V:=.slice y63.1.1 y63.2.1.length y63.1.2) (cs':=msv (⟨⟨((y7.1:Nat):Int),((y13.1:Nat):Int),x21.1,[],((min y53.1 100:Nat):Int),((min y59.1 100:Nat):Int),y63.2.1⟩,none,0,y63.1.1,y63.1.2⟩:Msv)) QbD Y 3 rfl rfl rfl rfl (QQ8 rfl) rfl fun w71 Y=>?_))))))))))))))))))))
  replace Y:=Ow [blk b1 (msv (⟨⟨0,0,vzero,[],0,0,[]⟩,none,0,none,0⟩:Msv)) 86,blk b10 (rve y17.2.2.2) 174,blk b24 (vc x21.1) 36,blk b30 (msv (⟨⟨((y7.1:Nat):Int),((y13.1:Nat):Int),x21.1,[],((min y53.1 100:Nat):Int),((min y59.1 100:Nat):Int),y63.2.1⟩,none,0,y63.1.1,y63.1.2⟩:Msv)) 86,blk b56 (rve y59.2.2) 174,blk b66 (rve y63.2.2.2) 174] Y
  refine Qad (Qae (Qae ?_))
  have hmok:MscOk (⟨⟨((y7.1:Nat):Int),((y13.1:Nat):Int),x21.1,[],((min y53.1 100:Nat):Int),((min y59.1 100:Nat):Int),y63.2.1⟩,none,0,y63.1.1,y63.1.2⟩:Msv).c:=QlS (by omega) (by omega) (QcA.vok hdv) (fun _ h=>nomatch h) (Qil (by omega)) (Qil (by omega)) hB65b
  have hs9:=Qno (m:=(⟨⟨((y7.1:Nat):Int),((y13.1:Nat):Int),x21.1,[],((min y53.1 100:Nat):Int),((min y59.1 100:Nat):Int),y63.2.1⟩,none,0,y63.1.1,y63.1.2⟩:Msv).c) hFi hHd hdv (by omega) hN55 hN61 hB65 rfl
  have hend:=Qkq hFi hmok hs9
  replace Y:=Y.more emp trivial
  refine Qcm HM (so 121 11) [[],[],[],[],[],[126]] [0,1,3,7,15,31,63,15,143,511,1023] [pv (.agg (msv (⟨⟨((y7.1:Nat):Int),((y13.1:Nat):Int),x21.1,[],((min y53.1 100:Nat):Int),((min y59.1 100:Nat):Int),y63.2.1⟩,none,0,y63.1.1,y63.1.2⟩:Msv)).toArray),pv (.bool (Qah (⟨⟨((y7.1:Nat):Int),((y13.1:Nat):Int),x21.1,[],((min y53.1 100:Nat):Int),((min y59.1 100:Nat):Int),y63.2.1⟩,none,0,y63.1.1,y63.1.2⟩:Msv).c)),pv (.bool (!(Qah (⟨⟨((y7.1:Nat):Int),((y13.1:Nat):Int),x21.1,[],((min y53.1 100:Nat):Int),((min y59.1 100:Nat):Int),y63.2.1⟩,none,0,y63.1.1,y63.1.2⟩:Msv).c))),pv (.bool (!(Qah (⟨⟨((y7.1:Nat):Int),((y13.1:Nat):Int),x21.1,[],((min y53.1 100:Nat):Int),((min y59.1 100:Nat):Int),y63.2.1⟩,none,0,y63.1.1,y63.1.2⟩:Msv).c))),pg ((!(Qah (⟨⟨((y7.1:Nat):Int),((y13.1:Nat):Int),x21.1,[],((min y53.1 100:Nat):Int),((min y59.1 100:Nat):Int),y63.2.1⟩,none,0,y63.1.1,y63.1.2⟩:Msv).c)) == false) (.agg (msv (⟨⟨((y7.1:Nat):Int),((y13.1:Nat):Int),x21.1,[],((min y53.1 100:Nat):Int),((min y59.1 100:Nat):Int),y63.2.1⟩,none,0,y63.1.1,y63.1.2⟩:Msv)).toArray),(((!(Qah (⟨⟨((y7.1:Nat):Int),((y13.1:Nat):Int),x21.1,[],((min y53.1 100:Nat):Int),((min y59.1 100:Nat):Int),y63.2.1⟩,none,0,y63.1.1,y63.1.2⟩:Msv).c)) == false),fun J=>.slice (aOf (J 126)) ((Qaz (Qap (⟨⟨((y7.1:Nat):Int),((y13.1:Nat):Int),x21.1,[],((min y53.1 100:Nat):Int),((min y59.1 100:Nat):Int),y63.2.1⟩,none,0,y63.1.1,y63.1.2⟩:Msv).c)).length) (cOf (J 126))),pg ((!(Qah (⟨⟨((y7.1:Nat):Int),((y13.1:Nat):Int),x21.1,[],((min y53.1 100:Nat):Int),((min y59.1 100:Nat):Int),y63.2.1⟩,none,0,y63.1.1,y63.1.2⟩:Msv).c)) == false) (sv (sOf (Qaz (Qap (⟨⟨((y7.1:Nat):Int),((y13.1:Nat):Int),x21.1,[],((min y53.1 100:Nat):Int),((min y59.1 100:Nat):Int),y63.2.1⟩,none,0,y63.1.1,y63.1.2⟩:Msv).c)))),pg ((!(Qah (⟨⟨((y7.1:Nat):Int),((y13.1:Nat):Int),x21.1,[],((min y53.1 100:Nat):Int),((min y59.1 100:Nat):Int),y63.2.1⟩,none,0,y63.1.1,y63.1.2⟩:Msv).c)) == false) (.slice a l.length c),pg ((!(Qah (⟨⟨((y7.1:Nat):Int),((y13.1:Nat):Int),x21.1,[],((min y53.1 100:Nat):Int),((min y59.1 100:Nat):Int),y63.2.1⟩,none,0,y63.1.1,y63.1.2⟩:Msv).c)) == false) (sv (sOf l)),pg ((!(Qah (⟨⟨((y7.1:Nat):Int),((y13.1:Nat):Int),x21.1,[],((min y53.1 100:Nat):Int),((min y59.1 100:Nat):Int),y63.2.1⟩,none,0,y63.1.1,y63.1.2⟩:Msv).c)) == false) (.bool (!decide (Qaz (Qap (⟨⟨((y7.1:Nat):Int),((y13.1:Nat):Int),x21.1,[],((min y53.1 100:Nat):Int),((min y59.1 100:Nat):Int),y63.2.1⟩,none,0,y63.1.1,y63.1.2⟩:Msv).c)=l))),pv (.bool ((!(Qah (⟨⟨((y7.1:Nat):Int),((y13.1:Nat):Int),x21.1,[],((min y53.1 100:Nat):Int),((min y59.1 100:Nat):Int),y63.2.1⟩,none,0,y63.1.1,y63.1.2⟩:Msv).c))||(!decide (Qaz (Qap (⟨⟨((y7.1:Nat):Int),((y13.1:Nat):Int),x21.1,[],((min y53.1 100:Nat):Int),((min y59.1 100:Nat):Int),y63.2.1⟩,none,0,y63.1.1,y63.1.2⟩:Msv).c)=l))))] (fun D J=>[blk b1 (msv (⟨⟨0,0,vzero,[],0,0,[]⟩,none,0,none,0⟩:Msv)) 86,blk b10 (rve y17.2.2.2) 174,blk b24 (vc x21.1) 36,blk b30 (msv (⟨⟨((y7.1:Nat):Int),((y13.1:Nat):Int),x21.1,[],((min y53.1 100:Nat):Int),((min y59.1 100:Nat):Int),y63.2.1⟩,none,0,y63.1.1,y63.1.2⟩:Msv)) 86,blk b56 (rve y59.2.2) 174,blk b66 (rve y63.2.2.2) 174,cond (D 5) (cond ((!(Qah (⟨⟨((y7.1:Nat):Int),((y13.1:Nat):Int),x21.1,[],((min y53.1 100:Nat):Int),((min y59.1 100:Nat):Int),y63.2.1⟩,none,0,y63.1.1,y63.1.2⟩:Msv).c)) == false) (row (.slice (aOf (J 126)) ((Qaz (Qap (⟨⟨((y7.1:Nat):Int),((y13.1:Nat):Int),x21.1,[],((min y53.1 100:Nat):Int),((min y59.1 100:Nat):Int),y63.2.1⟩,none,0,y63.1.1,y63.1.2⟩:Msv).c)).length) (cOf (J 126))) ((Qaz (Qap (⟨⟨((y7.1:Nat):Int),((y13.1:Nat):Int),x21.1,[],((min y53.1 100:Nat):Int),((min y59.1 100:Nat):Int),y63.2.1⟩,none,0,y63.1.1,y63.1.2⟩:Msv).c)).map (ic .u8)) 5 1) (emp)) (emp)]) [10] (by kernel_rfl) Y ⟨?_,?_,?_,?_,?_,?_,?_,?_,?_,?_,?_,trivial⟩ ?_
  ·exact oi [] fun Y=>Qa1 (cs:=msv (⟨⟨((y7.1:Nat):Int),((y13.1:Nat):Int),x21.1,[],((min y53.1 100:Nat):Int),((min y59.1 100:Nat):Int),y63.2.1⟩,none,0,y63.1.1,y63.1.2⟩:Msv)) QbI Y 3 rfl rfl rfl (Zz Y)
  ·exact oi [0] fun Y=>QaH (vs:=[.agg (msv (⟨⟨((y7.1:Nat):Int),((y13.1:Nat):Int),x21.1,[],((min y53.1 100:Nat):Int),((min y59.1 100:Nat):Int),y63.2.1⟩,none,0,y63.1.1,y63.1.2⟩:Msv)).toArray]) (V:=.bool (Qah (⟨⟨((y7.1:Nat):Int),((y13.1:Nat):Int),x21.1,[],((min y53.1 100:Nat):Int),((min y59.1 100:Nat):Int),y63.2.1⟩,none,0,y63.1.1,y63.1.2⟩:Msv).c)) Qnu rfl rfl (Qdh _ (⟨⟨((y7.1:Nat):Int),((y13.1:Nat):Int),x21.1,[],((min y53.1 100:Nat):Int),((min y59.1 100:Nat):Int),y63.2.1⟩,none,0,y63.1.1,y63.1.2⟩:Msv) hmok (.inl (Rd.nil _ 23)) (.inl (Rd.own' (hB65k _ (hN61k _ (hN55k _ (hB19k _ (hN15k _ (hN9k _ h0x))).1))).2 Y))) Y fun _ Y=>Zz Y
  ·exact oi [1] fun Y=>Qb6 rfl (Zz Y)
  ·exact oi [2] fun Y=>Qag (.bool (!(Qah (⟨⟨((y7.1:Nat):Int),((y13.1:Nat):Int),x21.1,[],((min y53.1 100:Nat):Int),((min y59.1 100:Nat):Int),y63.2.1⟩,none,0,y63.1.1,y63.1.2⟩:Msv).c))) (Zz Y)
  ·exact ogi [3] fun hG Y=>Qa1 (cs:=msv (⟨⟨((y7.1:Nat):Int),((y13.1:Nat):Int),x21.1,[],((min y53.1 100:Nat):Int),((min y59.1 100:Nat):Int),y63.2.1⟩,none,0,y63.1.1,y63.1.2⟩:Msv)) QbI Y 3 rfl rfl rfl (Zz Y)
  ·refine obgy [3,4] [] [4] (!(Qah (⟨⟨((y7.1:Nat):Int),((y13.1:Nat):Int),x21.1,[],((min y53.1 100:Nat):Int),((min y59.1 100:Nat):Int),y63.2.1⟩,none,0,y63.1.1,y63.1.2⟩:Msv).c)) rfl (fun _=>rfl) rfl (fun _ _ _ hG Y=>by change ((!(Qah (⟨⟨((y7.1:Nat):Int),((y13.1:Nat):Int),x21.1,[],((min y53.1 100:Nat):Int),((min y59.1 100:Nat):Int),y63.2.1⟩,none,0,y63.1.1,y63.1.2⟩:Msv).c)) == false)=false at hG;rw [hG];exact Y) (fun hG=>⟨hG,trivial⟩) fun D J w hG Y=>?_
   have hri9:Qah (⟨⟨((y7.1:Nat):Int),((y13.1:Nat):Int),x21.1,[],((min y53.1 100:Nat):Int),((min y59.1 100:Nat):Int),y63.2.1⟩,none,0,y63.1.1,y63.1.2⟩:Msv).c=true:=by have h:=hG;change ((!(Qah (⟨⟨((y7.1:Nat):Int),((y13.1:Nat):Int),x21.1,[],((min y53.1 100:Nat):Int),((min y59.1 100:Nat):Int),y63.2.1⟩,none,0,y63.1.1,y63.1.2⟩:Msv).c)) == false)=true at h;simpa using h
   exact Qax (vs:=[.agg (msv (⟨⟨((y7.1:Nat):Int),((y13.1:Nat):Int),x21.1,[],((min y53.1 100:Nat):Int),((min y59.1 100:Nat):Int),y63.2.1⟩,none,0,y63.1.1,y63.1.2⟩:Msv)).toArray]) (V:=fun x:Option Addr × Nat=>.slice x.1 (Qaz (Qap (⟨⟨((y7.1:Nat):Int),((y13.1:Nat):Int),x21.1,[],((min y53.1 100:Nat):Int),((min y59.1 100:Nat):Int),y63.2.1⟩,none,0,y63.1.1,y63.1.2⟩:Msv).c)).length x.2) Qpl rfl rfl (Qd6 _ (⟨⟨((y7.1:Nat):Int),((y13.1:Nat):Int),x21.1,[],((min y53.1 100:Nat):Int),((min y59.1 100:Nat):Int),y63.2.1⟩,none,0,y63.1.1,y63.1.2⟩:Msv) hmok (.inl (Rd.nil _ 23)) (.inl (Rd.own' (hB65k _ (hN61k _ (hN55k _ (hB19k _ (hN15k _ (hN9k _ h0x))).1))).2 Y)) hri9) Y fun _ _ Y _=>⟨rfl,(by change ((!(Qah (⟨⟨((y7.1:Nat):Int),((y13.1:Nat):Int),x21.1,[],((min y53.1 100:Nat):Int),((min y59.1 100:Nat):Int),y63.2.1⟩,none,0,y63.1.1,y63.1.2⟩:Msv).c)) == false)=true at hG;rw [hG];exact Y.put 6 (QQ8 rfl))⟩
  ·refine oyi [3,5] [5] fun hG Y=>?_
   have hz:=Y
   have hG0:=hG
   change ((!(Qah (⟨⟨((y7.1:Nat):Int),((y13.1:Nat):Int),x21.1,[],((min y53.1 100:Nat):Int),((min y59.1 100:Nat):Int),y63.2.1⟩,none,0,y63.1.1,y63.1.2⟩:Msv).c)) == false)=true at hG0
   rw [hG0] at Y
   exact QbS Qbh QdG QdF (Y.rd 6 rfl) rfl (Zz hz)
  ·exact ogi [3] fun hG Y=>Qag (.slice a l.length c) (Zz Y)
  ·exact oyi [3,7] [7] fun hG Y=>QbS Qbh QdG QdF (Rd.own' hr Y) rfl (Zz Y)
  ·exact oyi [3,6,8] [6,8] fun hG Y=>Qas (V:=.bool (!decide (sOf (Qaz (Qap (⟨⟨((y7.1:Nat):Int),((y13.1:Nat):Int),x21.1,[],((min y53.1 100:Nat):Int),((min y59.1 100:Nat):Int),y63.2.1⟩,none,0,y63.1.1,y63.1.2⟩:Msv).c))=sOf l))) (V':=.bool (!decide (Qaz (Qap (⟨⟨((y7.1:Nat):Int),((y13.1:Nat):Int),x21.1,[],((min y53.1 100:Nat):Int),((min y59.1 100:Nat):Int),y63.2.1⟩,none,0,y63.1.1,y63.1.2⟩:Msv).c)=l))) (QiP rfl rfl ⟨rfl,rfl⟩) (congrArg (fun b:Bool=>Value.bool (!b)) (QfF (Qf0 (QeS hmok)) hby)) (Zz Y)
  ·exact oi [3,9] fun Y=>QbL (h':=!decide (Qaz (Qap (⟨⟨((y7.1:Nat):Int),((y13.1:Nat):Int),x21.1,[],((min y53.1 100:Nat):Int),((min y59.1 100:Nat):Int),y63.2.1⟩,none,0,y63.1.1,y63.1.2⟩:Msv).c)=l)) rfl rfl rfl (Zz Y)
  rintro J1 w74 J2 hJ Y
  replace hJ:J2=upd (mix (sq 121 11) J1 _) 131 (.bool ((!(Qah (⟨⟨((y7.1:Nat):Int),((y13.1:Nat):Int),x21.1,[],((min y53.1 100:Nat):Int),((min y59.1 100:Nat):Int),y63.2.1⟩,none,0,y63.1.1,y63.1.2⟩:Msv).c))||(!decide (Qaz (Qap (⟨⟨((y7.1:Nat):Int),((y13.1:Nat):Int),x21.1,[],((min y53.1 100:Nat):Int),((min y59.1 100:Nat):Int),y63.2.1⟩,none,0,y63.1.1,y63.1.2⟩:Msv).c)=l)))):=hJ
  replace Y:Own w no w74 [blk b1 (msv (⟨⟨0,0,vzero,[],0,0,[]⟩,none,0,none,0⟩:Msv)) 86,blk b10 (rve y17.2.2.2) 174,blk b24 (vc x21.1) 36,blk b30 (msv (⟨⟨((y7.1:Nat):Int),((y13.1:Nat):Int),x21.1,[],((min y53.1 100:Nat):Int),((min y59.1 100:Nat):Int),y63.2.1⟩,none,0,y63.1.1,y63.1.2⟩:Msv)) 86,blk b56 (rve y59.2.2) 174,blk b66 (rve y63.2.2.2) 174,cond ((!(Qah (⟨⟨((y7.1:Nat):Int),((y13.1:Nat):Int),x21.1,[],((min y53.1 100:Nat):Int),((min y59.1 100:Nat):Int),y63.2.1⟩,none,0,y63.1.1,y63.1.2⟩:Msv).c)) == false) (row (.slice (aOf (J1 126)) ((Qaz (Qap (⟨⟨((y7.1:Nat):Int),((y13.1:Nat):Int),x21.1,[],((min y53.1 100:Nat):Int),((min y59.1 100:Nat):Int),y63.2.1⟩,none,0,y63.1.1,y63.1.2⟩:Msv).c)).length) (cOf (J1 126))) ((Qaz (Qap (⟨⟨((y7.1:Nat):Int),((y13.1:Nat):Int),x21.1,[],((min y53.1 100:Nat):Int),((min y59.1 100:Nat):Int),y63.2.1⟩,none,0,y63.1.1,y63.1.2⟩:Msv).c)).map (ic .u8)) 5 1) (emp)]:=Y
  generalize (aOf (J1 126))=a75 at Y
  generalize (cOf (J1 126))=c76 at Y
  subst hJ
  refine Qaq (t:=(!(Qah (⟨⟨((y7.1:Nat):Int),((y13.1:Nat):Int),x21.1,[],((min y53.1 100:Nat):Int),((min y59.1 100:Nat):Int),y63.2.1⟩,none,0,y63.1.1,y63.1.2⟩:Msv).c))||(!decide (Qaz (Qap (⟨⟨((y7.1:Nat):Int),((y13.1:Nat):Int),x21.1,[],((min y53.1 100:Nat):Int),((min y59.1 100:Nat):Int),y63.2.1⟩,none,0,y63.1.1,y63.1.2⟩:Msv).c)=l))) rfl (fun c77=>?_) (fun c77=>?_)
  ·
   refine Qae ?_
   have hno:QcT l mscz 5:=hend.2 (by
       rintro ⟨h1,h2⟩
       have h9:=c77
       rw [h1,show Qaz (Qap _)=l from h2] at h9
       simp at h9)
   refine Qab (Qaa (Qbi (vs:=[]) (cs:=msv (⟨⟨0,0,vzero,[],0,0,[]⟩,none,0,none,0⟩:Msv)) [[(I6 0:Value)],[(.int .u8 0:Value)],vc vzero,[(.slice none 0 0:Value)],[(I6 0:Value)],[(I6 0:Value)],[(.slice none 0 0:Value)]] [[(I6 0:Value)],[(.int .u8 0:Value)],vc vzero,[(.slice none 0 0:Value)],[(I6 0:Value)],[(I6 0:Value)],[(.slice none 0 0:Value)]] Ql3 rfl (rfl) rfl rfl (Qaa (QbN (V:=.agg (msv (⟨⟨0,0,vzero,[],0,0,[]⟩,none,0,none,0⟩:Msv)).toArray) (vs:=msv (⟨⟨0,0,vzero,[],0,0,[]⟩,none,0,none,0⟩:Msv)) (cs':=msv (⟨⟨0,0,vzero,[],0,0,[]⟩,none,0,none,0⟩:Msv)) QbI.1 Y 0 rfl rfl rfl rfl rfl (QQ8 rfl) (Qbo _) (Qao rfl) fun w78 Y=>(Qaa (Qak (I6 5) (Qad (Qat ?_))))))))
   refine ⟨_,QaD (cs:=msv (⟨⟨0,0,vzero,[],0,0,[]⟩,none,0,none,0⟩:Msv)) (V:=I6 5) results27 QbI Y 0 rfl rfl rfl rfl,?_⟩
   exact ⟨((⟨⟨0,0,vzero,[],0,0,[]⟩,none,0,none,0⟩:Msv),5),rfl,(Y.take 0).more (row (.slice none 0 0) (([]:List Opn).map oc) 54 23) (QaK _ _ _ _),hno,fun _ _=>Rd.nil _ _⟩
  have c77r:=QdH c77
  replace c77:=QdJ c77
  replace c77:=Qa3 c77
  replace c77r:=Qa3 c77r
  replace c77r:=QQ1 c77r
  refine Qar (Qae ?_)
  have hyes:=hend.1 ⟨c77,c77r⟩
  refine Qab (Qaa (Qa1 (cs:=msv (⟨⟨((y7.1:Nat):Int),((y13.1:Nat):Int),x21.1,[],((min y53.1 100:Nat):Int),((min y59.1 100:Nat):Int),y63.2.1⟩,none,0,y63.1.1,y63.1.2⟩:Msv)) QbI Y 3 rfl rfl rfl (Qaa (QbN (V:=.agg (msv (⟨⟨((y7.1:Nat):Int),((y13.1:Nat):Int),x21.1,[],((min y53.1 100:Nat):Int),((min y59.1 100:Nat):Int),y63.2.1⟩,none,0,y63.1.1,y63.1.2⟩:Msv)).toArray) (vs:=msv (⟨⟨((y7.1:Nat):Int),((y13.1:Nat):Int),x21.1,[],((min y53.1 100:Nat):Int),((min y59.1 100:Nat):Int),y63.2.1⟩,none,0,y63.1.1,y63.1.2⟩:Msv)) (cs':=msv (⟨⟨((y7.1:Nat):Int),((y13.1:Nat):Int),x21.1,[],((min y53.1 100:Nat):Int),((min y59.1 100:Nat):Int),y63.2.1⟩,none,0,y63.1.1,y63.1.2⟩:Msv)) QbI.1 Y 0 rfl rfl rfl rfl rfl (QQ8 rfl) (Qbo _) (Qao rfl) fun w79 Y=>(Qaa (Qak (I6 0) (Qad (Qat ?_))))))))
  refine ⟨_,QaD (cs:=msv (⟨⟨((y7.1:Nat):Int),((y13.1:Nat):Int),x21.1,[],((min y53.1 100:Nat):Int),((min y59.1 100:Nat):Int),y63.2.1⟩,none,0,y63.1.1,y63.1.2⟩:Msv)) (V:=I6 0) results27 QbI Y 0 rfl rfl rfl rfl,?_⟩
  replace Y:=Y.more (row (.slice none 0 0) (([]:List Opn).map oc) 54 23) (QaK _ _ _ _)
  exact ⟨((⟨⟨((y7.1:Nat):Int),((y13.1:Nat):Int),x21.1,[],((min y53.1 100:Nat):Int),((min y59.1 100:Nat):Int),y63.2.1⟩,none,0,y63.1.1,y63.1.2⟩:Msv),0),rfl,Y.sel [7] (by decide) rfl,hyes,fun w1 h=>(hB65k _ (hN61k _ (hN55k _ (hB19k _ (hN15k _ (hN9k _ (show x0.ok w1 by rw [hx0];exact ⟨hFr _ h,hFb,by show (0:Int)<=0;omega⟩)))).1))).2⟩
 replace c52:=QQ2 c52
 refine Qar (Qae (Qae ?_))
 have hmok:MscOk (⟨⟨((y7.1:Nat):Int),((y13.1:Nat):Int),x21.1,[],0,0,[]⟩,none,0,none,0⟩:Msv).c:=QlS (by omega) (by omega) (QcA.vok hdv) (fun _ h=>nomatch h) QfQ QfQ QcY
 have hs9:=QsL (m:=(⟨⟨((y7.1:Nat):Int),((y13.1:Nat):Int),x21.1,[],0,0,[]⟩,none,0,none,0⟩:Msv).c) hFi hHd hdv (by omega) (by omega) rfl
 have hend:=Qkq hFi hmok hs9
 replace Y:=Y.more emp trivial
 refine Qcm HM (so 121 11) [[],[],[],[],[],[126]] [0,1,3,7,15,31,63,15,143,511,1023] [pv (.agg (msv (⟨⟨((y7.1:Nat):Int),((y13.1:Nat):Int),x21.1,[],0,0,[]⟩,none,0,none,0⟩:Msv)).toArray),pv (.bool (Qah (⟨⟨((y7.1:Nat):Int),((y13.1:Nat):Int),x21.1,[],0,0,[]⟩,none,0,none,0⟩:Msv).c)),pv (.bool (!(Qah (⟨⟨((y7.1:Nat):Int),((y13.1:Nat):Int),x21.1,[],0,0,[]⟩,none,0,none,0⟩:Msv).c))),pv (.bool (!(Qah (⟨⟨((y7.1:Nat):Int),((y13.1:Nat):Int),x21.1,[],0,0,[]⟩,none,0,none,0⟩:Msv).c))),pg ((!(Qah (⟨⟨((y7.1:Nat):Int),((y13.1:Nat):Int),x21.1,[],0,0,[]⟩,none,0,none,0⟩:Msv).c)) == false) (.agg (msv (⟨⟨((y7.1:Nat):Int),((y13.1:Nat):Int),x21.1,[],0,0,[]⟩,none,0,none,0⟩:Msv)).toArray),(((!(Qah (⟨⟨((y7.1:Nat):Int),((y13.1:Nat):Int),x21.1,[],0,0,[]⟩,none,0,none,0⟩:Msv).c)) == false),fun J=>.slice (aOf (J 126)) ((Qaz (Qap (⟨⟨((y7.1:Nat):Int),((y13.1:Nat):Int),x21.1,[],0,0,[]⟩,none,0,none,0⟩:Msv).c)).length) (cOf (J 126))),pg ((!(Qah (⟨⟨((y7.1:Nat):Int),((y13.1:Nat):Int),x21.1,[],0,0,[]⟩,none,0,none,0⟩:Msv).c)) == false) (sv (sOf (Qaz (Qap (⟨⟨((y7.1:Nat):Int),((y13.1:Nat):Int),x21.1,[],0,0,[]⟩,none,0,none,0⟩:Msv).c)))),pg ((!(Qah (⟨⟨((y7.1:Nat):Int),((y13.1:Nat):Int),x21.1,[],0,0,[]⟩,none,0,none,0⟩:Msv).c)) == false) (.slice a l.length c),pg ((!(Qah (⟨⟨((y7.1:Nat):Int),((y13.1:Nat):Int),x21.1,[],0,0,[]⟩,none,0,none,0⟩:Msv).c)) == false) (sv (sOf l)),pg ((!(Qah (⟨⟨((y7.1:Nat):Int),((y13.1:Nat):Int),x21.1,[],0,0,[]⟩,none,0,none,0⟩:Msv).c)) == false) (.bool (!decide (Qaz (Qap (⟨⟨((y7.1:Nat):Int),((y13.1:Nat):Int),x21.1,[],0,0,[]⟩,none,0,none,0⟩:Msv).c)=l))),pv (.bool ((!(Qah (⟨⟨((y7.1:Nat):Int),((y13.1:Nat):Int),x21.1,[],0,0,[]⟩,none,0,none,0⟩:Msv).c))||(!decide (Qaz (Qap (⟨⟨((y7.1:Nat):Int),((y13.1:Nat):Int),x21.1,[],0,0,[]⟩,none,0,none,0⟩:Msv).c)=l))))] (fun D J=>[blk b1 (msv (⟨⟨0,0,vzero,[],0,0,[]⟩,none,0,none,0⟩:Msv)) 86,blk b10 (rve y17.2.2.2) 174,blk b24 (vc x21.1) 36,blk b30 (msv (⟨⟨((y7.1:Nat):Int),((y13.1:Nat):Int),x21.1,[],0,0,[]⟩,none,0,none,0⟩:Msv)) 86,cond (D 5) (cond ((!(Qah (⟨⟨((y7.1:Nat):Int),((y13.1:Nat):Int),x21.1,[],0,0,[]⟩,none,0,none,0⟩:Msv).c)) == false) (row (.slice (aOf (J 126)) ((Qaz (Qap (⟨⟨((y7.1:Nat):Int),((y13.1:Nat):Int),x21.1,[],0,0,[]⟩,none,0,none,0⟩:Msv).c)).length) (cOf (J 126))) ((Qaz (Qap (⟨⟨((y7.1:Nat):Int),((y13.1:Nat):Int),x21.1,[],0,0,[]⟩,none,0,none,0⟩:Msv).c)).map (ic .u8)) 5 1) (emp)) (emp)]) [10] (by kernel_rfl) Y ⟨?_,?_,?_,?_,?_,?_,?_,?_,?_,?_,?_,trivial⟩ ?_
 ·exact oi [] fun Y=>Qa1 (cs:=msv (⟨⟨((y7.1:Nat):Int),((y13.1:Nat):Int),x21.1,[],0,0,[]⟩,none,0,none,0⟩:Msv)) QbI Y 3 rfl rfl rfl (Zz Y)
 ·exact oi [0] fun Y=>QaH (vs:=[.agg (msv (⟨⟨((y7.1:Nat):Int),((y13.1:Nat):Int),x21.1,[],0,0,[]⟩,none,0,none,0⟩:Msv)).toArray]) (V:=.bool (Qah (⟨⟨((y7.1:Nat):Int),((y13.1:Nat):Int),x21.1,[],0,0,[]⟩,none,0,none,0⟩:Msv).c)) Qnu rfl rfl (Qdh _ (⟨⟨((y7.1:Nat):Int),((y13.1:Nat):Int),x21.1,[],0,0,[]⟩,none,0,none,0⟩:Msv) hmok (.inl (Rd.nil _ 23)) (.inl (Rd.nil _ 1))) Y fun _ Y=>Zz Y
 ·exact oi [1] fun Y=>Qb6 rfl (Zz Y)
 ·exact oi [2] fun Y=>Qag (.bool (!(Qah (⟨⟨((y7.1:Nat):Int),((y13.1:Nat):Int),x21.1,[],0,0,[]⟩,none,0,none,0⟩:Msv).c))) (Zz Y)
 ·exact ogi [3] fun hG Y=>Qa1 (cs:=msv (⟨⟨((y7.1:Nat):Int),((y13.1:Nat):Int),x21.1,[],0,0,[]⟩,none,0,none,0⟩:Msv)) QbI Y 3 rfl rfl rfl (Zz Y)
 ·refine obgy [3,4] [] [4] (!(Qah (⟨⟨((y7.1:Nat):Int),((y13.1:Nat):Int),x21.1,[],0,0,[]⟩,none,0,none,0⟩:Msv).c)) rfl (fun _=>rfl) rfl (fun _ _ _ hG Y=>by change ((!(Qah (⟨⟨((y7.1:Nat):Int),((y13.1:Nat):Int),x21.1,[],0,0,[]⟩,none,0,none,0⟩:Msv).c)) == false)=false at hG;rw [hG];exact Y) (fun hG=>⟨hG,trivial⟩) fun D J w hG Y=>?_
  have hri9:Qah (⟨⟨((y7.1:Nat):Int),((y13.1:Nat):Int),x21.1,[],0,0,[]⟩,none,0,none,0⟩:Msv).c=true:=by have h:=hG;change ((!(Qah (⟨⟨((y7.1:Nat):Int),((y13.1:Nat):Int),x21.1,[],0,0,[]⟩,none,0,none,0⟩:Msv).c)) == false)=true at h;simpa using h
  exact Qax (vs:=[.agg (msv (⟨⟨((y7.1:Nat):Int),((y13.1:Nat):Int),x21.1,[],0,0,[]⟩,none,0,none,0⟩:Msv)).toArray]) (V:=fun x:Option Addr × Nat=>.slice x.1 (Qaz (Qap (⟨⟨((y7.1:Nat):Int),((y13.1:Nat):Int),x21.1,[],0,0,[]⟩,none,0,none,0⟩:Msv).c)).length x.2) Qpl rfl rfl (Qd6 _ (⟨⟨((y7.1:Nat):Int),((y13.1:Nat):Int),x21.1,[],0,0,[]⟩,none,0,none,0⟩:Msv) hmok (.inl (Rd.nil _ 23)) (.inl (Rd.nil _ 1)) hri9) Y fun _ _ Y _=>⟨rfl,(by change ((!(Qah (⟨⟨((y7.1:Nat):Int),((y13.1:Nat):Int),x21.1,[],0,0,[]⟩,none,0,none,0⟩:Msv).c)) == false)=true at hG;rw [hG];exact Y.put 4 (QQ8 rfl))⟩
 ·refine oyi [3,5] [5] fun hG Y=>?_
  have hz:=Y
  have hG0:=hG
  change ((!(Qah (⟨⟨((y7.1:Nat):Int),((y13.1:Nat):Int),x21.1,[],0,0,[]⟩,none,0,none,0⟩:Msv).c)) == false)=true at hG0
  rw [hG0] at Y
  exact QbS Qbh QdG QdF (Y.rd 4 rfl) rfl (Zz hz)
 ·exact ogi [3] fun hG Y=>Qag (.slice a l.length c) (Zz Y)
 ·exact oyi [3,7] [7] fun hG Y=>QbS Qbh QdG QdF (Rd.own' hr Y) rfl (Zz Y)
 ·exact oyi [3,6,8] [6,8] fun hG Y=>Qas (V:=.bool (!decide (sOf (Qaz (Qap (⟨⟨((y7.1:Nat):Int),((y13.1:Nat):Int),x21.1,[],0,0,[]⟩,none,0,none,0⟩:Msv).c))=sOf l))) (V':=.bool (!decide (Qaz (Qap (⟨⟨((y7.1:Nat):Int),((y13.1:Nat):Int),x21.1,[],0,0,[]⟩,none,0,none,0⟩:Msv).c)=l))) (QiP rfl rfl ⟨rfl,rfl⟩) (congrArg (fun b:Bool=>Value.bool (!b)) (QfF (Qf0 (QeS hmok)) hby)) (Zz Y)
 ·exact oi [3,9] fun Y=>QbL (h':=!decide (Qaz (Qap (⟨⟨((y7.1:Nat):Int),((y13.1:Nat):Int),x21.1,[],0,0,[]⟩,none,0,none,0⟩:Msv).c)=l)) rfl rfl rfl (Zz Y)
 rintro J1 w82 J2 hJ Y
 replace hJ:J2=upd (mix (sq 121 11) J1 _) 131 (.bool ((!(Qah (⟨⟨((y7.1:Nat):Int),((y13.1:Nat):Int),x21.1,[],0,0,[]⟩,none,0,none,0⟩:Msv).c))||(!decide (Qaz (Qap (⟨⟨((y7.1:Nat):Int),((y13.1:Nat):Int),x21.1,[],0,0,[]⟩,none,0,none,0⟩:Msv).c)=l)))):=hJ
 replace Y:Own w no w82 [blk b1 (msv (⟨⟨0,0,vzero,[],0,0,[]⟩,none,0,none,0⟩:Msv)) 86,blk b10 (rve y17.2.2.2) 174,blk b24 (vc x21.1) 36,blk b30 (msv (⟨⟨((y7.1:Nat):Int),((y13.1:Nat):Int),x21.1,[],0,0,[]⟩,none,0,none,0⟩:Msv)) 86,cond ((!(Qah (⟨⟨((y7.1:Nat):Int),((y13.1:Nat):Int),x21.1,[],0,0,[]⟩,none,0,none,0⟩:Msv).c)) == false) (row (.slice (aOf (J1 126)) ((Qaz (Qap (⟨⟨((y7.1:Nat):Int),((y13.1:Nat):Int),x21.1,[],0,0,[]⟩,none,0,none,0⟩:Msv).c)).length) (cOf (J1 126))) ((Qaz (Qap (⟨⟨((y7.1:Nat):Int),((y13.1:Nat):Int),x21.1,[],0,0,[]⟩,none,0,none,0⟩:Msv).c)).map (ic .u8)) 5 1) (emp)]:=Y
 generalize (aOf (J1 126))=a83 at Y
 generalize (cOf (J1 126))=c84 at Y
 subst hJ
 refine Qaq (t:=(!(Qah (⟨⟨((y7.1:Nat):Int),((y13.1:Nat):Int),x21.1,[],0,0,[]⟩,none,0,none,0⟩:Msv).c))||(!decide (Qaz (Qap (⟨⟨((y7.1:Nat):Int),((y13.1:Nat):Int),x21.1,[],0,0,[]⟩,none,0,none,0⟩:Msv).c)=l))) rfl (fun c85=>?_) (fun c85=>?_)
 ·
  refine Qae ?_
  have hno:QcT l mscz 5:=hend.2 (by
       rintro ⟨h1,h2⟩
       have h9:=c85
       rw [h1,show Qaz (Qap _)=l from h2] at h9
       simp at h9)
  refine Qab (Qaa (Qbi (vs:=[]) (cs:=msv (⟨⟨0,0,vzero,[],0,0,[]⟩,none,0,none,0⟩:Msv)) [[(I6 0:Value)],[(.int .u8 0:Value)],vc vzero,[(.slice none 0 0:Value)],[(I6 0:Value)],[(I6 0:Value)],[(.slice none 0 0:Value)]] [[(I6 0:Value)],[(.int .u8 0:Value)],vc vzero,[(.slice none 0 0:Value)],[(I6 0:Value)],[(I6 0:Value)],[(.slice none 0 0:Value)]] Ql3 rfl (rfl) rfl rfl (Qaa (QbN (V:=.agg (msv (⟨⟨0,0,vzero,[],0,0,[]⟩,none,0,none,0⟩:Msv)).toArray) (vs:=msv (⟨⟨0,0,vzero,[],0,0,[]⟩,none,0,none,0⟩:Msv)) (cs':=msv (⟨⟨0,0,vzero,[],0,0,[]⟩,none,0,none,0⟩:Msv)) QbI.1 Y 0 rfl rfl rfl rfl rfl (QQ8 rfl) (Qbo _) (Qao rfl) fun w86 Y=>(Qaa (Qak (I6 5) (Qad (Qat ?_))))))))
  refine ⟨_,QaD (cs:=msv (⟨⟨0,0,vzero,[],0,0,[]⟩,none,0,none,0⟩:Msv)) (V:=I6 5) results27 QbI Y 0 rfl rfl rfl rfl,?_⟩
  exact ⟨((⟨⟨0,0,vzero,[],0,0,[]⟩,none,0,none,0⟩:Msv),5),rfl,(Y.take 0).more (row (.slice none 0 0) (([]:List Opn).map oc) 54 23) (QaK _ _ _ _),hno,fun _ _=>Rd.nil _ _⟩
 have c85r:=QdH c85
 replace c85:=QdJ c85
 replace c85:=Qa3 c85
 replace c85r:=Qa3 c85r
 replace c85r:=QQ1 c85r
 refine Qar (Qae ?_)
 have hyes:=hend.1 ⟨c85,c85r⟩
 refine Qab (Qaa (Qa1 (cs:=msv (⟨⟨((y7.1:Nat):Int),((y13.1:Nat):Int),x21.1,[],0,0,[]⟩,none,0,none,0⟩:Msv)) QbI Y 3 rfl rfl rfl (Qaa (QbN (V:=.agg (msv (⟨⟨((y7.1:Nat):Int),((y13.1:Nat):Int),x21.1,[],0,0,[]⟩,none,0,none,0⟩:Msv)).toArray) (vs:=msv (⟨⟨((y7.1:Nat):Int),((y13.1:Nat):Int),x21.1,[],0,0,[]⟩,none,0,none,0⟩:Msv)) (cs':=msv (⟨⟨((y7.1:Nat):Int),((y13.1:Nat):Int),x21.1,[],0,0,[]⟩,none,0,none,0⟩:Msv)) QbI.1 Y 0 rfl rfl rfl rfl rfl (QQ8 rfl) (Qbo _) (Qao rfl) fun w87 Y=>(Qaa (Qak (I6 0) (Qad (Qat ?_))))))))
 refine ⟨_,QaD (cs:=msv (⟨⟨((y7.1:Nat):Int),((y13.1:Nat):Int),x21.1,[],0,0,[]⟩,none,0,none,0⟩:Msv)) (V:=I6 0) results27 QbI Y 0 rfl rfl rfl rfl,?_⟩
 replace Y:=Y.more (row (.slice none 0 0) (([]:List Opn).map oc) 54 23) (QaK _ _ _ _)
 exact ⟨((⟨⟨((y7.1:Nat):Int),((y13.1:Nat):Int),x21.1,[],0,0,[]⟩,none,0,none,0⟩:Msv),0),rfl,Y.sel [5] (by decide) rfl,hyes,fun w1 h=>Rd.nil _ _⟩
end Tt
end Go.Proofs
namespace Go.Proofs
open Go Go.Vx Go.RowKit
open Tryz
namespace Tt
theorem QnN (w:World) (x y:Msv) (hx:QaZ x.c.b) (hy:QaZ y.c.b) (hxo:RdX w (.slice x.a x.c.ops.length x.n) 23 (x.c.ops.map oc)) (hxb:RdX w (.slice x.a2 x.c.b.length x.n2) 1 (x.c.b.map (ic .u8))) (hyo:RdX w (.slice y.a y.c.ops.length y.n) 23 (y.c.ops.map oc)) (hyb:RdX w (.slice y.a2 y.c.b.length y.n2) 1 (y.c.b.map (ic .u8))):Calls prog 30 #[.agg (msv x).toArray,.agg (msv y).toArray] w (fun e w'=>e = .returned (.bool (decide (x.c=y.c)))/\Own w no w' []):=by
 refine Qal (n:=75) func30 rfl ntmps30 rfl ?_
 have Y:=Own.start w
 have hn1:=hxo.sml
 have hn2:=hyo.sml
 have hn3:=hxb.sml
 have hn4:=hyb.sml
 refine Qae (Qab (Qaa (Qb4 (V:=.agg (msv x).toArray) (cs:=msv x) rfl rfl Y fun b1 w2 Y=>(Qaa (Qb4 (V:=.agg (msv y).toArray) (cs:=msv y) rfl rfl Y fun b3 w4 Y=>(Qaa (Qak (.bool false) (Qad (Qae (Qae (Qa2 (so 6 51) [] [0,1,0,4,15,31,63,127,63,319,1023,2047,4095,8191,16383,8191,40959,131071,262143,524287,1048575,2097151,1048575,5242879,16777215,33554431,67108863,134217727,268435455,134217727,671088639,2147483647,4294967295,8589934591,17179869183,34359738367,68719476735,17179869183,154618822655,429496729599,1099511627775,2199023255551,4398046511103,8796093022207,17592186044415,35184372088831,8796093022207,79164837199871,219902325555199,562949953421311,1125899906842623] [pv (Pq b1 (0+0)),pv (I6 x.c.kind),pv (Pq b3 (0+0)),pv (I6 y.c.kind),pv (.bool (!decide (x.c.kind=y.c.kind))),pv (.bool (!decide (x.c.kind=y.c.kind))),pg ((!decide (x.c.kind=y.c.kind)) == false) (Pq b1 (0+1)),pg ((!decide (x.c.kind=y.c.kind)) == false) (.int .u8 x.c.frm),pg ((!decide (x.c.kind=y.c.kind)) == false) (Pq b3 (0+1)),pg ((!decide (x.c.kind=y.c.kind)) == false) (.int .u8 y.c.frm),pg ((!decide (x.c.kind=y.c.kind)) == false) (.bool (!decide (x.c.frm=y.c.frm))),pv (.bool ((!decide (x.c.kind=y.c.kind))||(!decide (x.c.frm=y.c.frm)))),pv (.bool ((!decide (x.c.kind=y.c.kind))||(!decide (x.c.frm=y.c.frm)))),pg (((!decide (x.c.kind=y.c.kind))||(!decide (x.c.frm=y.c.frm))) == false) (Pq b1 (0+2)),pg (((!decide (x.c.kind=y.c.kind))||(!decide (x.c.frm=y.c.frm))) == false) (.agg (vc x.c.known).toArray),pg (((!decide (x.c.kind=y.c.kind))||(!decide (x.c.frm=y.c.frm))) == false) (Pq b3 (0+2)),pg (((!decide (x.c.kind=y.c.kind))||(!decide (x.c.frm=y.c.frm))) == false) (.agg (vc y.c.known).toArray),pg (((!decide (x.c.kind=y.c.kind))||(!decide (x.c.frm=y.c.frm))) == false) (.bool (!decide (x.c.known=y.c.known))),pv (.bool (((!decide (x.c.kind=y.c.kind))||(!decide (x.c.frm=y.c.frm)))||(!decide (x.c.known=y.c.known)))),pv (.bool (((!decide (x.c.kind=y.c.kind))||(!decide (x.c.frm=y.c.frm)))||(!decide (x.c.known=y.c.known)))),pg ((((!decide (x.c.kind=y.c.kind))||(!decide (x.c.frm=y.c.frm)))||(!decide (x.c.known=y.c.known))) == false) (Pq b1 (0+19)),pg ((((!decide (x.c.kind=y.c.kind))||(!decide (x.c.frm=y.c.frm)))||(!decide (x.c.known=y.c.known))) == false) (I6 x.c.idx),pg ((((!decide (x.c.kind=y.c.kind))||(!decide (x.c.frm=y.c.frm)))||(!decide (x.c.known=y.c.known))) == false) (Pq b3 (0+19)),pg ((((!decide (x.c.kind=y.c.kind))||(!decide (x.c.frm=y.c.frm)))||(!decide (x.c.known=y.c.known))) == false) (I6 y.c.idx),pg ((((!decide (x.c.kind=y.c.kind))||(!decide (x.c.frm=y.c.frm)))||(!decide (x.c.known=y.c.known))) == false) (.bool (!decide (x.c.idx=y.c.idx))),pv (.bool ((((!decide (x.c.kind=y.c.kind))||(!decide (x.c.frm=y.c.frm)))||(!decide (x.c.known=y.c.known)))||(!decide (x.c.idx=y.c.idx)))),pv (.bool ((((!decide (x.c.kind=y.c.kind))||(!decide (x.c.frm=y.c.frm)))||(!decide (x.c.known=y.c.known)))||(!decide (x.c.idx=y.c.idx)))),pg (((((!decide (x.c.kind=y.c.kind))||(!decide (x.c.frm=y.c.frm)))||(!decide (x.c.known=y.c.known)))||(!decide (x.c.idx=y.c.idx))) == false) (Pq b1 (0+20)),pg (((((!decide (x.c.kind=y.c.kind))||(!decide (x.c.frm=y.c.frm)))||(!decide (x.c.known=y.c.known)))||(!decide (x.c.idx=y.c.idx))) == false) (I6 x.c.tot),pg (((((!decide (x.c.kind=y.c.kind))||(!decide (x.c.frm=y.c.frm)))||(!decide (x.c.known=y.c.known)))||(!decide (x.c.idx=y.c.idx))) == false) (Pq b3 (0+20)),pg (((((!decide (x.c.kind=y.c.kind))||(!decide (x.c.frm=y.c.frm)))||(!decide (x.c.known=y.c.known)))||(!decide (x.c.idx=y.c.idx))) == false) (I6 y.c.tot),pg (((((!decide (x.c.kind=y.c.kind))||(!decide (x.c.frm=y.c.frm)))||(!decide (x.c.known=y.c.known)))||(!decide (x.c.idx=y.c.idx))) == false) (.bool (!decide (x.c.tot=y.c.tot))),pv (.bool (((((!decide (x.c.kind=y.c.kind))||(!decide (x.c.frm=y.c.frm)))||(!decide (x.c.known=y.c.known)))||(!decide (x.c.idx=y.c.idx)))||(!decide (x.c.tot=y.c.tot)))),pv (.bool (((((!decide (x.c.kind=y.c.kind))||(!decide (x.c.frm=y.c.frm)))||(!decide (x.c.known=y.c.known)))||(!decide (x.c.idx=y.c.idx)))||(!decide (x.c.tot=y.c.tot)))),pg ((((((!decide (x.c.kind=y.c.kind))||(!decide (x.c.frm=y.c.frm)))||(!decide (x.c.known=y.c.known)))||(!decide (x.c.idx=y.c.idx)))||(!decide (x.c.tot=y.c.tot))) == false) (Pq b1 (0+21)),pg ((((((!decide (x.c.kind=y.c.kind))||(!decide (x.c.frm=y.c.frm)))||(!decide (x.c.known=y.c.known)))||(!decide (x.c.idx=y.c.idx)))||(!decide (x.c.tot=y.c.tot))) == false) (.slice x.a2 x.c.b.length x.n2),pg ((((((!decide (x.c.kind=y.c.kind))||(!decide (x.c.frm=y.c.frm)))||(!decide (x.c.known=y.c.known)))||(!decide (x.c.idx=y.c.idx)))||(!decide (x.c.tot=y.c.tot))) == false) (sv (sOf x.c.b)),pg ((((((!decide (x.c.kind=y.c.kind))||(!decide (x.c.frm=y.c.frm)))||(!decide (x.c.known=y.c.known)))||(!decide (x.c.idx=y.c.idx)))||(!decide (x.c.tot=y.c.tot))) == false) (Pq b3 (0+21)),pg ((((((!decide (x.c.kind=y.c.kind))||(!decide (x.c.frm=y.c.frm)))||(!decide (x.c.known=y.c.known)))||(!decide (x.c.idx=y.c.idx)))||(!decide (x.c.tot=y.c.tot))) == false) (.slice y.a2 y.c.b.length y.n2),pg ((((((!decide (x.c.kind=y.c.kind))||(!decide (x.c.frm=y.c.frm)))||(!decide (x.c.known=y.c.known)))||(!decide (x.c.idx=y.c.idx)))||(!decide (x.c.tot=y.c.tot))) == false) (sv (sOf y.c.b)),pg ((((((!decide (x.c.kind=y.c.kind))||(!decide (x.c.frm=y.c.frm)))||(!decide (x.c.known=y.c.known)))||(!decide (x.c.idx=y.c.idx)))||(!decide (x.c.tot=y.c.tot))) == false) (.bool (!decide (x.c.b=y.c.b))),pv (.bool ((((((!decide (x.c.kind=y.c.kind))||(!decide (x.c.frm=y.c.frm)))||(!decide (x.c.known=y.c.known)))||(!decide (x.c.idx=y.c.idx)))||(!decide (x.c.tot=y.c.tot)))||(!decide (x.c.b=y.c.b)))),pv (.bool ((((((!decide (x.c.kind=y.c.kind))||(!decide (x.c.frm=y.c.frm)))||(!decide (x.c.known=y.c.known)))||(!decide (x.c.idx=y.c.idx)))||(!decide (x.c.tot=y.c.tot)))||(!decide (x.c.b=y.c.b)))),pg (((((((!decide (x.c.kind=y.c.kind))||(!decide (x.c.frm=y.c.frm)))||(!decide (x.c.known=y.c.known)))||(!decide (x.c.idx=y.c.idx)))||(!decide (x.c.tot=y.c.tot)))||(!decide (x.c.b=y.c.b))) == false) (Pq b1 (0+18)),pg (((((((!decide (x.c.kind=y.c.kind))||(!decide (x.c.frm=y.c.frm)))||(!decide (x.c.known=y.c.known)))||(!decide (x.c.idx=y.c.idx)))||(!decide (x.c.tot=y.c.tot)))||(!decide (x.c.b=y.c.b))) == false) (.slice x.a x.c.ops.length x.n),pg (((((((!decide (x.c.kind=y.c.kind))||(!decide (x.c.frm=y.c.frm)))||(!decide (x.c.known=y.c.known)))||(!decide (x.c.idx=y.c.idx)))||(!decide (x.c.tot=y.c.tot)))||(!decide (x.c.b=y.c.b))) == false) (I6 ((x.c.ops.length:Nat):Int)),pg (((((((!decide (x.c.kind=y.c.kind))||(!decide (x.c.frm=y.c.frm)))||(!decide (x.c.known=y.c.known)))||(!decide (x.c.idx=y.c.idx)))||(!decide (x.c.tot=y.c.tot)))||(!decide (x.c.b=y.c.b))) == false) (Pq b3 (0+18)),pg (((((((!decide (x.c.kind=y.c.kind))||(!decide (x.c.frm=y.c.frm)))||(!decide (x.c.known=y.c.known)))||(!decide (x.c.idx=y.c.idx)))||(!decide (x.c.tot=y.c.tot)))||(!decide (x.c.b=y.c.b))) == false) (.slice y.a y.c.ops.length y.n),pg (((((((!decide (x.c.kind=y.c.kind))||(!decide (x.c.frm=y.c.frm)))||(!decide (x.c.known=y.c.known)))||(!decide (x.c.idx=y.c.idx)))||(!decide (x.c.tot=y.c.tot)))||(!decide (x.c.b=y.c.b))) == false) (I6 ((y.c.ops.length:Nat):Int)),pg (((((((!decide (x.c.kind=y.c.kind))||(!decide (x.c.frm=y.c.frm)))||(!decide (x.c.known=y.c.known)))||(!decide (x.c.idx=y.c.idx)))||(!decide (x.c.tot=y.c.tot)))||(!decide (x.c.b=y.c.b))) == false) (.bool (!decide (((x.c.ops.length:Nat):Int)=((y.c.ops.length:Nat):Int)))),pv (.bool (((((((!decide (x.c.kind=y.c.kind))||(!decide (x.c.frm=y.c.frm)))||(!decide (x.c.known=y.c.known)))||(!decide (x.c.idx=y.c.idx)))||(!decide (x.c.tot=y.c.tot)))||(!decide (x.c.b=y.c.b)))||(!decide (((x.c.ops.length:Nat):Int)=((y.c.ops.length:Nat):Int)))))] (fun _ _=>_) [50] (by kernel_rfl) Y ⟨?_,?_,?_,?_,?_,?_,?_,?_,?_,?_,?_,?_,?_,?_,?_,?_,?_,?_,?_,?_,?_,?_,?_,?_,?_,?_,?_,?_,?_,?_,?_,?_,?_,?_,?_,?_,?_,?_,?_,?_,?_,?_,?_,?_,?_,?_,?_,?_,?_,?_,?_,trivial⟩ ?_)))))))))))
 ·exact oi [] fun Y=>Qac Qew rfl (Zz Y)
 ·exact oi [0] fun Y=>QaY (.int .i64 x.c.kind) QcS Y 0 (Zz Y)
 ·exact oi [] fun Y=>Qac Qew rfl (Zz Y)
 ·exact oi [2] fun Y=>QaY (.int .i64 y.c.kind) QcS Y 1 (Zz Y)
 ·exact oi [1,3] fun Y=>QbM rfl rfl (Zz Y)
 ·exact oi [4] fun Y=>Qag (.bool (!decide (x.c.kind=y.c.kind))) (Zz Y)
 ·exact ogi [5] fun hG Y=>Qac Qh1 rfl (Zz Y)
 ·exact oyi [5,6] [6] fun hG Y=>QaY (.int .u8 x.c.frm) QcG Y 0 (Zz Y)
 ·exact ogi [5] fun hG Y=>Qac Qh1 rfl (Zz Y)
 ·exact oyi [5,8] [8] fun hG Y=>QaY (.int .u8 y.c.frm) QcG Y 1 (Zz Y)
 ·exact oyi [5,7,9] [7,9] fun hG Y=>QbM rfl rfl (Zz Y)
 ·exact oi [5,10] fun Y=>QbL (h':=!decide (x.c.frm=y.c.frm)) rfl rfl rfl (Zz Y)
 ·exact oi [11] fun Y=>Qag (.bool ((!decide (x.c.kind=y.c.kind))||(!decide (x.c.frm=y.c.frm)))) (Zz Y)
 ·exact ogi [12] fun hG Y=>Qac Qgp rfl (Zz Y)
 ·exact oyi [12,13] [13] fun hG Y=>Qez (vs:=vc x.c.known) QbC Y 0 rfl rfl rfl rfl (Zz Y)
 ·exact ogi [12] fun hG Y=>Qac Qgp rfl (Zz Y)
 ·exact oyi [12,15] [15] fun hG Y=>Qez (vs:=vc y.c.known) QbC Y 1 rfl rfl rfl rfl (Zz Y)
 ·exact oyi [12,14,16] [14,16] fun hG Y=>Qry (xs:=vc x.c.known) (ys:=vc y.c.known) eqGuardType36 (Qo1 x.c.known y.c.known) rfl rfl rfl (Zz Y)
 ·exact oi [12,17] fun Y=>QbL (h':=!decide (x.c.known=y.c.known)) rfl rfl rfl (Zz Y)
 ·exact oi [18] fun Y=>Qag (.bool (((!decide (x.c.kind=y.c.kind))||(!decide (x.c.frm=y.c.frm)))||(!decide (x.c.known=y.c.known)))) (Zz Y)
 ·exact ogi [19] fun hG Y=>Qac QdM rfl (Zz Y)
 ·exact oyi [19,20] [20] fun hG Y=>QaY (.int .i64 x.c.idx) QcS Y 0 (Zz Y)
 ·exact ogi [19] fun hG Y=>Qac QdM rfl (Zz Y)
 ·exact oyi [19,22] [22] fun hG Y=>QaY (.int .i64 y.c.idx) QcS Y 1 (Zz Y)
 ·exact oyi [19,21,23] [21,23] fun hG Y=>QbM rfl rfl (Zz Y)
 ·exact oi [19,24] fun Y=>QbL (h':=!decide (x.c.idx=y.c.idx)) rfl rfl rfl (Zz Y)
 ·exact oi [25] fun Y=>Qag (.bool ((((!decide (x.c.kind=y.c.kind))||(!decide (x.c.frm=y.c.frm)))||(!decide (x.c.known=y.c.known)))||(!decide (x.c.idx=y.c.idx)))) (Zz Y)
 ·exact ogi [26] fun hG Y=>Qac Qdq rfl (Zz Y)
 ·exact oyi [26,27] [27] fun hG Y=>QaY (.int .i64 x.c.tot) QcS Y 0 (Zz Y)
 ·exact ogi [26] fun hG Y=>Qac Qdq rfl (Zz Y)
 ·exact oyi [26,29] [29] fun hG Y=>QaY (.int .i64 y.c.tot) QcS Y 1 (Zz Y)
 ·exact oyi [26,28,30] [28,30] fun hG Y=>QbM rfl rfl (Zz Y)
 ·exact oi [26,31] fun Y=>QbL (h':=!decide (x.c.tot=y.c.tot)) rfl rfl rfl (Zz Y)
 ·exact oi [32] fun Y=>Qag (.bool (((((!decide (x.c.kind=y.c.kind))||(!decide (x.c.frm=y.c.frm)))||(!decide (x.c.known=y.c.known)))||(!decide (x.c.idx=y.c.idx)))||(!decide (x.c.tot=y.c.tot)))) (Zz Y)
 ·exact ogi [33] fun hG Y=>Qac Qdu rfl (Zz Y)
 ·exact oyi [33,34] [34] fun hG Y=>QaY (.slice x.a2 x.c.b.length x.n2) QbD Y 0 (Zz Y)
 ·exact oyi [33,35] [35] fun hG Y=>QoI Qbh QdG QdF (RdX.own' hxb Y) rfl (Zz Y)
 ·exact ogi [33] fun hG Y=>Qac Qdu rfl (Zz Y)
 ·exact oyi [33,37] [37] fun hG Y=>QaY (.slice y.a2 y.c.b.length y.n2) QbD Y 1 (Zz Y)
 ·exact oyi [33,38] [38] fun hG Y=>QoI Qbh QdG QdF (RdX.own' hyb Y) rfl (Zz Y)
 ·exact oyi [33,36,39] [36,39] fun hG Y=>Qas (V:=.bool (!decide (sOf x.c.b=sOf y.c.b))) (V':=.bool (!decide (x.c.b=y.c.b))) (QiP rfl rfl ⟨rfl,rfl⟩) (congrArg (fun b:Bool=>Value.bool (!b)) (QfF hx hy)) (Zz Y)
 ·exact oi [33,40] fun Y=>QbL (h':=!decide (x.c.b=y.c.b)) rfl rfl rfl (Zz Y)
 ·exact oi [41] fun Y=>Qag (.bool ((((((!decide (x.c.kind=y.c.kind))||(!decide (x.c.frm=y.c.frm)))||(!decide (x.c.known=y.c.known)))||(!decide (x.c.idx=y.c.idx)))||(!decide (x.c.tot=y.c.tot)))||(!decide (x.c.b=y.c.b)))) (Zz Y)
 ·exact ogi [42] fun hG Y=>Qac Qb8 rfl (Zz Y)
 ·exact oyi [42,43] [43] fun hG Y=>QaY (.slice x.a x.c.ops.length x.n) Qc3 Y 0 (Zz Y)
 ·exact oyi [42,44] [44] fun hG Y=>QbR (n:=x.c.ops.length) Qc9 (RdX.own' hxo Y) (by simp) rfl (Zz Y)
 ·exact ogi [42] fun hG Y=>Qac Qb8 rfl (Zz Y)
 ·exact oyi [42,46] [46] fun hG Y=>QaY (.slice y.a y.c.ops.length y.n) Qc3 Y 1 (Zz Y)
 ·exact oyi [42,47] [47] fun hG Y=>QbR (n:=y.c.ops.length) Qc9 (RdX.own' hyo Y) (by simp) rfl (Zz Y)
 ·exact oyi [42,45,48] [45,48] fun hG Y=>QbM rfl rfl (Zz Y)
 ·exact oi [42,49] fun Y=>QbL (h':=!decide (((x.c.ops.length:Nat):Int)=((y.c.ops.length:Nat):Int))) rfl rfl rfl (Zz Y)
 rintro J1 w5 J2 hJ Y
 replace hJ:J2=upd (mix (sq 6 51) J1 _) 56 (.bool (((((((!decide (x.c.kind=y.c.kind))||(!decide (x.c.frm=y.c.frm)))||(!decide (x.c.known=y.c.known)))||(!decide (x.c.idx=y.c.idx)))||(!decide (x.c.tot=y.c.tot)))||(!decide (x.c.b=y.c.b)))||(!decide (((x.c.ops.length:Nat):Int)=((y.c.ops.length:Nat):Int))))):=hJ
 subst hJ
 refine Qaq (t:=((((((!decide (x.c.kind=y.c.kind))||(!decide (x.c.frm=y.c.frm)))||(!decide (x.c.known=y.c.known)))||(!decide (x.c.idx=y.c.idx)))||(!decide (x.c.tot=y.c.tot)))||(!decide (x.c.b=y.c.b)))||(!decide (((x.c.ops.length:Nat):Int)=((y.c.ops.length:Nat):Int)))) rfl (fun c6=>?_) (fun c6=>?_)
 ·
  refine Qae (Qab (Qaa (Qak (.bool false) (Qad (Qat ?_)))))
  refine ⟨_,Qau (V:=.bool false) results30 rfl,(Zr Y (QgU fun g=>?_))⟩
  have hc:=c6
  rw [g] at hc
  simp at hc
 have c6r:=QdH c6
 replace c6:=QdJ c6
 have c6rr:=QdH c6
 replace c6:=QdJ c6
 have c6rrr:=QdH c6
 replace c6:=QdJ c6
 have c6rrrr:=QdH c6
 replace c6:=QdJ c6
 have c6rrrrr:=QdH c6
 replace c6:=QdJ c6
 have c6rrrrrr:=QdH c6
 replace c6:=QdJ c6
 replace c6:=Qa3 c6
 replace c6:=QQ1 c6
 replace c6rrrrrr:=Qa3 c6rrrrrr
 replace c6rrrrrr:=QQ1 c6rrrrrr
 replace c6rrrrr:=Qa3 c6rrrrr
 replace c6rrrrr:=QQ1 c6rrrrr
 replace c6rrrr:=Qa3 c6rrrr
 replace c6rrrr:=QQ1 c6rrrr
 replace c6rrr:=Qa3 c6rrr
 replace c6rrr:=QQ1 c6rrr
 replace c6rr:=Qa3 c6rr
 replace c6rr:=QQ1 c6rr
 replace c6r:=Qa3 c6r
 replace c6r:=QQ1 c6r
 refine Qar (Qae (Qae (Qab (Qaa (Qak (I6 0) (Qad (Qay (Qbb (fun J μ J' w'=>∃ (Jo:Env) (k:Nat),J'=upd (mix ([4,5]++sq 57 18) Jo J) 5 (I6 (k:Int))/\(k<=x.c.ops.length)/\(∀ j:Nat,j<k->gd x.c.ops j=gd y.c.ops j)/\μ=x.c.ops.length-k/\Own w no w' [blk b1 (msv x) 86,blk b3 (msv y) 86]) ?_ ?_))))))))
 ·exact ⟨_,_,0,Qaw (QaN (ds:=([4,5]++sq 57 18)) (Agr.refl _ _)) rfl,(by omega),(fun j hj=>absurd hj (Nat.not_lt_zero j)),rfl,Y⟩
 rintro μ J' w7 ⟨Jo,k,rfl,hk,hal,rfl,Y⟩
 refine Qae (Qae (Qab (Qaa (Qag (I6 (k:Int)) (Qaa (Qac Qb8 rfl (Qaa (QaY (.slice x.a x.c.ops.length x.n) Qc3 Y 0 (Qaa (QbR (n:=x.c.ops.length) Qc9 (RdX.own' hxo Y) (by simp) rfl (Qaa (QbQ rfl rfl (Qad (Qaq (t:=decide ((k:Int)<((x.c.ops.length:Nat):Int))) rfl (fun c8=>?_) (fun c8=>?_)))))))))))))))
 ·
  replace c8:=QQ1 c8
  refine Qar (Qae (Qay (Qae (Qcm HM (so 64 11) [] [0,1,0,7,15,0,32,0,224,480,1023] [pv (Pq b1 (0+18)),pv (.slice x.a x.c.ops.length x.n),pv (I6 (k:Int)),pv (.pointer (some ⟨bkS (.slice x.a x.c.ops.length x.n),ofS (.slice x.a x.c.ops.length x.n)+(k:Int).toNat*23,none⟩)),pv (.agg (oc (gd x.c.ops k)).toArray),pv (Pq b3 (0+18)),pv (.slice y.a y.c.ops.length y.n),pv (I6 (k:Int)),pv (.pointer (some ⟨bkS (.slice y.a y.c.ops.length y.n),ofS (.slice y.a y.c.ops.length y.n)+(k:Int).toNat*23,none⟩)),pv (.agg (oc (gd y.c.ops k)).toArray),pv (.bool (!decide (gd x.c.ops k=gd y.c.ops k)))] (fun _ _=>_) [10] (by kernel_rfl) Y ⟨?_,?_,?_,?_,?_,?_,?_,?_,?_,?_,?_,trivial⟩ ?_))))
  ·exact oi [] fun Y=>Qac Qb8 rfl (Zz Y)
  ·exact oi [0] fun Y=>QaY (.slice x.a x.c.ops.length x.n) Qc3 Y 0 (Zz Y)
  ·exact oi [] fun Y=>Qag (.int .i64 (k:Int)) (Zz Y)
  ·exact oi [1,2] fun Y=>QcJ Qc9 Qbp.1 (RdX.pos (RdX.own' hxo Y) (by rw [QQ6];omega)) rfl rfl (by omega) (by rw [QQ6];omega) (Zz Y)
  ·exact oi [3] fun Y=>QhD (j:=0) (vs:=oc (gd x.c.ops k)) k Qbp (RdX.pos (RdX.own' hxo Y) (by rw [QQ6];omega)) (QcN (by omega)) rfl rfl rfl (by omega) (Zz Y)
  ·exact oi [] fun Y=>Qac Qb8 rfl (Zz Y)
  ·exact oi [5] fun Y=>QaY (.slice y.a y.c.ops.length y.n) Qc3 Y 1 (Zz Y)
  ·exact oi [] fun Y=>Qag (.int .i64 (k:Int)) (Zz Y)
  ·exact oi [6,7] fun Y=>QcJ Qc9 Qbp.1 (RdX.pos (RdX.own' hyo Y) (by rw [QQ6];omega)) rfl rfl (by omega) (by rw [QQ6];omega) (Zz Y)
  ·exact oi [8] fun Y=>QhD (j:=0) (vs:=oc (gd y.c.ops k)) k Qbp (RdX.pos (RdX.own' hyo Y) (by rw [QQ6];omega)) (QcN (by omega)) rfl rfl rfl (by omega) (Zz Y)
  ·exact oi [4,9] fun Y=>Qry (xs:=oc (gd x.c.ops k)) (ys:=oc (gd y.c.ops k)) eqGuardType54 (QvR (gd x.c.ops k) (gd y.c.ops k)) rfl rfl rfl (Zz Y)
  rintro J1 w9 J2 hJ Y
  replace hJ:J2=upd (mix (sq 64 11) J1 _) 74 (.bool (!decide (gd x.c.ops k=gd y.c.ops k))):=hJ
  subst hJ
  refine Qaq (t:=!decide (gd x.c.ops k=gd y.c.ops k)) rfl (fun c10=>?_) (fun c10=>?_)
  ·
   replace c10:=Qcb c10
   replace c10:=QQ2 c10
   refine Qae (Qab (Qaa (Qak (.bool false) (Qad (Qat ?_)))))
   refine ⟨_,Qau (V:=.bool false) results30 rfl,(Zr Y ?_)⟩
   exact QgU fun g=>c10 (by rw [g])
  replace c10:=Qa3 c10
  replace c10:=QQ1 c10
  refine Qar (Qab (Qaa (Qag (I6 (k:Int)) (Qaa (Qbx (a:=(k:Int)) (b:=1) (c:=((k+1:Nat):Int)) rfl rfl (QaS (by omega) (by omega)) (Qaa (Qak (I6 ((k+1:Nat):Int)) (Qad ?_))))))))
  refine ⟨_,?_,_,k+1,Qaw (QaN (ds:=([4,5]++sq 57 18)) (by repeat (first|exact Agr.refl _ _|refine Agr.upd ?_ rfl|refine Agr.mix ?_ rfl))) rfl,(by omega),(Qpb hal c10),rfl,Y.take 2⟩
  omega
 replace c8:=QQ2 c8
 refine Qbs (Qae (Qab (Qaa (Qak (.bool true) (Qad (Qat ?_))))))
 refine ⟨_,Qau (V:=.bool true) results30 rfl,(Zr Y ?_)⟩
 exact Qmb (Qc4 c6 c6rrrrrr c6rrrrr (QoE (l:=x.c.ops) (m:=y.c.ops) (by omega) fun j hj=>hal j (by omega)) c6rrrr c6rrr c6rr)
theorem Qqc (w:World) (x:Msv):Calls prog 31 #[.agg (msv x).toArray] w (fun e w'=>e = .returned (.agg (msv x).toArray)/\Own w no w' []):=by
 refine Qal (n:=4) func31 rfl ntmps31 rfl ?_
 have Y:=Own.start w
 refine Qae (Qab (Qaa (Qb4 (V:=.agg (msv x).toArray) (cs:=msv x) rfl rfl Y fun b1 w2 Y=>(Qaa (QaX (cs:=msv (⟨⟨0,0,vzero,[],0,0,[]⟩,none,0,none,0⟩:Msv)) Qpx rfl Y fun b3 w4 Y=>(Qad (Qae (Qab (Qaa (Qa1 (cs:=msv x) QbW Y 0 rfl rfl rfl (Qaa (QbN (V:=.agg (msv x).toArray) (vs:=msv x) (cs':=msv x) QbI.1 Y 1 rfl rfl rfl rfl rfl (QQ8 rfl) (Qbo _) (Qao rfl) fun w5 Y=>(Qad (Qat ?_))))))))))))))
 refine ⟨_,Qii (cs:=msv x) results31 QbI Y 1 rfl rfl rfl,(Zr Y ?_)⟩
 rfl
theorem Qht (w:World) (x:Msv):Calls prog 24 #[.agg (msv x).toArray] w (fun e w'=>e = .returned (.agg (msv x).toArray)/\Own w no w' []):=by
 refine Qal (n:=4) func24 rfl ntmps24 rfl ?_
 have Y:=Own.start w
 refine Qae (Qab (Qaa (Qb4 (V:=.agg (msv x).toArray) (cs:=msv x) rfl rfl Y fun b1 w2 Y=>(Qaa (QaX (cs:=msv (⟨⟨0,0,vzero,[],0,0,[]⟩,none,0,none,0⟩:Msv)) Qqu rfl Y fun b3 w4 Y=>(Qad (Qae (Qab (Qaa (Qa1 (cs:=msv x) QbI Y 0 rfl rfl rfl (Qaa (QbN (V:=.agg (msv x).toArray) (vs:=msv x) (cs':=msv x) QbW.1 Y 1 rfl rfl rfl rfl rfl (QQ8 rfl) (Qbo _) (Qao rfl) fun w5 Y=>(Qad (Qat ?_))))))))))))))
 refine ⟨_,Qii (cs:=msv x) results24 QbW Y 1 rfl rfl rfl,(Zr Y ?_)⟩
 rfl
theorem Qr1 (w:World) (x:Msv) (hxo:RdX w (.slice x.a x.c.ops.length x.n) 23 (x.c.ops.map oc)) (hxb:RdX w (.slice x.a2 x.c.b.length x.n2) 1 (x.c.b.map (ic .u8))):Calls prog 23 #[.agg (msv x).toArray] w (fun e w'=>e = .returned (.bool (Qlr x.c))/\Own w no w' []):=by
 refine Qal (n:=13) func23 rfl ntmps23 rfl ?_
 have Y:=Own.start w
 refine Qae (Qab (Qaa (Qb4 (V:=.agg (msv x).toArray) (cs:=msv x) rfl rfl Y fun b1 w2 Y=>(Qaa (Qak (.bool false) (Qad (Qae (Qa2 (so 3 10++[some 2]) [] [0,1,3,7,15,31,63,127,255,511,1023] [pv (Pq b1 (0+18)),pv (.slice x.a x.c.ops.length x.n),pv (I6 ((x.c.ops.length:Nat):Int)),pv (.bool (decide (((x.c.ops.length:Nat):Int)<=30))),pv (.bool (decide (((x.c.ops.length:Nat):Int)<=30))),pg ((decide (((x.c.ops.length:Nat):Int)<=30)) == true) (Pq b1 (0+21)),pg ((decide (((x.c.ops.length:Nat):Int)<=30)) == true) (.slice x.a2 x.c.b.length x.n2),pg ((decide (((x.c.ops.length:Nat):Int)<=30)) == true) (I6 ((x.c.b.length:Nat):Int)),pg ((decide (((x.c.ops.length:Nat):Int)<=30)) == true) (.bool (decide (((x.c.b.length:Nat):Int)<=4000))),pv (.bool ((decide (((x.c.ops.length:Nat):Int)<=30))&&(decide (((x.c.b.length:Nat):Int)<=4000)))),pv (.bool ((decide (((x.c.ops.length:Nat):Int)<=30))&&(decide (((x.c.b.length:Nat):Int)<=4000))))] (fun _ _=>_) [10] (by kernel_rfl) Y ⟨?_,?_,?_,?_,?_,?_,?_,?_,?_,?_,?_,trivial⟩ ?_))))))))
 ·exact oi [] fun Y=>Qac Qb8 rfl (Zz Y)
 ·exact oi [0] fun Y=>QaY (.slice x.a x.c.ops.length x.n) Qc3 Y 0 (Zz Y)
 ·exact oi [1] fun Y=>QbR (n:=x.c.ops.length) Qc9 (RdX.own' hxo Y) (by simp) rfl (Zz Y)
 ·exact oi [2] fun Y=>QfU rfl rfl (Zz Y)
 ·exact oi [3] fun Y=>Qag (.bool (decide (((x.c.ops.length:Nat):Int)<=30))) (Zz Y)
 ·exact ogi [4] fun hG Y=>Qac Qdu rfl (Zz Y)
 ·exact oyi [4,5] [5] fun hG Y=>QaY (.slice x.a2 x.c.b.length x.n2) QbD Y 0 (Zz Y)
 ·exact oyi [4,6] [6] fun hG Y=>QbR (n:=x.c.b.length) QbJ (RdX.own' hxb Y) (by simp) rfl (Zz Y)
 ·exact oyi [4,7] [7] fun hG Y=>QfU rfl rfl (Zz Y)
 ·exact oi [4,8] fun Y=>Qa0 (h':=decide (((x.c.b.length:Nat):Int)<=4000)) rfl rfl rfl (Zz Y)
 ·exact oi [9] fun Y=>Qak (.bool ((decide (((x.c.ops.length:Nat):Int)<=30))&&(decide (((x.c.b.length:Nat):Int)<=4000)))) (Zz Y)
 rintro J1 w3 J2 hJ Y
 replace hJ:J2=upd (mix (sq 3 10++[2]) J1 _) 2 (.bool ((decide (((x.c.ops.length:Nat):Int)<=30))&&(decide (((x.c.b.length:Nat):Int)<=4000)))):=hJ
 subst hJ
 refine Qat ?_
 refine ⟨_,Qau (V:=.bool ((decide (((x.c.ops.length:Nat):Int)<=30))&&(decide (((x.c.b.length:Nat):Int)<=4000)))) results23 rfl,(Zr Y ?_)⟩
 exact congrArg Value.bool QsK.symm
end Tt
end Go.Proofs
namespace Go.Proofs
open Go Go.Vx Go.RowKit
open Tryz
namespace Tt
theorem Qsu:Ce.numsV .u32 Ct.half=vc Qeh:=by rfl
theorem QrU {w:World} {T:TypeId} (h:w.heap[0]?=some (.cells (Ce.numsV .u32 Ct.half).toArray T (0,0))):Qa8 w 0 (vc Qeh):=by
 rw [Qsu] at h
 intro j u hj
 unfold World.cell?
 simp only [h]
 simpa using hj
theorem Qp1 {w0 w:World} {L:List Res} {o:Obj} (Y:Own w0 no w L) (h:w0.heap[0]?=some o):w.heap[0]?=some o:=by
 have hlt:0<w0.heap.size:=(Array.getElem?_eq_some_iff.1 h).1
 rw [Y.old 0 hlt (fun h=>h)];exact h
theorem shipBytes_ok (w:World) (m:Msv) (hx:MscOk m.c) (hmo:RdX w (.slice m.a m.c.ops.length m.n) 23 (m.c.ops.map oc)) (hmb:RdX w (.slice m.a2 m.c.b.length m.n2) 1 (m.c.b.map (ic .u8))) (a:Option Addr) (c:Nat) (l:Bs) (hby:QaZ l) (hr:Rd w (.slice a l.length c) 1 (l.map (ic .u8))) (T:TypeId) (hw:w.heap[0]?=some (.cells (Ce.numsV .u32 Ct.half).toArray T (0,0))):Calls prog 5 #[.agg (msv m).toArray,.slice a l.length c] w (fun e w'=>e = .returned (.bool true)/\Own w no w' []):=by
 refine Qal (n:=73) func5 rfl ntmps5 rfl ?_
 have Y:=Own.start w
 have hG:=QrU hw
 have hn:=hr.sml
 refine Qae (Qab (Qaa (Qb4 (V:=.agg (msv m).toArray) (cs:=msv m) rfl rfl Y fun b1 w2 Y=>(Qaa (Qak (.bool false) (Qad (Qae (Qae (Qab (Qaa (QaH (vs:=[]) (V:=.bool true) Qv1 rfl rfl ?hc Y fun w3 Y=>?_)))))))))))
 case hc=>exact (Ct.run_f22 T (Qp1 Y hw))
 refine Qaa (Qb6 rfl (Qad (QcR rfl ?_)))
 refine Qar (Qae (Qae (Qa2 (so 15 8) [] [0,1,3,7,15,31,63,127] [pv (.agg (msv m).toArray),pv (.bool (Qlr m.c)),pv (.bool (!(Qlr m.c))),pv (.bool (!(Qlr m.c))),pg ((!(Qlr m.c)) == false) (.slice a l.length c),pg ((!(Qlr m.c)) == false) (I6 ((l.length:Nat):Int)),pg ((!(Qlr m.c)) == false) (.bool (decide (4000<((l.length:Nat):Int)))),pv (.bool ((!(Qlr m.c))||(decide (4000<((l.length:Nat):Int)))))] (fun _ _=>_) [7] (by kernel_rfl) Y ⟨?_,?_,?_,?_,?_,?_,?_,?_,trivial⟩ ?_)))
 ·exact oi [] fun Y=>Qa1 (cs:=msv m) QbI Y 0 rfl rfl rfl (Zz Y)
 ·exact oi [0] fun Y=>QaH (vs:=[.agg (msv m).toArray]) (V:=.bool (Qlr m.c)) Qv5 rfl rfl (Qr1 _ m (RdX.own' hmo Y) (RdX.own' hmb Y)) Y fun _ Y=>Zz Y
 ·exact oi [1] fun Y=>Qb6 rfl (Zz Y)
 ·exact oi [2] fun Y=>Qag (.bool (!(Qlr m.c))) (Zz Y)
 ·exact ogi [3] fun hG Y=>Qag (.slice a l.length c) (Zz Y)
 ·exact oyi [3,4] [4] fun hG Y=>QbG (n:=l.length) QbJ (Rd.own' hr Y) (by simp) rfl (Zz Y)
 ·exact oyi [3,5] [5] fun hG Y=>Qck rfl rfl (Zz Y)
 ·exact oi [3,6] fun Y=>QbL (h':=decide (4000<((l.length:Nat):Int))) rfl rfl rfl (Zz Y)
 rintro J1 w5 J2 hJ Y
 replace hJ:J2=upd (mix (sq 15 8) J1 _) 22 (.bool ((!(Qlr m.c))||(decide (4000<((l.length:Nat):Int))))):=hJ
 subst hJ
 refine Qaq (t:=(!(Qlr m.c))||(decide (4000<((l.length:Nat):Int)))) rfl (fun c6=>?_) (fun c6=>?_)
 ·
  refine Qae (Qab (Qaa (Qak (.bool true) (Qad (Qat ?_)))))
  refine ⟨_,Qau (V:=.bool true) results5 rfl,(Zr Y ?_)⟩
  rfl
 have c6r:=QdH c6
 replace c6:=QdJ c6
 replace c6:=Qa3 c6
 replace c6r:=QQ2 c6r
 refine Qar (Qae (Qab (Qaa (Qa1 (cs:=msv m) QbI Y 0 rfl rfl rfl (Qaa (QaH (vs:=[.agg (msv m).toArray]) (V:=.agg (msv m).toArray) QuO rfl rfl ?hc Y fun w7 Y=>?_))))))
 case hc=>exact (Qht _ m)
 refine Qaa (Qax (vs:=[.agg (msv m).toArray]) (V:=fun q:Option Addr × Nat=>.tuple #[.slice q.1 (MEX m.c).length q.2,I6 (MER m.c)]) (Lo:=fun q=>[row (.slice q.1 (MEX m.c).length q.2) ((MEX m.c).map (ic .u8)) 5 1]) QvY rfl rfl (QrR _ m hx (RdX.own' hmo Y) (RdX.own' hmb Y) (Qa8.own' hG Y)) Y fun q8 w9 Y _=>?_)
 replace Y:=Ow [blk b1 (msv m) 86,row (.slice q8.1 ((MEX m.c).length) q8.2) ((MEX m.c).map (ic .u8)) 5 1] Y
 refine Qaa (Qag (.tuple #[.slice q8.1 ((MEX m.c).length) q8.2,I6 (MER m.c)]) (Qaa (Qaf (V:=.slice q8.1 ((MEX m.c).length) q8.2) rfl rfl (Qaa (Qaf (V:=I6 (MER m.c)) rfl rfl (Qaa (Qak (.slice q8.1 ((MEX m.c).length) q8.2) (Qaa (Qak (I6 (MER m.c)) (Qad (Qae (Qab (Qaa (Qa1 (cs:=msv m) QbI Y 0 rfl rfl rfl (Qaa (Qax (vs:=[.agg (msv m).toArray]) (V:=fun q:Option Addr × Nat=>.tuple #[.slice q.1 (MEX m.c).length q.2,I6 (MER m.c)]) (Lo:=fun q=>[row (.slice q.1 (MEX m.c).length q.2) ((MEX m.c).map (ic .u8)) 5 1]) Qu7 rfl rfl (Qpe _ m hx (RdX.own' hmo Y) (RdX.own' hmb Y)) Y fun q10 w11 Y _=>(Qaa (Qag (.tuple #[.slice q10.1 ((MEX m.c).length) q10.2,I6 (MER m.c)]) (Qaa (Qaf (V:=.slice q10.1 ((MEX m.c).length) q10.2) rfl rfl (Qaa (Qaf (V:=I6 (MER m.c)) rfl rfl (Qaa (Qak (.slice q10.1 ((MEX m.c).length) q10.2) (Qaa (Qak (I6 (MER m.c)) (Qad (Qae (Qab (Qaa (Qag (.slice a l.length c) (Qaa (Qax (vs:=[.slice a l.length c]) (V:=fun y:Msv × Nat=>.tuple #[.agg (msv y.1).toArray,I6 ((y.2:Nat):Int)]) (Lo:=fun y=>[row (.slice y.1.a y.1.c.ops.length y.1.n) (y.1.c.ops.map oc) 54 23,row (.slice y.1.a2 y.1.c.b.length y.1.n2) (y.1.c.b.map (ic .u8)) 5 1]) Qv6 rfl rfl (QsX _ a c l hby (by omega) (Rd.own' hr Y) (Qa8.own' hG Y)) Y fun y12 w13 Y hD14=>?_)))))))))))))))))))))))))))))))))
 replace Y:=Ow [blk b1 (msv m) 86,row (.slice q8.1 ((MEX m.c).length) q8.2) ((MEX m.c).map (ic .u8)) 5 1,row (.slice q10.1 ((MEX m.c).length) q10.2) ((MEX m.c).map (ic .u8)) 5 1,row (.slice y12.1.a y12.1.c.ops.length y12.1.n) (y12.1.c.ops.map oc) 54 23,row (.slice y12.1.a2 y12.1.c.b.length y12.1.n2) (y12.1.c.b.map (ic .u8)) 5 1] Y
 refine Qaa (Qag (.tuple #[.agg (msv y12.1).toArray,I6 ((y12.2:Nat):Int)]) (Qaa (Qaf (V:=.agg (msv y12.1).toArray) rfl rfl (Qaa (Qaf (V:=I6 ((y12.2:Nat):Int)) rfl rfl (Qaa (QaX (cs:=msv (⟨⟨0,0,vzero,[],0,0,[]⟩,none,0,none,0⟩:Msv)) Qqu rfl Y fun b15 w16 Y=>(Qaa (QbN (V:=.agg (msv y12.1).toArray) (vs:=msv y12.1) (cs':=msv y12.1) QbW.1 Y 5 rfl rfl rfl rfl rfl (QQ8 rfl) (Qbo _) (Qao rfl) fun w17 Y=>?_)))))))))
 replace Y:=Ow [blk b1 (msv m) 86,row (.slice q8.1 ((MEX m.c).length) q8.2) ((MEX m.c).map (ic .u8)) 5 1,row (.slice q10.1 ((MEX m.c).length) q10.2) ((MEX m.c).map (ic .u8)) 5 1,row (.slice y12.1.a y12.1.c.ops.length y12.1.n) (y12.1.c.ops.map oc) 54 23,row (.slice y12.1.a2 y12.1.c.b.length y12.1.n2) (y12.1.c.b.map (ic .u8)) 5 1,blk b15 (msv y12.1) 38] Y
 refine Qaa (Qak (I6 ((y12.2:Nat):Int)) (Qad (Qae (Qab (Qaa (Qag (.slice a l.length c) (Qaa (Qax (vs:=[.slice a l.length c]) (V:=fun y:Msv × Nat=>.tuple #[.agg (msv y.1).toArray,I6 ((y.2:Nat):Int)]) (Lo:=fun y=>[row (.slice y.1.a y.1.c.ops.length y.1.n) (y.1.c.ops.map oc) 54 23]) QvQ rfl rfl (Qpu _ a c l hby (by omega) (Rd.own' hr Y)) Y fun y18 w19 Y hD20=>(Qaa (Qag (.tuple #[.agg (msv y18.1).toArray,I6 ((y18.2:Nat):Int)]) (Qaa (Qaf (V:=.agg (msv y18.1).toArray) rfl rfl (Qaa (Qaf (V:=I6 ((y18.2:Nat):Int)) rfl rfl (Qaa (QaX (cs:=msv (⟨⟨0,0,vzero,[],0,0,[]⟩,none,0,none,0⟩:Msv)) Qpx rfl Y fun b21 w22 Y=>?_))))))))))))))))
 replace Y:=Ow [blk b1 (msv m) 86,row (.slice q8.1 ((MEX m.c).length) q8.2) ((MEX m.c).map (ic .u8)) 5 1,row (.slice q10.1 ((MEX m.c).length) q10.2) ((MEX m.c).map (ic .u8)) 5 1,row (.slice y12.1.a y12.1.c.ops.length y12.1.n) (y12.1.c.ops.map oc) 54 23,row (.slice y12.1.a2 y12.1.c.b.length y12.1.n2) (y12.1.c.b.map (ic .u8)) 5 1,blk b15 (msv y12.1) 38,row (.slice y18.1.a y18.1.c.ops.length y18.1.n) (y18.1.c.ops.map oc) 54 23,blk b21 (msv (⟨⟨0,0,vzero,[],0,0,[]⟩,none,0,none,0⟩:Msv)) 86] Y
 refine Qaa (QbN (V:=.agg (msv y18.1).toArray) (vs:=msv y18.1) (cs':=msv y18.1) QbI.1 Y 7 rfl rfl rfl rfl rfl (QQ8 rfl) (Qbo _) (Qao rfl) fun w23 Y=>(Qaa (Qak (I6 ((y18.2:Nat):Int)) (Qad (Qae (Qcm HM (so 44 29++[some 4]) [] [0,1,3,0,15,31,63,127,255,127,639,2047,4095,8191,16383,16383,65535,131071,262143,524287,1048575,524287,4194303,8388607,16777215,33554431,33554431,134217727,268435455,536870911] [pv (.agg (msv m).toArray),pv (.agg (msv m).toArray),pv (.bool (Qah m.c)),pv (.agg (msv m).toArray),pv (.bool (Qah m.c)),pv (.bool ((Qah m.c) == (Qah m.c))),pv (.bool ((Qah m.c) == (Qah m.c))),pg (((Qah m.c) == (Qah m.c)) == true) (.slice q8.1 ((MEX m.c).length) q8.2),pg (((Qah m.c) == (Qah m.c)) == true) (sv (sOf (MEX m.c))),pg (((Qah m.c) == (Qah m.c)) == true) (.slice q10.1 ((MEX m.c).length) q10.2),pg (((Qah m.c) == (Qah m.c)) == true) (sv (sOf (MEX m.c))),pg (((Qah m.c) == (Qah m.c)) == true) (.bool (decide (sOf (MEX m.c)=sOf (MEX m.c)))),pv (.bool (((Qah m.c) == (Qah m.c))&&(decide (sOf (MEX m.c)=sOf (MEX m.c))))),pv (.bool (((Qah m.c) == (Qah m.c))&&(decide (sOf (MEX m.c)=sOf (MEX m.c))))),pg ((((Qah m.c) == (Qah m.c))&&(decide (sOf (MEX m.c)=sOf (MEX m.c)))) == true) (I6 (MER m.c)),pg ((((Qah m.c) == (Qah m.c))&&(decide (sOf (MEX m.c)=sOf (MEX m.c)))) == true) (I6 (MER m.c)),pg ((((Qah m.c) == (Qah m.c))&&(decide (sOf (MEX m.c)=sOf (MEX m.c)))) == true) (.bool (decide (MER m.c=MER m.c))),pv (.bool ((((Qah m.c) == (Qah m.c))&&(decide (sOf (MEX m.c)=sOf (MEX m.c))))&&(decide (MER m.c=MER m.c)))),pv (.bool ((((Qah m.c) == (Qah m.c))&&(decide (sOf (MEX m.c)=sOf (MEX m.c))))&&(decide (MER m.c=MER m.c)))),pg (((((Qah m.c) == (Qah m.c))&&(decide (sOf (MEX m.c)=sOf (MEX m.c))))&&(decide (MER m.c=MER m.c))) == true) (.agg (msv y12.1).toArray),pg (((((Qah m.c) == (Qah m.c))&&(decide (sOf (MEX m.c)=sOf (MEX m.c))))&&(decide (MER m.c=MER m.c))) == true) (.agg (msv y12.1).toArray),pg (((((Qah m.c) == (Qah m.c))&&(decide (sOf (MEX m.c)=sOf (MEX m.c))))&&(decide (MER m.c=MER m.c))) == true) (.agg (msv y18.1).toArray),pg (((((Qah m.c) == (Qah m.c))&&(decide (sOf (MEX m.c)=sOf (MEX m.c))))&&(decide (MER m.c=MER m.c))) == true) (.bool (decide (y12.1.c=y18.1.c))),pv (.bool (((((Qah m.c) == (Qah m.c))&&(decide (sOf (MEX m.c)=sOf (MEX m.c))))&&(decide (MER m.c=MER m.c)))&&(decide (y12.1.c=y18.1.c)))),pv (.bool (((((Qah m.c) == (Qah m.c))&&(decide (sOf (MEX m.c)=sOf (MEX m.c))))&&(decide (MER m.c=MER m.c)))&&(decide (y12.1.c=y18.1.c)))),pg ((((((Qah m.c) == (Qah m.c))&&(decide (sOf (MEX m.c)=sOf (MEX m.c))))&&(decide (MER m.c=MER m.c)))&&(decide (y12.1.c=y18.1.c))) == true) (I6 ((y12.2:Nat):Int)),pg ((((((Qah m.c) == (Qah m.c))&&(decide (sOf (MEX m.c)=sOf (MEX m.c))))&&(decide (MER m.c=MER m.c)))&&(decide (y12.1.c=y18.1.c))) == true) (I6 ((y18.2:Nat):Int)),pg ((((((Qah m.c) == (Qah m.c))&&(decide (sOf (MEX m.c)=sOf (MEX m.c))))&&(decide (MER m.c=MER m.c)))&&(decide (y12.1.c=y18.1.c))) == true) (.bool (decide (((y12.2:Nat):Int)=((y18.2:Nat):Int)))),pv (.bool ((((((Qah m.c) == (Qah m.c))&&(decide (sOf (MEX m.c)=sOf (MEX m.c))))&&(decide (MER m.c=MER m.c)))&&(decide (y12.1.c=y18.1.c)))&&(decide (((y12.2:Nat):Int)=((y18.2:Nat):Int))))),pv (.bool ((((((Qah m.c) == (Qah m.c))&&(decide (sOf (MEX m.c)=sOf (MEX m.c))))&&(decide (MER m.c=MER m.c)))&&(decide (y12.1.c=y18.1.c)))&&(decide (((y12.2:Nat):Int)=((y18.2:Nat):Int)))))] (fun _ _=>_) [29] (by kernel_rfl) Y ⟨?_,?_,?_,?_,?_,?_,?_,?_,?_,?_,?_,?_,?_,?_,?_,?_,?_,?_,?_,?_,?_,?_,?_,?_,?_,?_,?_,?_,?_,?_,trivial⟩ ?_))))))
 ·exact oi [] fun Y=>Qa1 (cs:=msv m) QbI Y 0 rfl rfl rfl (Zz Y)
 ·exact oi [0] fun Y=>QaH (vs:=[.agg (msv m).toArray]) (V:=.agg (msv m).toArray) QuO rfl rfl (Qht _ m) Y fun _ Y=>Zz Y
 ·exact oi [1] fun Y=>QaH (vs:=[.agg (msv m).toArray]) (V:=.bool (Qah m.c)) Qn0 rfl rfl (QdK _ m hx (RdX.own' hmo Y) (RdX.own' hmb Y)) Y fun _ Y=>Zz Y
 ·exact oi [] fun Y=>Qa1 (cs:=msv m) QbI Y 0 rfl rfl rfl (Zz Y)
 ·exact oi [3] fun Y=>QaH (vs:=[.agg (msv m).toArray]) (V:=.bool (Qah m.c)) Qnu rfl rfl (Qdh _ m hx (RdX.own' hmo Y) (RdX.own' hmb Y)) Y fun _ Y=>Zz Y
 ·exact oi [2,4] fun Y=>Qu1 Qu8 rfl rfl (Zz Y)
 ·exact oi [5] fun Y=>Qag (.bool ((Qah m.c) == (Qah m.c))) (Zz Y)
 ·exact ogi [6] fun hG Y=>Qag (.slice q8.1 ((MEX m.c).length) q8.2) (Zz Y)
 ·exact oyi [6,7] [7] fun hG Y=>QbS Qbh QdG QdF (Y.rd 1 rfl) rfl (Zz Y)
 ·exact ogi [6] fun hG Y=>Qag (.slice q10.1 ((MEX m.c).length) q10.2) (Zz Y)
 ·exact oyi [6,9] [9] fun hG Y=>QbS Qbh QdG QdF (Y.rd 2 rfl) rfl (Zz Y)
 ·exact oyi [6,8,10] [8,10] fun hG Y=>QvM rfl rfl (Zz Y)
 ·exact oi [6,11] fun Y=>Qa0 (h':=decide (sOf (MEX m.c)=sOf (MEX m.c))) rfl rfl rfl (Zz Y)
 ·exact oi [12] fun Y=>Qag (.bool (((Qah m.c) == (Qah m.c))&&(decide (sOf (MEX m.c)=sOf (MEX m.c))))) (Zz Y)
 ·exact ogi [13] fun hG Y=>Qag (.int .i64 (MER m.c)) (Zz Y)
 ·exact ogi [13] fun hG Y=>Qag (.int .i64 (MER m.c)) (Zz Y)
 ·exact oyi [13,14,15] [14,15] fun hG Y=>Qa5 rfl rfl (Zz Y)
 ·exact oi [13,16] fun Y=>Qa0 (h':=decide (MER m.c=MER m.c)) rfl rfl rfl (Zz Y)
 ·exact oi [17] fun Y=>Qag (.bool ((((Qah m.c) == (Qah m.c))&&(decide (sOf (MEX m.c)=sOf (MEX m.c))))&&(decide (MER m.c=MER m.c)))) (Zz Y)
 ·exact ogi [18] fun hG Y=>Qa1 (cs:=msv y12.1) QbW Y 5 rfl rfl rfl (Zz Y)
 ·exact oyi [18,19] [19] fun hG Y=>QaH (vs:=[.agg (msv y12.1).toArray]) (V:=.agg (msv y12.1).toArray) Qvo rfl rfl (Qqc _ y12.1) Y fun _ Y=>Zz Y
 ·exact ogi [18] fun hG Y=>Qa1 (cs:=msv y18.1) QbI Y 7 rfl rfl rfl (Zz Y)
 ·exact oyi [18,20,21] [20,21] fun hG Y=>QaH (vs:=[.agg (msv y12.1).toArray,.agg (msv y18.1).toArray]) (V:=.bool (decide (y12.1.c=y18.1.c))) Qvh rfl rfl (QnN _ y12.1 y18.1 (QcT.by_ hby hD14) (QcT.by_ hby hD20.1) (.inl (Y.rd 3 rfl)) (.inl (Y.rd 4 rfl)) (.inl (Y.rd 6 rfl)) (.inl (hD20.2 _ (Rd.own' hr Y)))) Y fun _ Y=>Zz Y
 ·exact oi [18,22] fun Y=>Qa0 (h':=decide (y12.1.c=y18.1.c)) rfl rfl rfl (Zz Y)
 ·exact oi [23] fun Y=>Qag (.bool (((((Qah m.c) == (Qah m.c))&&(decide (sOf (MEX m.c)=sOf (MEX m.c))))&&(decide (MER m.c=MER m.c)))&&(decide (y12.1.c=y18.1.c)))) (Zz Y)
 ·exact ogi [24] fun hG Y=>Qag (.int .i64 ((y12.2:Nat):Int)) (Zz Y)
 ·exact ogi [24] fun hG Y=>Qag (.int .i64 ((y18.2:Nat):Int)) (Zz Y)
 ·exact oyi [24,25,26] [25,26] fun hG Y=>Qa5 rfl rfl (Zz Y)
 ·exact oi [24,27] fun Y=>Qa0 (h':=decide (((y12.2:Nat):Int)=((y18.2:Nat):Int))) rfl rfl rfl (Zz Y)
 ·exact oi [28] fun Y=>Qak (.bool ((((((Qah m.c) == (Qah m.c))&&(decide (sOf (MEX m.c)=sOf (MEX m.c))))&&(decide (MER m.c=MER m.c)))&&(decide (y12.1.c=y18.1.c)))&&(decide (((y12.2:Nat):Int)=((y18.2:Nat):Int))))) (Zz Y)
 rintro J1 w29 J2 hJ Y
 replace hJ:J2=upd (mix (sq 44 29++[4]) J1 _) 4 (.bool ((((((Qah m.c) == (Qah m.c))&&(decide (sOf (MEX m.c)=sOf (MEX m.c))))&&(decide (MER m.c=MER m.c)))&&(decide (y12.1.c=y18.1.c)))&&(decide (((y12.2:Nat):Int)=((y18.2:Nat):Int))))):=hJ
 subst hJ
 refine Qat ?_
 refine ⟨_,Qau (V:=.bool ((((((Qah m.c) == (Qah m.c))&&(decide (sOf (MEX m.c)=sOf (MEX m.c))))&&(decide (MER m.c=MER m.c)))&&(decide (y12.1.c=y18.1.c)))&&(decide (((y12.2:Nat):Int)=((y18.2:Nat):Int))))) results5 rfl,(Zr Y ?_)⟩
 obtain ⟨hu1,hu2⟩:=hD14.uniq hD20.1
 refine congrArg Value.bool ?_
 rw [QQ3 hu1,hu2]
 simp only [beq_self_eq_true,decide_true,Bool.and_self]
end Tt
end Go.Proofs
namespace Go.Vx
open Go.RowKit Go.ChangeShapes Go.WideShapes Go.ChangeAt
def QiL (P:Program) (t:TypeId) {α:Type} (en:α->List Value) (ok:World->α->Prop):Prop :=
 ∀ (H:Type) (enc:TypeId × Value->H) (w:World) (base:Nat) (held:Bool) (fuel:Nat) (cs:List Value) (x:DataW H × List MemPlace),DataW.trod enc P w base (fun _=>true) held fuel t cs=some x->∃ a,ok w a/\cs=en a
structure Bts where
 a:Option Addr
 c:Nat
 l:List Int
theorem Qmd {P:Program} {t:TypeId} {α:Type} {en:α->List Value} {ok:World->α->Prop} (hO:QiL P t en ok) {H:Type} {enc:TypeId × Value->H} {w:World} {base:Nat} {held:Bool} {v:Value} {d:DataW H} {ps:List MemPlace}
  (hv:∃ cs:Array Value,v = .agg cs) (h:DataW.Trod enc P w base (fun _=>true) held t v d ps):∃ a,ok w a/\v = .agg (en a).toArray:=by
 obtain ⟨cs,rfl⟩:=hv
 obtain ⟨fuel,h⟩:=h
 obtain ⟨a,ha,he⟩:=hO _ _ _ _ _ _ _ _ h
 refine ⟨a,ha,?_⟩
 have:cs.toList=en a:=he
 rw [← this]
end Go.Vx
namespace Go.Vx
open Go.RowKit Go.ChangeShapes Go.WideShapes Go.ChangeAt
def slx {α:Type} (x:(Option Addr × Nat) × List α):List Value:=[.slice x.1.1 x.2.length x.1.2]
def Qnf {α:Type} (en:α->List Value) (ok:α->Prop) (k:Nat) (w:World) (x:(Option Addr × Nat) × List α):Prop:=RdX w (.slice x.1.1 x.2.length x.1.2) k (x.2.map en)/\∀ y∈x.2,ok y
theorem QuG {P:Program} {t e k:TypeId} {α:Type} {en:α->List Value} {ok:α->Prop} (ht:P.underlying t=some (.slice e)) (hO:Qfp P e en ok) (hk:∀ x,(en x).length=k) (hk0:0<k) (hc:P.cellsOf e=k):QiL P t (slx (α:=α)) (Qnf en ok k):=by
 intro H enc w base held fuel cs x h
 rcases Go.Deep.open_slice ht h with ⟨rfl,_⟩|⟨ad,len,cap,m,n,D,Pl,rfl,hb,hl,hm,hmm,hx,hall⟩
 ·exact ⟨((none,0),[]),⟨.inl (Rd.nil w k),by simp⟩,rfl⟩
 simp only [if_true] at hmm
 subst hmm
 by_cases h0:m=0
 ·subst h0
  have:len=0:=by omega
  subst this
  exact ⟨((some ad,0),[]),⟨.inr ⟨rfl,ad,rfl⟩,by simp⟩,rfl⟩
 have each:∀ i:Fin m,∃ x:α,ok x/\∀ j,j<k->w.cell? ((ad.add (i.val*k)).add j)=(en x)[j]?:=by
  intro i
  obtain ⟨cs',h1,h2⟩:=hall i.val i.isLt
  rw [hc] at h1
  obtain ⟨_,_,h3⟩:=World.cells?_some h1
  obtain ⟨x,hox,rfl⟩:=hO _ _ _ _ _ _ _ _ _ h2
  exact ⟨x,hox,h3⟩
 obtain ⟨f,hf⟩:=Classical.axiomOfChoice each
 obtain ⟨b,o,sp⟩:=ad
 have hsp:sp=none:=by
  have h1:=(hf ⟨0,by omega⟩).2 0 hk0
  rw [List.getElem?_eq_getElem (by rw [hk];exact hk0)] at h1
  have h5:=World.cell?_spot h1
  simpa [Addr.add] using h5
 subst hsp
 have hll:((List.ofFn f).take len).length=len:=by rw [List.length_take,List.length_ofFn];omega
 refine ⟨((some ⟨b,o,none⟩,m),(List.ofFn f).take len),⟨.inl ?_,fun y hy=>?_⟩,?_⟩
 ·refine ⟨Qb3 hk _,by rw [QQ6,hll];simp only [maxLen] at hm;omega,.inr ⟨b,o,m,by rw [QQ6]⟩,fun i j l u hi hj=>?_,by rw [QQ6,hll];exact hl⟩
  have hi':=Qav hi
  rw [QQ6,hll] at hi'
  have e1:l=en (f ⟨i,by omega⟩):=by
   rw [List.getElem?_map,List.getElem?_take,if_pos hi',List.getElem?_ofFn] at hi
   simp [show i<m by omega] at hi
   exact hi.symm
  subst e1
  have hjk:j<k:=by have:=Qav hj;rw [hk] at this;exact this
  have h4:=(hf ⟨i,by omega⟩).2 j hjk
  rw [QaR,QaR] at h4
  show w.cell? ⟨b,o+i*k+j,none⟩=some u
  rw [← hj];exact h4
 ·obtain ⟨i,rfl⟩:=List.mem_ofFn.1 (List.mem_of_mem_take hy);exact (hf i).1
 show _=[Value.slice _ _ _]
 simp only [hll]
theorem Qj5 {a:Int} (h:inK .i64 a):I64 a:=by
 unfold inK at h
 unfold I64
 simp [Lit.wf,IntKind.min,IntKind.max,IntKind.signed,IntKind.bits] at h
 omega
def QtF (w:World) (x:Msv):Prop:=MscOk x.c/\RdX w (.slice x.a x.c.ops.length x.n) 23 (x.c.ops.map oc)/\RdX w (.slice x.a2 x.c.b.length x.n2) 1 (x.c.b.map (ic .u8))
theorem QvJ {P:Program} {t to tb tv:TypeId} {f0 f1 f2 f3 f4 f5 f6:Field} (ht:P.underlying t=some (.struct #[f0,f1,f2,f3,f4,f5,f6]))
  (hoff:[f0.offset,f1.offset,f2.offset,f3.offset,f4.offset,f5.offset,f6.offset]=[0,1,2,18,19,20,21]) (hty:[f2.type,f3.type,f6.type]=[tv,to,tb]) (hV:Qfp P tv vc Qbw) (hQ:QiL P to (slx (α:=Opn)) (Qnf oc QbK 23)) (hB:QiL P tb (slx (α:=Int)) (Qnf (ic .u8) (inK .u8) 1))
  (u0:P.underlying f0.type=some (.int .i64)) (u1:P.underlying f1.type=some (.int .u8)) (u4:P.underlying f4.type=some (.int .i64)) (u5:P.underlying f5.type=some (.int .i64))
  (hc:[P.cellsOf f0.type,P.cellsOf f1.type,P.cellsOf f2.type,P.cellsOf f3.type,P.cellsOf f4.type,P.cellsOf f5.type,P.cellsOf f6.type]=[1,1,16,1,1,1,1]) (hct:P.cellsOf t=22):QiL P t msv QtF:=by
 intro H enc w base held fuel cs x h
 obtain ⟨xs,m,_,_,hl,hxl,hx⟩:=DataW.trod_struct ht h
 rw [hct] at hl
 have g0:=hx 0 f0 rfl
 have g1:=hx 1 f1 rfl
 have g2:=hx 2 f2 rfl
 have g3:=hx 3 f3 rfl
 have g4:=hx 4 f4 rfl
 have g5:=hx 5 f5 rfl
 have g6:=hx 6 f6 rfl
 have hx2:xs.length=7:=by simpa using hxl
 simp only [List.cons.injEq,and_true] at hoff hty hc
 obtain ⟨o0,o1,o2,o3,o4,o5,o6⟩:=hoff
 obtain ⟨t2,t3,t6⟩:=hty
 obtain ⟨c0,c1,c2,c3,c4,c5,c6⟩:=hc
 rw [List.getElem?_eq_getElem (by omega)] at g0 g1 g2 g3 g4 g5 g6
 rw [o0,c0] at g0
 rw [o1,c1] at g1
 rw [o2,c2,t2] at g2
 rw [o3,c3,t3] at g3
 rw [o4,c4] at g4
 rw [o5,c5] at g5
 rw [o6,c6,t6] at g6
 obtain ⟨a0,h0,e0⟩:=QeC u0 _ _ _ _ _ _ _ _ _ g0
 obtain ⟨a1,h1,e1⟩:=QeC u1 _ _ _ _ _ _ _ _ _ g1
 obtain ⟨kn,hkn,e2⟩:=hV _ _ _ _ _ _ _ _ _ g2
 obtain ⟨q,⟨hq,hq'⟩,e3⟩:=hQ _ _ _ _ _ _ _ _ g3
 obtain ⟨a4,h4,e4⟩:=QeC u4 _ _ _ _ _ _ _ _ _ g4
 obtain ⟨a5,h5,e5⟩:=QeC u5 _ _ _ _ _ _ _ _ _ g5
 obtain ⟨b,⟨hb,hb'⟩,e6⟩:=hB _ _ _ _ _ _ _ _ g6
 refine ⟨⟨⟨a0,a1,kn,q.2,a4,a5,b.2⟩,q.1.1,q.1.2,b.1.1,b.1.2⟩,⟨⟨Qj5 h0,QiY h1,hkn,hq',Qj5 h4,Qj5 h5,fun c hc=>QiY (hb' c hc)⟩,hq,hb⟩,?_⟩
 match cs,hl with
 | x0 :: x1 :: R,hR =>
  have hR':R.length=20:=by simpa using hR
  simp only [List.drop_succ_cons,List.drop_zero,List.take_succ_cons,List.take_zero] at e0 e1 e2 e3 e4 e5 e6
  have k0:x0 = .int .i64 a0:=by simpa [ic] using e0
  have k1:x1 = .int .u8 a1:=by simpa [ic] using e1
  have d16:R.drop 16=[R[16]'(by omega),R[17]'(by omega),R[18]'(by omega),R[19]'(by omega)]:=by
   rw [List.drop_eq_getElem_cons (by omega),List.drop_eq_getElem_cons (by omega),List.drop_eq_getElem_cons (by omega),List.drop_eq_getElem_cons (by omega),List.drop_of_length_le (by omega)]
  have s3:(R.drop 16).take 1=slx q:=e3
  have s4:((R.drop 16).drop 1).take 1=ic .i64 a4:=by rw [List.drop_drop];exact e4
  have s5:((R.drop 16).drop 2).take 1=ic .i64 a5:=by rw [List.drop_drop];exact e5
  have s6:((R.drop 16).drop 3).take 1=slx b:=by rw [List.drop_drop];exact e6
  rw [d16] at s3 s4 s5 s6
  simp only [List.drop_succ_cons,List.drop_zero,List.take_succ_cons,List.take_zero,slx,ic,List.cons.injEq,and_true] at s3 s4 s5 s6
  rw [s3,s4,s5,s6] at d16
  have:=List.take_append_drop 16 R
  rw [e2,d16] at this
  rw [k0,k1,← this]
  rfl
end Go.Vx
