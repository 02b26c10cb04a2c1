/- A part of a proof: what functions of the program compute, and plain facts on that. -/
import Derived.Test.YtbjbjboehjdcaaaGreatCutsBetweenP6
import Derived.KernelRfl
import Derived.Test.YtbjbjboehjdcaaaGreatProg
import Derived.Shelf.SlSortCmp.WholeK
import Derived.Shelf.SlLaysF0
import Derived.Ground.SlsfProg
import Derived.Shelf.SlSortCmp.NoneTotal
set_option linter.unusedVariables false
set_option linter.unusedSimpArgs false
set_option maxHeartbeats 4000000
set_option maxRecDepth 100000
namespace Go.Proofs
open Go Go.Vx Go.RowKit
namespace Tt
theorem Qm4 (w:World) (s:Sta) (a1:Option Addr) (c1:Nat) (a2:Option Addr) (c2:Nat) (o:Opn) (hO:Qcc o) (hok:Qdx s) (hle:s.ents.length<=1000) (hlt:s.ticks.length<=1000) (hr1:Rd w (.slice a1 s.ents.length c1) 7 (s.ents.map cec)) (hr2:Rd w (.slice a2 s.ticks.length c2) 2 (s.ticks.map lsc)):Calls Tryz.prog 72 #[.agg ((vc s.known)++[(.slice a1 s.ents.length c1:Value),(.slice a2 s.ticks.length c2:Value) ]).toArray,.agg (oc o).toArray] w (fun e w'=>∃ x:(Option Addr × Nat) × (Option Addr × Nat),e = .returned (.tuple #[.agg (vc (QaS s o).known++[(.slice x.1.1 (QaS s o).ents.length x.1.2:Value),(.slice x.2.1 (QaS s o).ticks.length x.2.2:Value)]).toArray,.int .i64 (QcS s o)])/\Own w no w' [row (.slice x.1.1 (QaS s o).ents.length x.1.2) ((QaS s o).ents.map cec) 106 7,row (.slice x.2.1 (QaS s o).ticks.length x.2.2) ((QaS s o).ticks.map lsc) 102 2]/\True):=by
 refine Qai (n:=85) Tryz.func72 rfl Tryz.ntmps72 rfl ?_
 have hs:=Own.start w
 have ⟨hdo,_,_,_,_,_,hctx⟩:=hO
 have ⟨hv0,hE0,hT0⟩:=hok
 refine Qag (Qab (Qaa (Qa4 (V:=.agg ((vc s.known)++[(.slice a1 s.ents.length c1:Value),(.slice a2 s.ticks.length c2:Value) ]).toArray) (cs:=(vc s.known)++[(.slice a1 s.ents.length c1:Value),(.slice a2 s.ticks.length c2:Value) ]) rfl rfl hs fun b1 w2 hs=>(Qaa (Qa4 (V:=.agg (oc o).toArray) (cs:=oc o) rfl rfl hs fun b3 w4 hs=>(Qaa (QaK (cs:=(vc vzero)++[(.slice none 0 0:Value),(.slice none 0 0:Value) ]) QfB rfl hs fun b5 w6 hs=>(Qaa (Qad (V:=I6 0) rfl (Qae (Qag (Qag (Qab (Qaa (QaL (cs:=(vc s.known)++[(.slice a1 s.ents.length c1:Value),(.slice a2 s.ticks.length c2:Value) ]) QbU hs 0 rfl rfl rfl (Qaa (Qat (vs:=[.agg ((vc s.known)++[(.slice a1 s.ents.length c1:Value),(.slice a2 s.ticks.length c2:Value) ]).toArray]) (V:=.bool (Qav s)) Qog rfl rfl ?hc hs fun w7 hs=>?_)))))))))))))))))
 case hc=>exact (Qe8 _ s a1 c1 a2 c2 hok (by omega) (by omega) (Rd.own' hr1 hs) (Rd.own' hr2 hs))
 refine Qaa (Qbz rfl (Qae (Qam (t:=!(Qav s)) rfl (fun c8=>?_) (fun c8=>?_))))
 ·
  replace c8:=Qby c8
  refine Qag (Qab (Qaa (QcC (vs:=[]) (cs:=(vc vzero)++[(.slice none 0 0:Value),(.slice none 0 0:Value) ]) [vc vzero,[(.slice none 0 0:Value)],[(.slice none 0 0:Value)]] [vc vzero,[(.slice none 0 0:Value)],[(.slice none 0 0:Value)]] Qmz rfl (rfl) rfl rfl (Qaa (Qcx (V:=.agg ((vc vzero)++[(.slice none 0 0:Value),(.slice none 0 0:Value) ]).toArray) (vs:=(vc vzero)++[(.slice none 0 0:Value),(.slice none 0 0:Value) ]) (cs':=(vc vzero)++[(.slice none 0 0:Value),(.slice none 0 0:Value) ]) QbU.1 hs 2 rfl rfl rfl rfl rfl (QQ8 rfl) (Qbl (QbO _) (Qau rfl (Qau rfl Qa1))) (Qaz rfl) fun w9 hs=>?_)))))
  replace hs:Own w no w9 [blk b1 ((vc s.known)++[(.slice a1 s.ents.length c1:Value),(.slice a2 s.ticks.length c2:Value) ]) 38,blk b3 (oc o) 98,blk b5 ((vc vzero)++[(.slice none 0 0:Value),(.slice none 0 0:Value) ]) 38]:=hs
  refine Qaa (Qad (V:=I6 2) rfl (Qae (Qaw ?_)))
  refine ⟨_,Qcm (cs:=(vc vzero)++[(.slice none 0 0:Value),(.slice none 0 0:Value) ]) (V:=I6 2) Tryz.results72 QbU hs 2 rfl rfl rfl rfl,?_⟩
  have hI:QcS s o=2:=by unfold QcS;rw [if_neg (by rw [c8];decide)]
  have hR:QaS s o=szero:=by unfold QaS;rw [if_neg (by rw [hI];decide)]
  rw [hI,hR]
  exact ⟨((none,0),(none,0)),rfl,((hs.take 0).more _ (Qbd _ _ 106 7)).more _ (Qbd _ _ 102 2),trivial⟩
 replace c8:=Qbu c8
 refine Qao (Qag (Qag (Qab (Qaa (Qaf QeD rfl (Qaa (QbY (vs:=vc s.known) Qbk hs 0 rfl rfl rfl rfl (Qaa (QaL (cs:=oc o) QbB hs 1 rfl rfl rfl (Qaa (Qat (vs:=[.agg (vc s.known).toArray,.agg (oc o).toArray]) (V:=I6 (QbF s.known o)) QuE rfl rfl ?hc hs fun w10 hs=>?_)))))))))))
 case hc=>exact (Qnc _ s.known o (by assumption))
 refine Qaa (Qad (V:=I6 (QbF s.known o)) rfl (Qae (Qag (Qab (Qaa (Qac (V:=I6 (QbF s.known o)) rfl (Qaa (Qcv rfl rfl (Qae (Qam (t:=!decide (QbF s.known o=0)) rfl (fun c11=>?_) (fun c11=>?_)))))))))))
 ·
  replace c11:=Qby c11
  replace c11:=QQ2 c11
  refine Qag (Qab (Qaa (QcC (vs:=[]) (cs:=(vc vzero)++[(.slice none 0 0:Value),(.slice none 0 0:Value) ]) [vc vzero,[(.slice none 0 0:Value)],[(.slice none 0 0:Value)]] [vc vzero,[(.slice none 0 0:Value)],[(.slice none 0 0:Value)]] Qmz rfl (rfl) rfl rfl (Qaa (Qac (V:=I6 (QbF s.known o)) rfl (Qaa (Qcx (V:=.agg ((vc vzero)++[(.slice none 0 0:Value),(.slice none 0 0:Value) ]).toArray) (vs:=(vc vzero)++[(.slice none 0 0:Value),(.slice none 0 0:Value) ]) (cs':=(vc vzero)++[(.slice none 0 0:Value),(.slice none 0 0:Value) ]) QbU.1 hs 2 rfl rfl rfl rfl rfl (QQ8 rfl) (Qbl (QbO _) (Qau rfl (Qau rfl Qa1))) (Qaz rfl) fun w12 hs=>?_)))))))
  replace hs:Own w no w12 [blk b1 ((vc s.known)++[(.slice a1 s.ents.length c1:Value),(.slice a2 s.ticks.length c2:Value) ]) 38,blk b3 (oc o) 98,blk b5 ((vc vzero)++[(.slice none 0 0:Value),(.slice none 0 0:Value) ]) 38]:=hs
  refine Qaa (Qad (V:=I6 (QbF s.known o)) rfl (Qae (Qaw ?_)))
  refine ⟨_,Qcm (cs:=(vc vzero)++[(.slice none 0 0:Value),(.slice none 0 0:Value) ]) (V:=I6 (QbF s.known o)) Tryz.results72 QbU hs 2 rfl rfl rfl rfl,?_⟩
  have hI:QcS s o=QbF s.known o:=by unfold QcS;rw [if_pos c8]
  have hR:QaS s o=szero:=by unfold QaS;rw [if_neg (by rw [hI];exact c11)]
  rw [hI,hR]
  exact ⟨((none,0),(none,0)),rfl,((hs.take 0).more _ (Qbd _ _ 106 7)).more _ (Qbd _ _ 102 2),trivial⟩
 replace c11:=Qbu c11
 replace c11:=QQ1 c11
 refine Qao (Qag (Qab (Qaa (QaL (cs:=(vc s.known)++[(.slice a1 s.ents.length c1:Value),(.slice a2 s.ticks.length c2:Value) ]) QbU hs 0 rfl rfl rfl (Qaa (Qbm (α:=(Option Addr × Nat) × (Option Addr × Nat)) (vs:=[.agg ((vc s.known)++[(.slice a1 s.ents.length c1:Value),(.slice a2 s.ticks.length c2:Value) ]).toArray]) QtJ rfl rfl (QrW _ s a1 c1 a2 c2 hok (by omega) (by omega) (Rd.own' hr1 hs) (Rd.own' hr2 hs)) hs fun x13 w14 hs _=>?_))))))
 replace hs:Own w no w14 [blk b1 ((vc s.known)++[(.slice a1 s.ents.length c1:Value),(.slice a2 s.ticks.length c2:Value) ]) 38,blk b3 (oc o) 98,blk b5 ((vc vzero)++[(.slice none 0 0:Value),(.slice none 0 0:Value) ]) 38,row (.slice x13.1.1 s.ents.length x13.1.2) (s.ents.map cec) 106 7,row (.slice x13.2.1 s.ticks.length x13.2.2) (s.ticks.map lsc) 102 2]:=hs
 refine Qaa (QaK (cs:=(vc vzero)++[(.slice none 0 0:Value),(.slice none 0 0:Value) ]) QfB rfl hs fun b15 w16 hs=>(Qaa (Qcx (V:=.agg ((vc s.known)++[(.slice x13.1.1 s.ents.length x13.1.2:Value),(.slice x13.2.1 s.ticks.length x13.2.2:Value) ]).toArray) (vs:=(vc s.known)++[(.slice x13.1.1 s.ents.length x13.1.2:Value),(.slice x13.2.1 s.ticks.length x13.2.2:Value) ]) (cs':=(vc s.known)++[(.slice x13.1.1 s.ents.length x13.1.2:Value),(.slice x13.2.1 s.ticks.length x13.2.2:Value) ]) QbU.1 hs 5 rfl rfl rfl rfl rfl (QQ8 rfl) (Qbl (QbO _) (Qau rfl (Qau rfl Qa1))) (Qaz rfl) fun w17 hs=>(Qae (Qag ?_)))))
 have hrc:=QcH.1 c8
 have hrd:=QgU hO c11
 have ⟨hd0,hd1,hd2,hd3⟩:=hrd.1
 have hfd:=Ql7 hrc hrd.2
 refine Qab (Qaa (Qaf Qbp rfl (Qaa (Qaf QbZ rfl (Qaa (QaQ (V:=.int .u8 o.dot.rep) Qdw hs 1 rfl rfl rfl (Qaa (Qaf Qbp rfl (Qaa (Qaf Qb0 rfl (Qaa (QaQ (V:=.int .u32 o.dot.seq) QaX hs 1 rfl rfl rfl (Qaa (Qaf QeD rfl (Qaa (QbX QdT QaX.1 rfl rfl (by omega) (by omega) (Qaa (Qc0 (V:=.int .u32 o.dot.seq) (cs':=(vc (vset s.known o.dot.rep.toNat o.dot.seq))++[(.slice x13.1.1 s.ents.length x13.1.2:Value),(.slice x13.2.1 s.ticks.length x13.2.2:Value) ]) QaX hs 5 rfl rfl rfl rfl (QuI (by omega)) (Qq5 (by omega) (by omega)) fun w18 hs=>(Qae (Qag (Qab (Qaa (Qaf Qdb rfl (Qaa (QaQ (V:=.slice x13.1.1 s.ents.length x13.1.2) Qgf hs 5 rfl rfl rfl (Qaa (Qc3 (cs:=[Pq b3 0]) rfl rfl (Qaa (Qq2 (α:=Unit) (vs:=[.slice x13.1.1 s.ents.length x13.1.2,.func (.func 117) #[] #[Pq b3 0]]) (V:=fun _=>.slice x13.1.1 (s.ents.filter fun x=>!(fun x=>QaE o (QaG x)) x).length x13.1.2) (R:=row (.slice x13.1.1 s.ents.length x13.1.2) (s.ents.map cec) 106 7) (R':=fun _=>row (.slice x13.1.1 (s.ents.filter fun x=>!(fun x=>QaE o (QaG x)) x).length x13.1.2) ((s.ents.filter fun x=>!(fun x=>QaE o (QaG x)) x).map cec) 106 7) (Lo:=fun _=>[]) (F:=fun _ _=>True) QsV rfl rfl hs 3 1 (by decide) rfl rfl (fun S hS hlS hSb hc=>Qiy _ S x13.1.1 x13.1.2 s.ents 117 [Pq b3 0] QsK (fun x=>QaE o (QaG x)) (fun w1 L1 h x hx=>Ql4 w1 x o b3 (hE0 x hx).2.2.2.2.1 (hc.own h hSb)) hS hlS) fun _ w19 hs _=>?_)))))))))))))))))))))))))))))
 replace hs:Own w no w19 [blk b1 ((vc s.known)++[(.slice a1 s.ents.length c1:Value),(.slice a2 s.ticks.length c2:Value) ]) 38,blk b3 (oc o) 98,blk b5 ((vc vzero)++[(.slice none 0 0:Value),(.slice none 0 0:Value) ]) 38,row (.slice x13.1.1 ((s.ents.filter fun x=>!(fun x=>QaE o (QaG x)) x).length) x13.1.2) ((s.ents.filter fun x=>!(fun x=>QaE o (QaG x)) x).map cec) 106 7,row (.slice x13.2.1 s.ticks.length x13.2.2) (s.ticks.map lsc) 102 2,blk b15 ((vc (vset s.known o.dot.rep.toNat o.dot.seq))++[(.slice x13.1.1 s.ents.length x13.1.2:Value),(.slice x13.2.1 s.ticks.length x13.2.2:Value) ]) 38]:=hs
 refine Qaa (Qaf Qdb rfl (Qaa (Qc0 (V:=.slice x13.1.1 ((s.ents.filter fun x=>!(fun x=>QaE o (QaG x)) x).length) x13.1.2) (cs':=(vc (vset s.known o.dot.rep.toNat o.dot.seq))++[(.slice x13.1.1 ((s.ents.filter fun x=>!(fun x=>QaE o (QaG x)) x).length) x13.1.2:Value),(.slice x13.2.1 s.ticks.length x13.2.2:Value) ]) Qgf hs 5 rfl rfl rfl rfl (QQ8 rfl) rfl fun w20 hs=>(Qae (Qag (Qag (Qbw [some 38,some 39,some 40,some 41,some 42,some 43,some 44,some 45,some 46,some 47,some 48,some 49,some 50] [] [0,1,3,7,15,31,63,127,255,511,1023,2047,4095] [pv (Pq b3 (0+2)),pv (.int .u8 o.kind),pv (.bool (decide (o.kind=1))),pv (.bool (decide (o.kind=1))),pg ((decide (o.kind=1)) == false) (Pq b3 (0+2)),pg ((decide (o.kind=1)) == false) (.int .u8 o.kind),pg ((decide (o.kind=1)) == false) (.bool (decide (o.kind=2))),pv (.bool ((decide (o.kind=1))||(decide (o.kind=2)))),pv (.bool ((decide (o.kind=1))||(decide (o.kind=2)))),pg (((decide (o.kind=1))||(decide (o.kind=2))) == false) (Pq b3 (0+2)),pg (((decide (o.kind=1))||(decide (o.kind=2))) == false) (.int .u8 o.kind),pg (((decide (o.kind=1))||(decide (o.kind=2))) == false) (.bool (decide (o.kind=4))),pv (.bool (QbA o))] (fun _ _=>_) [12] (by kernel_rfl) hs ⟨?_,?_,?_,?_,?_,?_,?_,?_,?_,?_,?_,?_,?_,trivial⟩ ?_)))))))
 ·exact oa [] fun D J w hs=>Qaf Qcg rfl (Zz hs)
 ·exact oa [0] fun D J w hs=>QaQ (V:=.int .u8 o.kind) Qdw hs 1 rfl rfl rfl (Zz hs)
 ·exact oa [1] fun D J w hs=>QaZ rfl rfl (Zz hs)
 ·exact oa [2] fun D J w hs=>Qac (V:=.bool (decide (o.kind=1))) rfl (Zz hs)
 ·exact og [3] fun D J w hG hs=>Qaf Qcg rfl (Zz hs)
 ·exact oy [3,4] [4] fun D J w hG hs=>QaQ (V:=.int .u8 o.kind) Qdw hs 1 rfl rfl rfl (Zz hs)
 ·exact oy [3,5] [5] fun D J w hG hs=>QaZ rfl rfl (Zz hs)
 ·exact oa [3,6] fun D J w hs=>Qcs (h':=decide (o.kind=2)) rfl rfl rfl (Zz hs)
 ·exact oa [7] fun D J w hs=>Qac (V:=.bool ((decide (o.kind=1))||(decide (o.kind=2)))) rfl (Zz hs)
 ·exact og [8] fun D J w hG hs=>Qaf Qcg rfl (Zz hs)
 ·exact oy [8,9] [9] fun D J w hG hs=>QaQ (V:=.int .u8 o.kind) Qdw hs 1 rfl rfl rfl (Zz hs)
 ·exact oy [8,10] [10] fun D J w hG hs=>QaZ rfl rfl (Zz hs)
 ·exact oa [8,11] fun D J w hs=>QaU (V:=.bool (((decide (o.kind=1))||(decide (o.kind=2)))||(decide (o.kind=4)))) (V':=.bool (QbA o)) (Qcs (h':=decide (o.kind=4)) rfl rfl rfl ⟨rfl,rfl⟩) (congrArg Value.bool (Qnt o)) (Zz hs)
 rintro J1 w21 J2 hJ hs
 replace hJ:J2=upd (mix (sq 38 13) J1 _) 50 (.bool (QbA o)):=hJ
 subst hJ
 refine QfE (fun J J' w'=>∃ (Jo:Env) (a9:Option Addr) (c9:Nat) (L9:List Cen),J'=mix ([8,9,10]++sq 51 27) Jo J/\(L9=(Qd8 s o).ents)/\Own w no w' [blk b1 ((vc s.known)++[(.slice a1 s.ents.length c1:Value),(.slice a2 s.ticks.length c2:Value) ]) 38,blk b3 (oc o) 98,blk b5 ((vc vzero)++[(.slice none 0 0:Value),(.slice none 0 0:Value) ]) 38,row (.slice a9 L9.length c9) (L9.map cec) 106 7,row (.slice x13.2.1 s.ticks.length x13.2.2) (s.ticks.map lsc) 102 2,blk b15 ((vc (vset s.known o.dot.rep.toNat o.dot.seq))++[(.slice a9 L9.length c9:Value),(.slice x13.2.1 s.ticks.length x13.2.2:Value) ]) 38]) ?_ ?_
 ·
  refine Qam (t:=QbA o) rfl (fun c22=>?_) (fun c22=>?_)
  ·
   refine Qag ?_
   replace hs:=hs.more emp trivial
   refine QaH HM [some 51,some 52,some 53,some 54,some 55,some 56,some 57,some 58,some 59,some 60,some 61,some 62,some 63,some 8,none] [[],[],[],[],[],[],[],[],[],[],[],[],[],[8]] [0,1,0,4,0,16,0,64,0,256,0,1024,4095,0,16383] [pv (Pq b3 (0+3)),pv (I7 o.cart),pv (Pq b3 (0+4)),pv (I7 o.item),pv (Pq b3 (0+5)),pv (I7 o.qty),pv (Pq b3 (0+2)),pv (.int .u8 o.kind),pv (Pq b3 (0+0)),pv (.agg (dc o.dot).toArray),pv (.agg (oc o).toArray),pv (.int .u64 (QbH o)),pv (.agg (cec (⟨o.cart,o.item,o.qty,o.kind,o.dot,QbH o⟩:Cen)).toArray),(true,fun J=>.pointer (some ⟨(bOf (J 8)),0,none⟩)),pn] (fun D J=>[blk b1 ((vc s.known)++[(.slice a1 s.ents.length c1:Value),(.slice a2 s.ticks.length c2:Value) ]) 38,blk b3 (oc o) 98,blk b5 ((vc vzero)++[(.slice none 0 0:Value),(.slice none 0 0:Value) ]) 38,row (.slice x13.1.1 ((s.ents.filter fun x=>!(fun x=>QaE o (QaG x)) x).length) x13.1.2) ((s.ents.filter fun x=>!(fun x=>QaE o (QaG x)) x).map cec) 106 7,row (.slice x13.2.1 s.ticks.length x13.2.2) (s.ticks.map lsc) 102 2,blk b15 ((vc (vset s.known o.dot.rep.toNat o.dot.seq))++[(.slice x13.1.1 ((s.ents.filter fun x=>!(fun x=>QaE o (QaG x)) x).length) x13.1.2:Value),(.slice x13.2.1 s.ticks.length x13.2.2:Value) ]) 38,cond (D 14) (blk (bOf (J 8)) (cec (⟨o.cart,o.item,o.qty,o.kind,o.dot,QbH o⟩:Cen)) 106) (cond (D 13) (blk (bOf (J 8)) (cec (⟨0,0,0,0,(⟨0,0⟩:Dot),0⟩:Cen)) 106) (emp))]) [13] (by kernel_rfl) hs ⟨?_,?_,?_,?_,?_,?_,?_,?_,?_,?_,?_,?_,?_,?_,?_,trivial⟩ ?_
   ·exact oa [] fun D J w hs=>Qaf QeC rfl (Zz hs)
   ·exact oa [0] fun D J w hs=>QaQ (V:=.int .u16 o.cart) Qar hs 1 rfl rfl rfl (Zz hs)
   ·exact oa [] fun D J w hs=>Qaf Qdr rfl (Zz hs)
   ·exact oa [2] fun D J w hs=>QaQ (V:=.int .u16 o.item) Qar hs 1 rfl rfl rfl (Zz hs)
   ·exact oa [] fun D J w hs=>Qaf Qdp rfl (Zz hs)
   ·exact oa [4] fun D J w hs=>QaQ (V:=.int .u16 o.qty) Qar hs 1 rfl rfl rfl (Zz hs)
   ·exact oa [] fun D J w hs=>Qaf Qcg rfl (Zz hs)
   ·exact oa [6] fun D J w hs=>QaQ (V:=.int .u8 o.kind) Qdw hs 1 rfl rfl rfl (Zz hs)
   ·exact oa [] fun D J w hs=>Qaf Qbp rfl (Zz hs)
   ·exact oa [8] fun D J w hs=>QbY (vs:=dc o.dot) QcL hs 1 rfl rfl rfl rfl (Zz hs)
   ·exact oa [] fun D J w hs=>QaL (cs:=oc o) QbB hs 1 rfl rfl rfl (Zz hs)
   ·exact oa [10] fun D J w hs=>Qat (vs:=[.agg (oc o).toArray]) (V:=.int .u64 (QbH o)) Qs5 rfl rfl (Qih _ o (by assumption)) hs fun _ hs=>Zz hs
   ·exact oa [1,3,5,7,9,11] fun D J w hs=>QbD (vs:=[(0,.int .u16 o.cart),(1,.int .u16 o.item),(2,.int .u16 o.qty),(3,.int .u8 o.kind),(4,.agg (dc o.dot).toArray),(5,.int .u64 (QbH o))]) (cs:=cec (⟨o.cart,o.item,o.qty,o.kind,o.dot,QbH o⟩:Cen)) QqD (rfl) rfl (Zz hs)
   ·exact ob [] [14] rfl rfl fun D J w hs=>QaK (cs:=cec (⟨0,0,0,0,(⟨0,0⟩:Dot),0⟩:Cen)) Qfz rfl hs fun _ _ hs=>⟨rfl,hs.put 6 (QQ8 rfl)⟩
   ·exact oa [12,13] fun D J w hs=>Qcx (V:=.agg (cec (⟨o.cart,o.item,o.qty,o.kind,o.dot,QbH o⟩:Cen)).toArray) (vs:=cec (⟨o.cart,o.item,o.qty,o.kind,o.dot,QbH o⟩:Cen)) (cs':=cec (⟨o.cart,o.item,o.qty,o.kind,o.dot,QbH o⟩:Cen)) QaB.1 hs 6 rfl rfl rfl rfl rfl (QQ8 rfl) (Qbj _) (Qaz rfl) fun _ hs=>⟨trivial,hs⟩
   rintro J1 w26 J2 hJ hs
   replace hJ:J2=upd (mix (sq 51 13++[8]) J1 _) 8 (.pointer (some ⟨(bOf (J1 8)),0,none⟩)):=hJ
   replace hs:Own w no w26 [blk b1 ((vc s.known)++[(.slice a1 s.ents.length c1:Value),(.slice a2 s.ticks.length c2:Value) ]) 38,blk b3 (oc o) 98,blk b5 ((vc vzero)++[(.slice none 0 0:Value),(.slice none 0 0:Value) ]) 38,row (.slice x13.1.1 ((s.ents.filter fun x=>!(fun x=>QaE o (QaG x)) x).length) x13.1.2) ((s.ents.filter fun x=>!(fun x=>QaE o (QaG x)) x).map cec) 106 7,row (.slice x13.2.1 s.ticks.length x13.2.2) (s.ticks.map lsc) 102 2,blk b15 ((vc (vset s.known o.dot.rep.toNat o.dot.seq))++[(.slice x13.1.1 ((s.ents.filter fun x=>!(fun x=>QaE o (QaG x)) x).length) x13.1.2:Value),(.slice x13.2.1 s.ticks.length x13.2.2:Value) ]) 38,blk (bOf (J1 8)) (cec (⟨o.cart,o.item,o.qty,o.kind,o.dot,QbH o⟩:Cen)) 106]:=hs
   generalize (bOf (J1 8))=b27 at hJ hs
   subst hJ
   refine Qag ?_
   have hfl:=List.length_filter_le (fun x=>!(fun x=>QaE o (QaG x)) x) s.ents
   refine Qab (Qaa (Qaf Qdb rfl (Qaa (QaQ (V:=.slice x13.1.1 ((s.ents.filter fun x=>!(fun x=>QaE o (QaG x)) x).length) x13.1.2) Qgf hs 5 rfl rfl rfl (Qaa (QaL (cs:=cec (⟨o.cart,o.item,o.qty,o.kind,o.dot,QbH o⟩:Cen)) QaB hs 6 rfl rfl rfl (Qaa (Qki (vs:=[.slice x13.1.1 ((s.ents.filter fun x=>!(fun x=>QaE o (QaG x)) x).length) x13.1.2,.agg (cec (⟨o.cart,o.item,o.qty,o.kind,o.dot,QbH o⟩:Cen)).toArray,.func (.func 120) #[] #[]]) (V:=.tuple #[I6 ((Qcj (fun x=>decide ((fun x:Cen=>QbS x (⟨o.cart,o.item,o.qty,o.kind,o.dot,QbH o⟩:Cen)) x<0)) (s.ents.filter fun x=>!(fun x=>QaE o (QaG x)) x):Nat):Int),.bool (decide (Qcj (fun x=>decide ((fun x:Cen=>QbS x (⟨o.cart,o.item,o.qty,o.kind,o.dot,QbH o⟩:Cen)) x<0)) (s.ents.filter fun x=>!(fun x=>QaE o (QaG x)) x)<(s.ents.filter fun x=>!(fun x=>QaE o (QaG x)) x).length)&&decide ((fun x:Cen=>QbS x (⟨o.cart,o.item,o.qty,o.kind,o.dot,QbH o⟩:Cen)) (gd (s.ents.filter fun x=>!(fun x=>QaE o (QaG x)) x) (Qcj (fun x=>decide ((fun x:Cen=>QbS x (⟨o.cart,o.item,o.qty,o.kind,o.dot,QbH o⟩:Cen)) x<0)) (s.ents.filter fun x=>!(fun x=>QaE o (QaG x)) x)))=0))]) (V':=.tuple #[I6 ((Qcj (QeU (⟨o.cart,o.item,o.qty,o.kind,o.dot,QbH o⟩:Cen)) (s.ents.filter fun x=>!(fun x=>QaE o (QaG x)) x):Nat):Int),.bool (decide (Qcj (QeU (⟨o.cart,o.item,o.qty,o.kind,o.dot,QbH o⟩:Cen)) (s.ents.filter fun x=>!(fun x=>QaE o (QaG x)) x)<(s.ents.filter fun x=>!(fun x=>QaE o (QaG x)) x).length)&&decide (QbS (gd (s.ents.filter fun x=>!(fun x=>QaE o (QaG x)) x) (Qcj (QeU (⟨o.cart,o.item,o.qty,o.kind,o.dot,QbH o⟩:Cen)) (s.ents.filter fun x=>!(fun x=>QaE o (QaG x)) x))) (⟨o.cart,o.item,o.qty,o.kind,o.dot,QbH o⟩:Cen)=0))]) rfl Qug rfl rfl (Qmv _ x13.1.1 x13.1.2 (s.ents.filter fun x=>!(fun x=>QaE o (QaG x)) x) (⟨o.cart,o.item,o.qty,o.kind,o.dot,QbH o⟩:Cen) (by omega) 120 Qqa (fun x:Cen=>QbS x (⟨o.cart,o.item,o.qty,o.kind,o.dot,QbH o⟩:Cen)) (fun w x=>QkL w x (⟨o.cart,o.item,o.qty,o.kind,o.dot,QbH o⟩:Cen)) (QnJ (List.Pairwise.sublist List.filter_sublist hrc.re) (⟨o.cart,o.item,o.qty,o.kind,o.dot,QbH o⟩:Cen)) (hs.rd 3 rfl)) hs fun w28 hs=>(Qaa (Qac (V:=.tuple #[I6 ((Qcj (QeU (⟨o.cart,o.item,o.qty,o.kind,o.dot,QbH o⟩:Cen)) (s.ents.filter fun x=>!(fun x=>QaE o (QaG x)) x):Nat):Int),.bool (decide (Qcj (QeU (⟨o.cart,o.item,o.qty,o.kind,o.dot,QbH o⟩:Cen)) (s.ents.filter fun x=>!(fun x=>QaE o (QaG x)) x)<(s.ents.filter fun x=>!(fun x=>QaE o (QaG x)) x).length)&&decide (QbS (gd (s.ents.filter fun x=>!(fun x=>QaE o (QaG x)) x) (Qcj (QeU (⟨o.cart,o.item,o.qty,o.kind,o.dot,QbH o⟩:Cen)) (s.ents.filter fun x=>!(fun x=>QaE o (QaG x)) x))) (⟨o.cart,o.item,o.qty,o.kind,o.dot,QbH o⟩:Cen)=0))]) rfl (Qaa (QaA (V:=I6 ((Qcj (QeU (⟨o.cart,o.item,o.qty,o.kind,o.dot,QbH o⟩:Cen)) (s.ents.filter fun x=>!(fun x=>QaE o (QaG x)) x):Nat):Int)) rfl rfl (Qaa (QaA (V:=.bool (decide (Qcj (QeU (⟨o.cart,o.item,o.qty,o.kind,o.dot,QbH o⟩:Cen)) (s.ents.filter fun x=>!(fun x=>QaE o (QaG x)) x)<(s.ents.filter fun x=>!(fun x=>QaE o (QaG x)) x).length)&&decide (QbS (gd (s.ents.filter fun x=>!(fun x=>QaE o (QaG x)) x) (Qcj (QeU (⟨o.cart,o.item,o.qty,o.kind,o.dot,QbH o⟩:Cen)) (s.ents.filter fun x=>!(fun x=>QaE o (QaG x)) x))) (⟨o.cart,o.item,o.qty,o.kind,o.dot,QbH o⟩:Cen)=0))) rfl rfl (Qaa (Qad (V:=I6 ((Qcj (QeU (⟨o.cart,o.item,o.qty,o.kind,o.dot,QbH o⟩:Cen)) (s.ents.filter fun x=>!(fun x=>QaE o (QaG x)) x):Nat):Int)) rfl (Qaa (Qad (V:=.bool (decide (Qcj (QeU (⟨o.cart,o.item,o.qty,o.kind,o.dot,QbH o⟩:Cen)) (s.ents.filter fun x=>!(fun x=>QaE o (QaG x)) x)<(s.ents.filter fun x=>!(fun x=>QaE o (QaG x)) x).length)&&decide (QbS (gd (s.ents.filter fun x=>!(fun x=>QaE o (QaG x)) x) (Qcj (QeU (⟨o.cart,o.item,o.qty,o.kind,o.dot,QbH o⟩:Cen)) (s.ents.filter fun x=>!(fun x=>QaE o (QaG x)) x))) (⟨o.cart,o.item,o.qty,o.kind,o.dot,QbH o⟩:Cen)=0))) rfl (Qae ?_)))))))))))))))))))
   have hpe:=QfI (f:=QeU (⟨o.cart,o.item,o.qty,o.kind,o.dot,QbH o⟩:Cen)) (l:=s.ents.filter fun x=>!(fun x=>QaE o (QaG x)) x)
   refine Qab (Qaa (Qaf Qdb rfl (Qaa (QaQ (V:=.slice x13.1.1 ((s.ents.filter fun x=>!(fun x=>QaE o (QaG x)) x).length) x13.1.2) Qgf hs 5 rfl rfl rfl (Qaa (Qac (V:=I6 ((Qcj (QeU (⟨o.cart,o.item,o.qty,o.kind,o.dot,QbH o⟩:Cen)) (s.ents.filter fun x=>!(fun x=>QaE o (QaG x)) x):Nat):Int)) rfl (Qaa (QaL (cs:=cec (⟨o.cart,o.item,o.qty,o.kind,o.dot,QbH o⟩:Cen)) QaB hs 6 rfl rfl rfl (Qaa (QhQ (vals:=[.agg (cec (⟨o.cart,o.item,o.qty,o.kind,o.dot,QbH o⟩:Cen)).toArray]) (ls:=List.map cec ([(⟨o.cart,o.item,o.qty,o.kind,o.dot,QbH o⟩:Cen)]:List Cen)) QeL rfl rfl rfl (Qbi (enc:=cec) (fun _=>rfl) _) (QaV Qbj _) (QQ8 rfl) hs fun b29 w30 hs=>(Qaa (QnX (α:=Option Addr × Nat) (vs:=[.slice x13.1.1 ((s.ents.filter fun x=>!(fun x=>QaE o (QaG x)) x).length) x13.1.2,I6 ((Qcj (QeU (⟨o.cart,o.item,o.qty,o.kind,o.dot,QbH o⟩:Cen)) (s.ents.filter fun x=>!(fun x=>QaE o (QaG x)) x):Nat):Int),.slice (some ⟨b29,0,none⟩) 1 1]) (V:=fun x=>.slice x.1 (Qdu (s.ents.filter fun x=>!(fun x=>QaE o (QaG x)) x) (Qcj (QeU (⟨o.cart,o.item,o.qty,o.kind,o.dot,QbH o⟩:Cen)) (s.ents.filter fun x=>!(fun x=>QaE o (QaG x)) x)) (⟨o.cart,o.item,o.qty,o.kind,o.dot,QbH o⟩:Cen)).length x.2) (R:=row (.slice x13.1.1 ((s.ents.filter fun x=>!(fun x=>QaE o (QaG x)) x).length) x13.1.2) ((s.ents.filter fun x=>!(fun x=>QaE o (QaG x)) x).map cec) 106 7) (R':=fun x=>row (.slice x.1 (Qdu (s.ents.filter fun x=>!(fun x=>QaE o (QaG x)) x) (Qcj (QeU (⟨o.cart,o.item,o.qty,o.kind,o.dot,QbH o⟩:Cen)) (s.ents.filter fun x=>!(fun x=>QaE o (QaG x)) x)) (⟨o.cart,o.item,o.qty,o.kind,o.dot,QbH o⟩:Cen)).length x.2) ((Qdu (s.ents.filter fun x=>!(fun x=>QaE o (QaG x)) x) (Qcj (QeU (⟨o.cart,o.item,o.qty,o.kind,o.dot,QbH o⟩:Cen)) (s.ents.filter fun x=>!(fun x=>QaE o (QaG x)) x)) (⟨o.cart,o.item,o.qty,o.kind,o.dot,QbH o⟩:Cen)).map cec) 106 7) (Lo:=fun _=>[]) (F:=fun _ _=>True) Qto rfl rfl hs 3 7 (by decide) rfl rfl (QQ8 rfl) (fun S hS hlt hnS hpl9=>QlU _ S x13.1.1 x13.1.2 (s.ents.filter fun x=>!(fun x=>QaE o (QaG x)) x) (Qcj (QeU (⟨o.cart,o.item,o.qty,o.kind,o.dot,QbH o⟩:Cen)) (s.ents.filter fun x=>!(fun x=>QaE o (QaG x)) x)) hpe (⟨o.cart,o.item,o.qty,o.kind,o.dot,QbH o⟩:Cen) (some ⟨b29,0,none⟩) 1 (hs.rd 7 rfl) hpl9 hnS hpl9.lt (by omega) hS hlt) fun x32 w31 hs _=>(Qaa (Qaf Qdb rfl (Qaa (Qc0 (V:=.slice x32.1 ((Qdu (s.ents.filter fun x=>!(fun x=>QaE o (QaG x)) x) (Qcj (QeU (⟨o.cart,o.item,o.qty,o.kind,o.dot,QbH o⟩:Cen)) (s.ents.filter fun x=>!(fun x=>QaE o (QaG x)) x)) (⟨o.cart,o.item,o.qty,o.kind,o.dot,QbH o⟩:Cen)).length) x32.2) (cs':=(vc (vset s.known o.dot.rep.toNat o.dot.seq))++[(.slice x32.1 ((Qdu (s.ents.filter fun x=>!(fun x=>QaE o (QaG x)) x) (Qcj (QeU (⟨o.cart,o.item,o.qty,o.kind,o.dot,QbH o⟩:Cen)) (s.ents.filter fun x=>!(fun x=>QaE o (QaG x)) x)) (⟨o.cart,o.item,o.qty,o.kind,o.dot,QbH o⟩:Cen)).length) x32.2:Value),(.slice x13.2.1 s.ticks.length x13.2.2:Value) ]) Qgf hs 5 rfl rfl rfl rfl (QQ8 rfl) rfl fun w33 hs=>?_))))))))))))))))
   replace hs:Own w no w33 [blk b1 ((vc s.known)++[(.slice a1 s.ents.length c1:Value),(.slice a2 s.ticks.length c2:Value) ]) 38,blk b3 (oc o) 98,blk b5 ((vc vzero)++[(.slice none 0 0:Value),(.slice none 0 0:Value) ]) 38,row (.slice x32.1 ((Qdu (s.ents.filter fun x=>!(fun x=>QaE o (QaG x)) x) (Qcj (QeU (⟨o.cart,o.item,o.qty,o.kind,o.dot,QbH o⟩:Cen)) (s.ents.filter fun x=>!(fun x=>QaE o (QaG x)) x)) (⟨o.cart,o.item,o.qty,o.kind,o.dot,QbH o⟩:Cen)).length) x32.2) ((Qdu (s.ents.filter fun x=>!(fun x=>QaE o (QaG x)) x) (Qcj (QeU (⟨o.cart,o.item,o.qty,o.kind,o.dot,QbH o⟩:Cen)) (s.ents.filter fun x=>!(fun x=>QaE o (QaG x)) x)) (⟨o.cart,o.item,o.qty,o.kind,o.dot,QbH o⟩:Cen)).map cec) 106 7,row (.slice x13.2.1 s.ticks.length x13.2.2) (s.ticks.map lsc) 102 2,blk b15 ((vc (vset s.known o.dot.rep.toNat o.dot.seq))++[(.slice x32.1 ((Qdu (s.ents.filter fun x=>!(fun x=>QaE o (QaG x)) x) (Qcj (QeU (⟨o.cart,o.item,o.qty,o.kind,o.dot,QbH o⟩:Cen)) (s.ents.filter fun x=>!(fun x=>QaE o (QaG x)) x)) (⟨o.cart,o.item,o.qty,o.kind,o.dot,QbH o⟩:Cen)).length) x32.2:Value),(.slice x13.2.1 s.ticks.length x13.2.2:Value) ]) 38,blk b27 (cec (⟨o.cart,o.item,o.qty,o.kind,o.dot,QbH o⟩:Cen)) 106,row (.slice (some ⟨b29,0,none⟩) 1 1) ([(⟨o.cart,o.item,o.qty,o.kind,o.dot,QbH o⟩:Cen)].map cec) 106 7]:=hs
   refine Qae ?_
   exact ⟨_,x32.1,x32.2,Qdu (s.ents.filter fun x=>!(fun x=>QaE o (QaG x)) x) (Qcj (QeU (⟨o.cart,o.item,o.qty,o.kind,o.dot,QbH o⟩:Cen)) (s.ents.filter fun x=>!(fun x=>QaE o (QaG x)) x)) (⟨o.cart,o.item,o.qty,o.kind,o.dot,QbH o⟩:Cen),Qap (ds:=([8,9,10]++sq 51 27)) (by repeat (first|exact Agr.refl _ _|refine Agr.upd ?_ rfl|refine Agr.mix ?_ rfl)),(by unfold Qd8;rw [if_pos c22];exact (Qkq (fun hm=>hfd (QmU hm))).symm),hs.take 6⟩
  refine Qao ?_
  exact ⟨_,x13.1.1,x13.1.2,(s.ents.filter fun x=>!(fun x=>QaE o (QaG x)) x),Qap (ds:=([8,9,10]++sq 51 27)) (by repeat (first|exact Agr.refl _ _|refine Agr.upd ?_ rfl|refine Agr.mix ?_ rfl)),(by unfold Qd8;rw [if_neg (by rw [c22];decide)]),hs.take 6⟩
 rintro J' w34 ⟨Jo,a9,c9,L9,rfl,hL9,hs⟩
 refine Qag (Qab (Qaa (Qaf QeC rfl (Qaa (QaQ (V:=I7 o.cart) Qar hs 1 rfl rfl rfl (Qaa (Qaf QhP rfl (Qaa (QaQ (V:=.int .u32 o.tick) QaX hs 1 rfl rfl rfl (Qaa (QbD (vs:=[(0,I7 o.cart),(1,.int .u32 o.tick)]) (cs:=lsc (⟨o.cart,o.tick⟩:Lst)) Qqk (rfl) rfl ?_)))))))))))
 replace hs:=hs.join 5 4 (by decide) rfl rfl
 refine Qaa (Qbr (α:=Option Addr × Nat) (vs:=[Pq b15 0,.agg (lsc (⟨o.cart,o.tick⟩:Lst)).toArray]) (V:=fun _=>.tuple #[]) (R:=star [blk b15 (vc (vset s.known o.dot.rep.toNat o.dot.seq)++[(.slice a9 L9.length c9:Value),(.slice x13.2.1 s.ticks.length x13.2.2:Value)]) 38,row (.slice x13.2.1 s.ticks.length x13.2.2) (s.ticks.map lsc) 102 2]) (R':=fun x=>star [blk b15 (vc (vset s.known o.dot.rep.toNat o.dot.seq)++[(.slice a9 L9.length c9:Value),(.slice x.1 (Qdv o.cart o.tick s.ticks).length x.2:Value)]) 38,row (.slice x.1 (Qdv o.cart o.tick s.ticks).length x.2) ((Qdv o.cart o.tick s.ticks).map lsc) 102 2]) (Lo:=fun _=>[]) (F:=fun _ _=>True) Qs7 rfl rfl hs 5 rfl (fun S hS hlS=>Qso _ S b15 (vset s.known o.dot.rep.toNat o.dot.seq) (.slice a9 L9.length c9) x13.2.1 x13.2.2 s.ticks (⟨o.cart,o.tick⟩:Lst) (by omega) hrc.rt hS hlS) fun x35 w36 hs _=>?_)
 replace hs:=hs.split 5 rfl
 replace hs:=hs.put 4 (QQ8 rfl)
 refine Qae (Qag (Qab (Qaa (QaL (cs:=(vc (vset s.known o.dot.rep.toNat o.dot.seq))++[(.slice a9 L9.length c9:Value),(.slice x35.1 ((Qdv o.cart o.tick s.ticks).length) x35.2:Value) ]) QbU hs 5 rfl rfl rfl (Qaa (Qcx (V:=.agg ((vc (vset s.known o.dot.rep.toNat o.dot.seq))++[(.slice a9 L9.length c9:Value),(.slice x35.1 ((Qdv o.cart o.tick s.ticks).length) x35.2:Value) ]).toArray) (vs:=(vc (vset s.known o.dot.rep.toNat o.dot.seq))++[(.slice a9 L9.length c9:Value),(.slice x35.1 ((Qdv o.cart o.tick s.ticks).length) x35.2:Value) ]) (cs':=(vc (vset s.known o.dot.rep.toNat o.dot.seq))++[(.slice a9 L9.length c9:Value),(.slice x35.1 ((Qdv o.cart o.tick s.ticks).length) x35.2:Value) ]) QbU.1 hs 2 rfl rfl rfl rfl rfl (QQ8 rfl) (Qbl (QbO _) (Qau rfl (Qau rfl Qa1))) (Qaz rfl) fun w37 hs=>(Qaa (Qad (V:=I6 0) rfl (Qae (Qaw ?_))))))))))
 refine ⟨_,Qcm (cs:=(vc (vset s.known o.dot.rep.toNat o.dot.seq))++[(.slice a9 L9.length c9:Value),(.slice x35.1 ((Qdv o.cart o.tick s.ticks).length) x35.2:Value) ]) (V:=I6 0) Tryz.results72 QbU hs 2 rfl rfl rfl rfl,?_⟩
 have hI:QcS s o=0:=by unfold QcS;rw [if_pos c8];exact c11
 have hR:QaS s o=(⟨vset s.known o.dot.rep.toNat o.dot.seq,L9,Qdv o.cart o.tick s.ticks⟩:Sta):=by unfold QaS;rw [if_pos hI,hL9];rfl
 rw [hI,hR]
 exact ⟨((a9,c9),(x35.1,x35.2)),rfl,hs.two 3 4 (by decide) rfl rfl,trivial⟩
end Tt
end Go.Proofs
namespace Go.Proofs
open Go Go.Vx Go.RowKit
namespace Tt
theorem QnU (w:World) (a:Option Addr) (c:Nat) (l:List Opn) (hl:∀ o∈l,Qcc o) (hr:Rd w (.slice a l.length c) 23 (l.map oc)):Calls Tryz.prog 69 #[.slice a l.length c] w (fun e w'=>e = .returned (.bool (QbR l))/\Own w no w' []):=by
 refine Qai (n:=63) Tryz.func69 rfl Tryz.ntmps69 rfl ?_
 have hs:=Own.start w
 have hn:=hr.sml
 refine Qag (Qab (Qaa (Qad (V:=.bool false) rfl (Qae (Qag (Qag (Qbw [some 10,some 11,some 12,some 13,some 14,some 15,some 16,some 17] [] [0,1,3,7,15,31,63,127] [pv (.slice a l.length c),pv (I6 ((l.length:Nat):Int)),pv (.bool (decide (40<((l.length:Nat):Int)))),pv (.bool (decide (40<((l.length:Nat):Int)))),pg ((decide (40<((l.length:Nat):Int))) == false) (.slice a l.length c),pg ((decide (40<((l.length:Nat):Int))) == false) (.bool (Qbc l)),pg ((decide (40<((l.length:Nat):Int))) == false) (.bool (!(Qbc l))),pv (.bool ((decide (40<((l.length:Nat):Int)))||(!(Qbc l))))] (fun _ _=>_) [7] (by kernel_rfl) hs ⟨?_,?_,?_,?_,?_,?_,?_,?_,trivial⟩ ?_)))))))
 ·exact oa [] fun D J w hs=>Qac (V:=.slice a l.length c) rfl (Zz hs)
 ·exact oa [0] fun D J w hs=>Qa3 (n:=l.length) Qco (Rd.own' hr hs) (by simp) rfl (Zz hs)
 ·exact oa [1] fun D J w hs=>Qb2 rfl rfl (Zz hs)
 ·exact oa [2] fun D J w hs=>Qac (V:=.bool (decide (40<((l.length:Nat):Int)))) rfl (Zz hs)
 ·refine og [3] fun D J w hG hs=>?_
  have hgd:=QQ2 (eq_of_beq hG)
  exact Qac (V:=.slice a l.length c) rfl (Zz hs)
 ·refine oy [3,4] [4] fun D J w hG hs=>?_
  have hgd:=QQ2 (eq_of_beq hG)
  exact Qat (vs:=[.slice a l.length c]) (V:=.bool (Qbc l)) QuB rfl rfl (Qge _ a c l hl (by omega) (Rd.own' hr hs)) hs fun _ hs=>Zz hs
 ·refine oy [3,5] [5] fun D J w hG hs=>?_
  have hgd:=QQ2 (eq_of_beq hG)
  exact Qbz rfl (Zz hs)
 ·exact oa [3,6] fun D J w hs=>Qcs (h':=!(Qbc l)) rfl rfl rfl (Zz hs)
 rintro J1 w2 J2 hJ hs
 replace hJ:J2=upd (mix (sq 10 8) J1 _) 17 (.bool ((decide (40<((l.length:Nat):Int)))||(!(Qbc l)))):=hJ
 subst hJ
 refine Qam (t:=(decide (40<((l.length:Nat):Int)))||(!(Qbc l))) rfl (fun c3=>?_) (fun c3=>?_)
 ·
  refine Qag (Qab (Qaa (Qad (V:=.bool false) rfl (Qae (Qaw ?_)))))
  refine ⟨_,Qaq (V:=.bool false) Tryz.results69 rfl,(Zr hs ?_)⟩
  have hc:=c3
  rcases Nat.lt_or_ge 40 l.length with q|q
  ·exact congrArg Value.bool (Qo0 q).symm
  refine congrArg Value.bool (Qi9 ?_).symm
  rw [QQ4 (by omega)] at hc;simpa using hc
 have c3r:=QgD c3
 replace c3:=QgK c3
 replace c3:=QQ2 c3
 replace c3r:=Qbu c3r
 refine Qao (Qag (Qab (Qaa (QaK (cs:=vc vzero) Qpa rfl hs fun b4 w5 hs=>(Qae (Qag (Qag (Qab (Qaa (Qac (V:=.slice a l.length c) rfl (Qaa (Qa3 (n:=l.length) Qco (Rd.own' hr hs) (by simp) rfl (Qaa (Qac (V:=I6 0) rfl (Qae (Qan (QaD (fun J μ J' w'=>∃ (Jo:Env) (k:Nat) (u:Vec),J'=upd (mix ([2,5]++sq 20 16) Jo J) 20 (I6 (k:Int))/\(k<=l.length)/\(u=Qbq (l.take k))/\(∀ j:Nat,j<k->decide (QbF (Qbq (l.take j)) (gd l j)=0)=true)/\μ=l.length-k/\Own w no w' [blk b4 (vc u) 24]) ?_ ?_)))))))))))))))))
 ·exact ⟨_,_,0,vzero,Qal (Qap (ds:=([2,5]++sq 20 16)) (Agr.refl _ _)) rfl,(by omega),rfl,(fun j hj=>absurd hj (Nat.not_lt_zero j)),rfl,hs⟩
 rintro μ J' w6 ⟨Jo,k,u,rfl,hk,hu,hrd,rfl,hs⟩
 refine Qag (Qab (Qaa (Qa2 rfl rfl (Qae (Qag (Qam (t:=decide ((k:Int)<((l.length:Nat):Int))) rfl (fun c7=>?_) (fun c7=>?_)))))))
 ·
  replace c7:=QQ1 c7
  refine Qao (Qag (Qan (Qag (Qab (Qaa (Qax Qco QbB.1 (Rd.own' hr hs) rfl rfl (by omega) (by rw [QQ6];omega) (Qaa (Qbb (j:=0) (vs:=oc (gd l k)) k QbB (Rd.own' hr hs) (Qba (by omega)) rfl rfl rfl (by omega) (Qaa (QaK (cs:=oc (⟨(⟨0,0⟩:Dot),0,0,0,0,0,vzero⟩:Opn)) QiM rfl hs fun b8 w9 hs=>(Qaa (Qcx (V:=.agg (oc (gd l k)).toArray) (vs:=oc (gd l k)) (cs':=oc (gd l k)) QbB.1 hs 1 rfl rfl rfl rfl rfl (QQ8 rfl) (Qc7 _) (Qaz rfl) fun w10 hs=>(Qae (Qag (Qag (Qab (Qaa (QaL (cs:=vc u) Qbk hs 0 rfl rfl rfl (Qaa (QaL (cs:=oc (gd l k)) QbB hs 1 rfl rfl rfl (Qaa (Qat (vs:=[.agg (vc u).toArray,.agg (oc (gd l k)).toArray]) (V:=I6 (QbF u (gd l k))) QsO rfl rfl ?hc hs fun w11 hs=>?_))))))))))))))))))))))
  case hc=>exact (QmP _ u (gd l k) (hl _ (QbG (by omega))))
  refine Qaa (Qcv rfl rfl (Qae (Qam (t:=!decide (QbF u (gd l k)=0)) rfl (fun c12=>?_) (fun c12=>?_))))
  ·
   replace c12:=Qby c12
   replace c12:=QQ2 c12
   refine Qag (Qab (Qaa (Qad (V:=.bool false) rfl (Qae (Qaw ?_)))))
   refine ⟨_,Qaq (V:=.bool false) Tryz.results69 rfl,(Zr hs ?_)⟩
   exact congrArg Value.bool (QkS (k:=k) (by omega) (by rw [← hu];exact c12)).symm
  replace c12:=Qbu c12
  replace c12:=QQ1 c12
  refine Qao ?_
  have ⟨⟨⟨hp1,hp2⟩,hp3,hp4⟩,_⟩:=hl _ (QbG (l:=l) (i:=k) (by omega))
  have hp5:=(QgU (hl _ (QbG (l:=l) (i:=k) (by omega))) c12).1.r1
  refine Qab (Qaa (Qaf Qbp rfl (Qaa (Qaf QbZ rfl (Qaa (QaQ (V:=.int .u8 (((gd l k).dot).rep)) Qdw hs 1 rfl rfl rfl (Qaa (Qaf Qbp rfl (Qaa (Qaf Qb0 rfl (Qaa (QaQ (V:=.int .u32 (((gd l k).dot).seq)) QaX hs 1 rfl rfl rfl (Qaa (QbX QdT QaX.1 rfl rfl (by omega) (by omega) (Qaa (Qc0 (V:=.int .u32 (((gd l k).dot).seq)) (cs':=vc (vset u (((gd l k).dot).rep).toNat (((gd l k).dot).seq))) QaX hs 0 rfl rfl rfl rfl (Qsx (by omega)) (QmL (by omega) (by omega)) fun w13 hs=>?_))))))))))))))))
  replace hs:Own w no w13 [blk b4 (vc (vset u (((gd l k).dot).rep).toNat (((gd l k).dot).seq))) 24,blk b8 (oc (gd l k)) 98]:=hs
  refine Qae (Qab (Qaa (QaF (a:=(k:Int)) (b:=1) (c:=((k+1:Nat):Int)) rfl rfl (Qak (by omega) (by omega)) (Qaa (Qac (V:=I6 ((k+1:Nat):Int)) rfl (Qae ?_))))))
  refine ⟨_,?_,_,k+1,vset u (((gd l k).dot).rep).toNat (((gd l k).dot).seq),Qal (Qap (ds:=([2,5]++sq 20 16)) (by repeat (first|exact Agr.refl _ _|refine Agr.upd ?_ rfl|refine Agr.mix ?_ rfl))) rfl,(by omega),(Qlp hu (by omega)),(Qka hrd (QQ3 (by rw [← hu];exact c12))),rfl,hs.take 1⟩
  omega
 replace c7:=QQ2 c7
 refine QaJ (Qag (Qag (Qab (Qaa (Qac (V:=.slice a l.length c) rfl (Qaa (Qa3 (n:=l.length) Qco (Rd.own' hr hs) (by simp) rfl (Qaa (Qac (V:=I6 0) rfl (Qae (Qan (QaD (fun J μ J' w'=>∃ (Jo:Env) (i2:Nat),J'=upd (mix ([2,7,9]++sq 38 25) Jo J) 38 (I6 (i2:Int))/\(i2<=l.length)/\(∀ i,i<i2->∀ j,j<l.length->Qjz l i j=false)/\μ=l.length-i2/\Own w no w' [blk b4 (vc u) 24]) ?_ ?_))))))))))))
 ·exact ⟨_,_,0,Qal (Qap (ds:=([2,7,9]++sq 38 25)) (Agr.refl _ _)) rfl,(by omega),(fun i hi=>absurd hi (Nat.not_lt_zero i)),rfl,hs⟩
 rintro μ J' w14 ⟨Jo,i2,rfl,hi2,hdp,rfl,hs⟩
 refine Qag (Qab (Qaa (Qa2 rfl rfl (Qae (Qag (Qam (t:=decide ((i2:Int)<((l.length:Nat):Int))) rfl (fun c15=>?_) (fun c15=>?_)))))))
 ·
  replace c15:=QQ1 c15
  refine Qao (Qag (Qan (Qag (Qab (Qaa (Qax Qco QbB.1 (Rd.own' hr hs) rfl rfl (by omega) (by rw [QQ6];omega) (Qaa (Qbb (j:=0) (vs:=oc (gd l i2)) i2 QbB (Rd.own' hr hs) (Qba (by omega)) rfl rfl rfl (by omega) (Qaa (QaK (cs:=oc (⟨(⟨0,0⟩:Dot),0,0,0,0,0,vzero⟩:Opn)) QiM rfl hs fun b16 w17 hs=>(Qaa (Qcx (V:=.agg (oc (gd l i2)).toArray) (vs:=oc (gd l i2)) (cs':=oc (gd l i2)) QbB.1 hs 1 rfl rfl rfl rfl rfl (QQ8 rfl) (Qc7 _) (Qaz rfl) fun w18 hs=>(Qae (Qag (Qab (Qaa (Qac (V:=.slice a l.length c) rfl (Qaa (Qa3 (n:=l.length) Qco (Rd.own' hr hs) (by simp) rfl (Qaa (Qac (V:=I6 0) rfl (Qae (Qan (QaD (fun J μ J' w'=>∃ (Jo:Env) (j3:Nat),J'=upd (mix ([2,9]++sq 44 18) Jo J) 44 (I6 (j3:Int))/\(j3<=l.length)/\(∀ j:Nat,j<j3->Qjz l i2 j=false)/\μ=l.length-j3/\Own w no w' [blk b4 (vc u) 24,blk b16 (oc (gd l i2)) 98]) ?_ ?_))))))))))))))))))))))))
  ·exact ⟨_,_,0,Qal (Qap (ds:=([2,9]++sq 44 18)) (Agr.refl _ _)) rfl,(by omega),(fun j hj=>absurd hj (Nat.not_lt_zero j)),rfl,hs⟩
  rintro μ J' w19 ⟨Jo,j3,rfl,hj3,hdj,rfl,hs⟩
  refine Qag (Qab (Qaa (Qa2 rfl rfl (Qae (Qag (Qam (t:=decide ((j3:Int)<((l.length:Nat):Int))) rfl (fun c20=>?_) (fun c20=>?_)))))))
  ·
   replace c20:=QQ1 c20
   refine Qao (Qag (Qan (Qag (Qab (Qaa (Qax Qco QbB.1 (Rd.own' hr hs) rfl rfl (by omega) (by rw [QQ6];omega) (Qaa (Qbb (j:=0) (vs:=oc (gd l j3)) j3 QbB (Rd.own' hr hs) (Qba (by omega)) rfl rfl rfl (by omega) (Qaa (QaK (cs:=oc (⟨(⟨0,0⟩:Dot),0,0,0,0,0,vzero⟩:Opn)) QiM rfl hs fun b21 w22 hs=>?_))))))))))
   replace hs:Own w no w22 [blk b4 (vc u) 24,blk b16 (oc (gd l i2)) 98,blk b21 (oc (⟨(⟨0,0⟩:Dot),0,0,0,0,0,vzero⟩:Opn)) 98]:=hs
   refine Qaa (Qcx (V:=.agg (oc (gd l j3)).toArray) (vs:=oc (gd l j3)) (cs':=oc (gd l j3)) QbB.1 hs 2 rfl rfl rfl rfl rfl (QQ8 rfl) (Qc7 _) (Qaz rfl) fun w23 hs=>(Qae (Qag ?_)))
   have hdj3:=(hl _ (QbG (l:=l) (i:=j3) (by omega))).1
   refine Qbw [some 48,some 49,some 50,some 51,some 52,some 53,some 54,some 55,some 56,some 57,some 58,some 59,some 60] [] [0,1,0,4,15,31,63,127,63,319,1023,2047,4095] [pv (Pq b16 (0+7)),pv (.agg (vc ((gd l i2).ctx)).toArray),pv (Pq b21 (0+0)),pv (.agg (dc ((gd l j3).dot)).toArray),pv (.bool (Qbv ((gd l i2).ctx) ((gd l j3).dot))),pv (.bool (Qbv ((gd l i2).ctx) ((gd l j3).dot))),pg ((Qbv ((gd l i2).ctx) ((gd l j3).dot)) == true) (Pq b21 (0+7)),pg ((Qbv ((gd l i2).ctx) ((gd l j3).dot)) == true) (.agg (vc ((gd l j3).ctx)).toArray),pg ((Qbv ((gd l i2).ctx) ((gd l j3).dot)) == true) (Pq b16 (0+7)),pg ((Qbv ((gd l i2).ctx) ((gd l j3).dot)) == true) (.agg (vc ((gd l i2).ctx)).toArray),pg ((Qbv ((gd l i2).ctx) ((gd l j3).dot)) == true) (.bool (vle ((gd l j3).ctx) ((gd l i2).ctx))),pg ((Qbv ((gd l i2).ctx) ((gd l j3).dot)) == true) (.bool (!(vle ((gd l j3).ctx) ((gd l i2).ctx)))),pv (.bool ((Qbv ((gd l i2).ctx) ((gd l j3).dot))&&(!(vle ((gd l j3).ctx) ((gd l i2).ctx)))))] (fun _ _=>_) [12] (by kernel_rfl) hs ⟨?_,?_,?_,?_,?_,?_,?_,?_,?_,?_,?_,?_,?_,trivial⟩ ?_
   ·exact oa [] fun D J w hs=>Qaf QcM rfl (Zz hs)
   ·exact oa [0] fun D J w hs=>QbY (vs:=vc ((gd l i2).ctx)) Qbk hs 1 rfl rfl rfl rfl (Zz hs)
   ·exact oa [] fun D J w hs=>Qaf Qbp rfl (Zz hs)
   ·exact oa [2] fun D J w hs=>QbY (vs:=dc ((gd l j3).dot)) QcL hs 2 rfl rfl rfl rfl (Zz hs)
   ·exact oa [1,3] fun D J w hs=>Qat (vs:=[.agg (vc ((gd l i2).ctx)).toArray,.agg (dc ((gd l j3).dot)).toArray]) (V:=.bool (Qbv ((gd l i2).ctx) ((gd l j3).dot))) Qnj rfl rfl (Qf6 _ ((gd l i2).ctx) ((gd l j3).dot) (by first|assumption|exact QcP (by omega) (by omega) (by omega) (by omega))) hs fun _ hs=>Zz hs
   ·exact oa [4] fun D J w hs=>Qac (V:=.bool (Qbv ((gd l i2).ctx) ((gd l j3).dot))) rfl (Zz hs)
   ·exact og [5] fun D J w hG hs=>Qaf QcM rfl (Zz hs)
   ·exact oy [5,6] [6] fun D J w hG hs=>QbY (vs:=vc ((gd l j3).ctx)) Qbk hs 2 rfl rfl rfl rfl (Zz hs)
   ·exact og [5] fun D J w hG hs=>Qaf QcM rfl (Zz hs)
   ·exact oy [5,8] [8] fun D J w hG hs=>QbY (vs:=vc ((gd l i2).ctx)) Qbk hs 1 rfl rfl rfl rfl (Zz hs)
   ·exact oy [5,7,9] [7,9] fun D J w hG hs=>Qat (vs:=[.agg (vc ((gd l j3).ctx)).toArray,.agg (vc ((gd l i2).ctx)).toArray]) (V:=.bool (vle ((gd l j3).ctx) ((gd l i2).ctx))) QqX rfl rfl (Qgd _ ((gd l j3).ctx) ((gd l i2).ctx)) hs fun _ hs=>Zz hs
   ·exact oy [5,10] [10] fun D J w hG hs=>Qbz rfl (Zz hs)
   ·exact oa [5,11] fun D J w hs=>Qbn (h':=!(vle ((gd l j3).ctx) ((gd l i2).ctx))) rfl rfl rfl (Zz hs)
   rintro J1 w26 J2 hJ hs
   replace hJ:J2=upd (mix (sq 48 13) J1 _) 60 (.bool ((Qbv ((gd l i2).ctx) ((gd l j3).dot))&&(!(vle ((gd l j3).ctx) ((gd l i2).ctx))))):=hJ
   subst hJ
   refine Qam (t:=(Qbv ((gd l i2).ctx) ((gd l j3).dot))&&(!(vle ((gd l j3).ctx) ((gd l i2).ctx)))) rfl (fun c27=>?_) (fun c27=>?_)
   ·
    have c27r:=Qcy c27
    replace c27:=Qb3 c27
    replace c27r:=Qby c27r
    refine Qag (Qab (Qaa (Qad (V:=.bool false) rfl (Qae (Qaw ?_)))))
    refine ⟨_,Qaq (V:=.bool false) Tryz.results69 rfl,(Zr hs ?_)⟩
    exact congrArg Value.bool (Qm2 (i:=i2) (j:=j3) (by omega) (by omega) (by unfold Qjz;rw [c27,c27r];rfl)).symm
   refine Qao (Qab (Qaa (QaF (a:=(j3:Int)) (b:=1) (c:=((j3+1:Nat):Int)) rfl rfl (Qak (by omega) (by omega)) (Qaa (Qac (V:=I6 ((j3+1:Nat):Int)) rfl (Qae ?_))))))
   refine ⟨_,?_,_,j3+1,Qal (Qap (ds:=([2,9]++sq 44 18)) (by repeat (first|exact Agr.refl _ _|refine Agr.upd ?_ rfl|refine Agr.mix ?_ rfl))) rfl,(by omega),(QcO hdj (by unfold Qjz;exact c27)),rfl,hs.take 2⟩
   omega
  replace c20:=QQ2 c20
  refine QaJ (Qab (Qaa (QaF (a:=(i2:Int)) (b:=1) (c:=((i2+1:Nat):Int)) rfl rfl (Qak (by omega) (by omega)) (Qaa (Qac (V:=I6 ((i2+1:Nat):Int)) rfl (Qae ?_))))))
  refine ⟨_,?_,_,i2+1,Qal (Qap (ds:=([2,7,9]++sq 38 25)) (by repeat (first|exact Agr.refl _ _|refine Agr.upd ?_ rfl|refine Agr.mix ?_ rfl))) rfl,(by omega),(fun i hi j hj=>by
 rcases Nat.lt_or_eq_of_le (Nat.le_of_lt_succ hi) with q|q
 ·exact hdp i q j hj
 ·subst q;exact hdj j (by omega)),rfl,hs.take 1⟩
  omega
 replace c15:=QQ2 c15
 refine QaJ (Qag (Qab (Qaa (Qad (V:=.bool true) rfl (Qae (Qaw ?_))))))
 refine ⟨_,Qaq (V:=.bool true) Tryz.results69 rfl,(Zr hs ?_)⟩
 exact congrArg Value.bool (QpS (by omega) c3r (fun k hk=>QQ1 (hrd k (by omega))) fun i hi j hj=>hdp i (by omega) j hj).symm
end Tt
end Go.Proofs
namespace Go.Proofs
open Go Go.Vx Go.RowKit
namespace Tt
theorem Qr6 (w:World) (a:Option Addr) (ca:Nat) (l:List Opn) (v:Vec) (hl:∀ o∈l,Qcc o) (hr:Rd w (.slice a l.length ca) 23 (l.map oc)):Calls Tryz.prog 28 #[.slice a l.length ca,.agg (vc v).toArray] w (fun e w'=>∃ x:((Option Addr × Nat) × (Option Addr × Nat)) × (Option Addr × Nat),e = .returned (.tuple #[.agg ((vc (Qaj l v).base.known++[(.slice x.1.1.1 (Qaj l v).base.ents.length x.1.1.2:Value),(.slice x.1.2.1 (Qaj l v).base.ticks.length x.1.2.2:Value)])++[(.slice x.2.1 (Qaj l v).ops.length x.2.2:Value)]++vc (Qaj l v).known).toArray,.bool (QdR l v)])/\Own w no w' [row (.slice x.1.1.1 (Qaj l v).base.ents.length x.1.1.2) ((Qaj l v).base.ents.map cec) 106 7,row (.slice x.1.2.1 (Qaj l v).base.ticks.length x.1.2.2) ((Qaj l v).base.ticks.map lsc) 102 2,row (.slice x.2.1 (Qaj l v).ops.length x.2.2) ((Qaj l v).ops.map oc) 98 23]/\True):=by
 refine Qai (n:=74) Tryz.func28 rfl Tryz.ntmps28 rfl ?_
 have hs:=Own.start w
 have hn:=hr.sml
 refine Qag (Qab (Qaa (Qa4 (V:=.agg (vc v).toArray) (cs:=vc v) rfl rfl hs fun b1 w2 hs=>(Qaa (QaK (cs:=((vc vzero)++[(.slice none 0 0:Value),(.slice none 0 0:Value) ])++[(.slice none 0 0:Value) ]++(vc vzero)) QoI rfl hs fun b3 w4 hs=>(Qaa (Qad (V:=.bool false) rfl (Qae (Qag (Qag ?_))))))))))
 rcases Decidable.em (QbR l=true/\l.length<=30) with hk1|hk1
 ·
  replace hs:=hs.more emp trivial
  refine Qbw [some 12,some 13,some 14,some 15,some 16,some 17,some 18,some 19,some 20,some 21,some 22,some 23,some 24,some 25,some 26] [[],[],[],[],[],[],[],[],[],[],[],[23]] [0,1,3,7,15,31,63,127,255,511,511,2047,4095,8191,16383] [pv (.slice a l.length ca),pv (.bool (QbR l)),pv (.bool (!(QbR l))),pv (.bool (!(QbR l))),pg ((!(QbR l)) == false) (.slice a l.length ca),pg ((!(QbR l)) == false) (I6 ((l.length:Nat):Int)),pg ((!(QbR l)) == false) (.bool (decide (30<((l.length:Nat):Int)))),pv (.bool false),pv (.bool false),pv (.slice a l.length ca),pv (.agg (vc v).toArray),(true,fun J=>.slice (aOf (J 23)) ((QaC l v).length) (cOf (J 23))),pv (.bool (Qbc (QaC l v))),pv (.bool (!(Qbc (QaC l v)))),pv (.bool (!(Qbc (QaC l v))))] (fun D J=>[blk b1 (vc v) 24,blk b3 (((vc vzero)++[(.slice none 0 0:Value),(.slice none 0 0:Value) ])++[(.slice none 0 0:Value) ]++(vc vzero)) 43,cond (D 11) (row (.slice (aOf (J 23)) ((QaC l v).length) (cOf (J 23))) ((QaC l v).map oc) 98 23) (emp)]) [14] (by kernel_rfl) hs ⟨?_,?_,?_,?_,?_,?_,?_,?_,?_,?_,?_,?_,?_,?_,?_,trivial⟩ ?_
  ·exact oa [] fun D J w hs=>Qac (V:=.slice a l.length ca) rfl (Zz hs)
  ·exact oa [0] fun D J w hs=>Qat (vs:=[.slice a l.length ca]) (V:=.bool (QbR l)) QuL rfl rfl (QnU _ a ca l hl (Rd.own' hr hs)) hs fun _ hs=>Zz hs
  ·exact oa [1] fun D J w hs=>Qbz rfl (Zz hs)
  ·exact oa [2] fun D J w hs=>Qac (V:=.bool (!(QbR l))) rfl (Zz hs)
  ·exact og [3] fun D J w hG hs=>Qac (V:=.slice a l.length ca) rfl (Zz hs)
  ·exact oy [3,4] [4] fun D J w hG hs=>Qa3 (n:=l.length) Qco (Rd.own' hr hs) (by simp) rfl (Zz hs)
  ·exact oy [3,5] [5] fun D J w hG hs=>Qb2 rfl rfl (Zz hs)
  ·exact oa [3,6] fun D J w hs=>QaU (V:=.bool ((!(QbR l))||(decide (30<((l.length:Nat):Int))))) (V':=.bool false) (Qcs (h':=decide (30<((l.length:Nat):Int))) rfl rfl rfl ⟨rfl,rfl⟩) (congrArg Value.bool (QsM hk1)) (Zz hs)
  ·exact oa [7] fun D J w hs=>Qac (V:=.bool false) rfl (Zz hs)
  ·exact obg [8] [] false rfl (fun _=>rfl) rfl (fun _ _ _ h=>nomatch h) fun D J w _ hs=>Qac (V:=.slice a l.length ca) rfl (Zz hs)
  ·exact obg [8] [] false rfl (fun _=>rfl) rfl (fun _ _ _ h=>nomatch h) fun D J w _ hs=>QaL (cs:=vc v) Qbk hs 0 rfl rfl rfl (Zz hs)
  ·exact obg [8,9,10] [] false rfl (fun _=>rfl) rfl (fun _ _ _ h=>nomatch h) fun D J w _ hs=>Qbm (vs:=[.slice a l.length ca,.agg (vc v).toArray]) (V:=fun x:Option Addr × Nat=>.slice x.1 (QaC l v).length x.2) QvM rfl rfl (QlL _ v a ca l hl (by omega) (Rd.own' hr hs)) hs fun _ _ hs _=>⟨rfl,hs.put 2 (QQ8 rfl)⟩
  ·exact obg [8,11] [] false rfl (fun _=>rfl) rfl (fun _ _ _ h=>nomatch h) fun D J w _ hs=>Qat (vs:=[.slice (aOf (J 23)) ((QaC l v).length) (cOf (J 23))]) (V:=.bool (Qbc (QaC l v))) QuB rfl rfl (Qge _ (aOf (J 23)) (cOf (J 23)) (QaC l v) (fun o ho=>hl o (Qc8 ho)) (Nat.le_trans (QeP l v) (by omega)) (hs.rd 2 rfl)) hs fun _ hs=>Zz hs
  ·exact obg [8,12] [] false rfl (fun _=>rfl) rfl (fun _ _ _ h=>nomatch h) fun D J w _ hs=>Qbz rfl (Zz hs)
  ·exact oa [8,13] fun D J w hs=>QcE (V:=.bool (!(Qbc (QaC l v)))) rfl rfl (Zz hs)
  rintro J1 w8 J2 hJ hs
  replace hJ:J2=upd (mix (sq 12 15) J1 _) 26 (.bool (!(Qbc (QaC l v)))):=hJ
  replace hs:Own w no w8 [blk b1 (vc v) 24,blk b3 (((vc vzero)++[(.slice none 0 0:Value),(.slice none 0 0:Value) ])++[(.slice none 0 0:Value) ]++(vc vzero)) 43,row (.slice (aOf (J1 23)) ((QaC l v).length) (cOf (J1 23))) ((QaC l v).map oc) 98 23]:=hs
  generalize (aOf (J1 23))=a9 at hs
  generalize (cOf (J1 23))=c10 at hs
  subst hJ
  refine Qam (t:=!(Qbc (QaC l v))) rfl (fun c11=>?_) (fun c11=>?_)
  ·
   replace c11:=Qby c11
   refine Qag (Qab (Qaa (QcC (vs:=[]) (cs:=((vc vzero)++[(.slice none 0 0:Value),(.slice none 0 0:Value) ])++[(.slice none 0 0:Value) ]++(vc vzero)) [(vc vzero)++[(.slice none 0 0:Value),(.slice none 0 0:Value) ],[(.slice none 0 0:Value)],vc vzero] [(vc vzero)++[(.slice none 0 0:Value),(.slice none 0 0:Value) ],[(.slice none 0 0:Value)],vc vzero] QqV rfl (rfl) rfl rfl (Qaa (Qcx (V:=.agg (((vc vzero)++[(.slice none 0 0:Value),(.slice none 0 0:Value) ])++[(.slice none 0 0:Value) ]++(vc vzero)).toArray) (vs:=((vc vzero)++[(.slice none 0 0:Value),(.slice none 0 0:Value) ])++[(.slice none 0 0:Value) ]++(vc vzero)) (cs':=((vc vzero)++[(.slice none 0 0:Value),(.slice none 0 0:Value) ])++[(.slice none 0 0:Value) ]++(vc vzero)) QcU.1 hs 1 rfl rfl rfl rfl rfl (QQ8 rfl) (Qbl (Qbl (Qbl (QbO _) (Qau rfl (Qau rfl Qa1))) (Qau rfl Qa1)) (QbO _)) (Qaz rfl) fun w12 hs=>(Qaa (Qad (V:=.bool false) rfl (Qae (Qaw ?_)))))))))
   refine ⟨_,Qcm (cs:=((vc vzero)++[(.slice none 0 0:Value),(.slice none 0 0:Value) ])++[(.slice none 0 0:Value) ]++(vc vzero)) (V:=.bool false) Tryz.results28 QcU hs 1 rfl rfl rfl rfl,?_⟩
   obtain ⟨hX,hY⟩:=QpP (v:=v) c11
   rw [hX,hY]
   exact ⟨(((none,0),(none,0)),(none,0)),rfl,(((hs.take 0).more _ (Qbd _ _ 106 7)).more _ (Qbd _ _ 102 2)).more _ (Qbd _ _ 98 23),trivial⟩
  replace c11:=Qbu c11
  refine Qao (Qag (Qab (Qaa (QaK (cs:=(vc vzero)++[(.slice none 0 0:Value),(.slice none 0 0:Value) ]) QfB rfl hs fun b13 w14 hs=>(Qae (Qag (Qab (Qaa (QaK (cs:=((vc vzero)++[(.slice none 0 0:Value),(.slice none 0 0:Value) ])++[(.slice none 0 0:Value) ]++(vc vzero)) QoI rfl hs fun b15 w16 hs=>?_)))))))))
  replace hs:Own w no w16 [blk b1 (vc v) 24,blk b3 (((vc vzero)++[(.slice none 0 0:Value),(.slice none 0 0:Value) ])++[(.slice none 0 0:Value) ]++(vc vzero)) 43,row (.slice a9 ((QaC l v).length) c10) ((QaC l v).map oc) 98 23,blk b13 ((vc vzero)++[(.slice none 0 0:Value),(.slice none 0 0:Value) ]) 38,blk b15 (((vc vzero)++[(.slice none 0 0:Value),(.slice none 0 0:Value) ])++[(.slice none 0 0:Value) ]++(vc vzero)) 43]:=hs
  refine Qae (Qag (Qag (Qab (Qaa (Qac (V:=.slice a l.length ca) rfl (Qaa (Qa3 (n:=l.length) Qco (Rd.own' hr hs) (by simp) rfl (Qaa (Qac (V:=I6 0) rfl (Qae (Qan ?_)))))))))))
  replace hs:=hs.more (row (.slice none 0 0) (List.map cec []) 106 7) (Qbd _ _ _ _)
  replace hs:=hs.more (row (.slice none 0 0) (List.map lsc []) 102 2) (Qbd _ _ _ _)
  replace hs:=hs.more (row (.slice none 0 0) (List.map oc []) 98 23) (Qbd _ _ _ _)
  obtain ⟨hq,hu0,hcl0⟩:=QjN hl hk1.1 c11
  refine QaD (fun J μ J' w'=>∃ (Jo:Env) (k:Nat) (s:Sta) (ae:Option Addr) (ce:Nat) (at_:Option Addr) (ct:Nat) (ao:Option Addr) (co:Nat) (O9:List Opn) (u:Vec),J'=upd (mix ([5,9,10,11]++sq 30 41) Jo J) 30 (I6 (k:Int))/\(k<=l.length)/\(s=Qc2 (QaC (l.take k) v))/\(O9=Qgh (l.take k) v)/\(u=Qbq (l.take k))/\(O9.length<=k)/\μ=l.length-k/\Own w no w' [blk b1 (vc v) 24,blk b3 (((vc vzero)++[(.slice none 0 0:Value),(.slice none 0 0:Value) ])++[(.slice none 0 0:Value) ]++(vc vzero)) 43,row (.slice a9 ((QaC l v).length) c10) ((QaC l v).map oc) 98 23,blk b13 ((vc s.known)++[(.slice ae s.ents.length ce:Value),(.slice at_ s.ticks.length ct:Value) ]) 38,blk b15 (((vc vzero)++[(.slice none 0 0:Value),(.slice none 0 0:Value) ])++[(.slice ao O9.length co:Value) ]++(vc u)) 43,row (.slice ae s.ents.length ce) (s.ents.map cec) 106 7,row (.slice at_ s.ticks.length ct) (s.ticks.map lsc) 102 2,row (.slice ao O9.length co) (O9.map oc) 98 23]) ?_ ?_
  ·exact ⟨_,_,0,szero,none,0,none,0,none,0,[],vzero,Qal (Qap (ds:=([5,9,10,11]++sq 30 41)) (Agr.refl _ _)) rfl,(by omega),rfl,rfl,rfl,(Nat.le_refl _),rfl,hs⟩
  rintro μ J' w17 ⟨Jo,k,s,ae,ce,at_,ct,ao,co,O9,u,rfl,hk,hsk,hO9,hku,hn9,rfl,hs⟩
  have hao:=Qrd hu0 hsk hk
  refine Qag (Qab (Qaa (Qa2 rfl rfl (Qae (Qag (Qam (t:=decide ((k:Int)<((l.length:Nat):Int))) rfl (fun c18=>?_) (fun c18=>?_)))))))
  ·
   replace c18:=QQ1 c18
   refine Qao (Qag (Qan (Qag (Qab (Qaa (Qax Qco QbB.1 (Rd.own' hr hs) rfl rfl (by omega) (by rw [QQ6];omega) (Qaa (Qbb (j:=0) (vs:=oc (gd l k)) k QbB (Rd.own' hr hs) (Qba (by omega)) rfl rfl rfl (by omega) (Qaa (QaK (cs:=oc (⟨(⟨0,0⟩:Dot),0,0,0,0,0,vzero⟩:Opn)) QiM rfl hs fun b19 w20 hs=>(Qaa (Qcx (V:=.agg (oc (gd l k)).toArray) (vs:=oc (gd l k)) (cs':=oc (gd l k)) QbB.1 hs 8 rfl rfl rfl rfl rfl (QQ8 rfl) (Qc7 _) (Qaz rfl) fun w21 hs=>(Qae (Qag ?_))))))))))))))
   have ⟨⟨hp1,hp2⟩,hp3,hp4⟩:=(hl _ (QbG (l:=l) (i:=k) (by omega))).1
   have hp5:(gd l k).dot.rep<16:=((hq.dots _ (QbG (l:=l) (i:=k) (by omega))).1).r1
   refine QaH HM [some 34,some 35,some 36,some 37,some 38,some 39,some 40,some 41,some 42,some 43,some 44,some 45,some 46,some 47,some 48,none] [] [0,1,3,0,8,24,0,120,248,0,512,1536,4088,0,16383,32767] [pv (Pq b19 (0+0)),pv (Pq b19 (0+0+0)),pv (.int .u8 (((gd l k).dot).rep)),pv (Pq b19 (0+0)),pv (Pq b19 (0+0+0)),pv (.int .u8 (((gd l k).dot).rep)),pv (Pq b15 (0+19)),pv (.pointer (some ⟨b15,0+19+(((gd l k).dot).rep).toNat,none⟩)),pv (.int .u32 (vat u (((gd l k).dot).rep).toNat)),pv (Pq b19 (0+0)),pv (Pq b19 (0+0+1)),pv (.int .u32 (((gd l k).dot).seq)),pv (.int .u32 (max (vat u (((gd l k).dot).rep).toNat) (((gd l k).dot).seq))),pv (Pq b15 (0+19)),pv (.pointer (some ⟨b15,0+19+(((gd l k).dot).rep).toNat,none⟩)),pn] (fun D J=>[blk b1 (vc v) 24,blk b3 (((vc vzero)++[(.slice none 0 0:Value),(.slice none 0 0:Value) ])++[(.slice none 0 0:Value) ]++(vc vzero)) 43,row (.slice a9 ((QaC l v).length) c10) ((QaC l v).map oc) 98 23,blk b13 ((vc s.known)++[(.slice ae s.ents.length ce:Value),(.slice at_ s.ticks.length ct:Value) ]) 38,cond (D 15) (blk b15 (((vc vzero)++[(.slice none 0 0:Value),(.slice none 0 0:Value) ])++[(.slice ao O9.length co:Value) ]++(vc (vset u (((gd l k).dot).rep).toNat (max (vat u (((gd l k).dot).rep).toNat) (((gd l k).dot).seq))))) 43) (blk b15 (((vc vzero)++[(.slice none 0 0:Value),(.slice none 0 0:Value) ])++[(.slice ao O9.length co:Value) ]++(vc u)) 43),row (.slice ae s.ents.length ce) (s.ents.map cec) 106 7,row (.slice at_ s.ticks.length ct) (s.ticks.map lsc) 102 2,row (.slice ao O9.length co) (O9.map oc) 98 23,blk b19 (oc (gd l k)) 98]) [] (by kernel_rfl) hs ⟨?_,?_,?_,?_,?_,?_,?_,?_,?_,?_,?_,?_,?_,?_,?_,?_,trivial⟩ ?_
   ·exact oa [] fun D J w hs=>Qaf Qbp rfl (Zz hs)
   ·exact oa [0] fun D J w hs=>Qaf QbZ rfl (Zz hs)
   ·exact oa [1] fun D J w hs=>QaQ (V:=.int .u8 (((gd l k).dot).rep)) Qdw hs 8 rfl rfl rfl (Zz hs)
   ·exact oa [] fun D J w hs=>Qaf Qbp rfl (Zz hs)
   ·exact oa [3] fun D J w hs=>Qaf QbZ rfl (Zz hs)
   ·exact oa [4] fun D J w hs=>QaQ (V:=.int .u8 (((gd l k).dot).rep)) Qdw hs 8 rfl rfl rfl (Zz hs)
   ·exact oa [] fun D J w hs=>Qaf Qjx rfl (Zz hs)
   ·exact oa [5,6] fun D J w hs=>QbX QdT QaX.1 rfl rfl (by omega) (by omega) (Zz hs)
   ·exact ob [7] [15] rfl rfl fun D J w hs=>QaQ (V:=.int .u32 (vat u (((gd l k).dot).rep).toNat)) QaX hs 4 rfl rfl (QuJ (n:=19) rfl (by omega) (by omega)) (Zz hs)
   ·exact oa [] fun D J w hs=>Qaf Qbp rfl (Zz hs)
   ·exact oa [9] fun D J w hs=>Qaf Qb0 rfl (Zz hs)
   ·exact oa [10] fun D J w hs=>QaQ (V:=.int .u32 (((gd l k).dot).seq)) QaX hs 8 rfl rfl rfl (Zz hs)
   ·exact oa [8,11] fun D J w hs=>Qo4 rfl rfl (Zz hs)
   ·exact oa [] fun D J w hs=>Qaf Qjx rfl (Zz hs)
   ·exact oa [2,13] fun D J w hs=>QbX QdT QaX.1 rfl rfl (by omega) (by omega) (Zz hs)
   ·exact oa [12,14] fun D J w hs=>Qc0 (V:=.int .u32 (max (vat u (((gd l k).dot).rep).toNat) (((gd l k).dot).seq))) (cs':=((vc vzero)++[(.slice none 0 0:Value),(.slice none 0 0:Value) ])++[(.slice ao O9.length co:Value) ]++(vc (vset u (((gd l k).dot).rep).toNat (max (vat u (((gd l k).dot).rep).toNat) (((gd l k).dot).seq))))) QaX hs 4 rfl rfl rfl rfl (QsS (n:=19) rfl (i:=(((gd l k).dot).rep).toNat) (by omega) (by omega)) (QqL (n:=19) rfl (by omega) (by omega)) fun _ hs=>⟨trivial,hs⟩
   rintro J1 w23 J2 hJ hs
   replace hJ:J2=mix (sq 34 15) J1 _:=hJ
   replace hs:Own w no w23 [blk b1 (vc v) 24,blk b3 (((vc vzero)++[(.slice none 0 0:Value),(.slice none 0 0:Value) ])++[(.slice none 0 0:Value) ]++(vc vzero)) 43,row (.slice a9 ((QaC l v).length) c10) ((QaC l v).map oc) 98 23,blk b13 ((vc s.known)++[(.slice ae s.ents.length ce:Value),(.slice at_ s.ticks.length ct:Value) ]) 38,blk b15 (((vc vzero)++[(.slice none 0 0:Value),(.slice none 0 0:Value) ])++[(.slice ao O9.length co:Value) ]++(vc (vset u (((gd l k).dot).rep).toNat (max (vat u (((gd l k).dot).rep).toNat) (((gd l k).dot).seq))))) 43,row (.slice ae s.ents.length ce) (s.ents.map cec) 106 7,row (.slice at_ s.ticks.length ct) (s.ticks.map lsc) 102 2,row (.slice ao O9.length co) (O9.map oc) 98 23,blk b19 (oc (gd l k)) 98]:=hs
   subst hJ
   refine Qag (Qag (Qab (Qaa (QaL (cs:=vc v) Qbk hs 0 rfl rfl rfl (Qaa (Qaf Qbp rfl (Qaa (QbY (vs:=dc ((gd l k).dot)) QcL hs 8 rfl rfl rfl rfl (Qaa (Qat (vs:=[.agg (vc v).toArray,.agg (dc ((gd l k).dot)).toArray]) (V:=.bool (Qbv v ((gd l k).dot))) Qnj rfl rfl ?hc hs fun w24 hs=>?_))))))))))
   case hc=>exact (Qf6 _ v ((gd l k).dot) (by first|assumption|exact QcP (by omega) (by omega) (by omega) (by omega)))
   refine Qaa (Qbz rfl (Qae (Qam (t:=!(Qbv v ((gd l k).dot))) rfl (fun c25=>?_) (fun c25=>?_))))
   ·
    replace c25:=Qby c25
    refine Qag (Qab (Qaa (Qaf Qhu rfl (Qaa (QaQ (V:=.slice ao O9.length co) Qjg hs 4 rfl rfl rfl (Qaa (QaL (cs:=oc (gd l k)) QbB hs 8 rfl rfl rfl (Qaa (QhQ (vals:=[.agg (oc (gd l k)).toArray]) (ls:=List.map oc ([gd l k]:List Opn)) Qi3 rfl rfl rfl (Qbi (enc:=oc) (fun _=>rfl) _) (QaV Qc7 _) (QQ8 rfl) hs fun b26 w27 hs=>(Qaa (Qdi (ls':=(O9++[gd l k]).map oc) (n:=(O9++[gd l k]).length) Qi3 hs 7 rfl rfl rfl (hs.rd 9 rfl) (QaV Qc7 _) (by simp only [QQ6,QQ7,List.length_cons,List.length_nil];omega) (by simp) (by simp) fun a28 c28 w29 hs=>?_)))))))))))
    replace hs:Own w no w29 [blk b1 (vc v) 24,blk b3 (((vc vzero)++[(.slice none 0 0:Value),(.slice none 0 0:Value) ])++[(.slice none 0 0:Value) ]++(vc vzero)) 43,row (.slice a9 ((QaC l v).length) c10) ((QaC l v).map oc) 98 23,blk b13 ((vc s.known)++[(.slice ae s.ents.length ce:Value),(.slice at_ s.ticks.length ct:Value) ]) 38,blk b15 (((vc vzero)++[(.slice none 0 0:Value),(.slice none 0 0:Value) ])++[(.slice ao O9.length co:Value) ]++(vc (vset u (((gd l k).dot).rep).toNat (max (vat u (((gd l k).dot).rep).toNat) (((gd l k).dot).seq))))) 43,row (.slice ae s.ents.length ce) (s.ents.map cec) 106 7,row (.slice at_ s.ticks.length ct) (s.ticks.map lsc) 102 2,row (.slice a28 ((O9++[gd l k]).length) c28) ((O9++[gd l k]).map oc) 98 23,blk b19 (oc (gd l k)) 98,row (.slice (some ⟨b26,0,none⟩) 1 1) ([gd l k].map oc) 98 23]:=hs
    refine Qaa (Qaf Qhu rfl (Qaa (Qc0 (V:=.slice a28 ((O9++[gd l k]).length) c28) (cs':=((vc vzero)++[(.slice none 0 0:Value),(.slice none 0 0:Value) ])++[(.slice a28 ((O9++[gd l k]).length) c28:Value) ]++(vc (vset u (((gd l k).dot).rep).toNat (max (vat u (((gd l k).dot).rep).toNat) (((gd l k).dot).seq))))) Qjg hs 4 rfl rfl rfl rfl (QQ8 rfl) rfl fun w30 hs=>(Qae (QaJ (Qab (Qaa (QaF (a:=(k:Int)) (b:=1) (c:=((k+1:Nat):Int)) rfl rfl (Qak (by omega) (by omega)) (Qaa (Qac (V:=I6 ((k+1:Nat):Int)) rfl (Qae ?_)))))))))))
    refine ⟨_,?_,_,k+1,s,ae,ce,at_,ct,a28,c28,O9++[gd l k],vset u (((gd l k).dot).rep).toNat (max (vat u (((gd l k).dot).rep).toNat) (((gd l k).dot).seq)),Qal (Qap (ds:=([5,9,10,11]++sq 30 41)) (by repeat (first|exact Agr.refl _ _|refine Agr.upd ?_ rfl|refine Agr.mix ?_ rfl))) rfl,(by omega),(QlJ hsk (by omega) c25),(Qpl hO9 (by omega) c25),(Qii hq hku (by omega)),(by simp only [QQ7,List.length_singleton];omega),rfl,hs.take 8⟩
    omega
   replace c25:=Qbu c25
   refine Qao (Qag ?_)
   have hst9:=QnM hu0 hsk (by omega) c25
   refine Qab (Qaa (QaL (cs:=(vc s.known)++[(.slice ae s.ents.length ce:Value),(.slice at_ s.ticks.length ct:Value) ]) QbU hs 3 rfl rfl rfl (Qaa (QaL (cs:=oc (gd l k)) QbB hs 8 rfl rfl rfl (Qaa (Qbm (α:=(Option Addr × Nat) × (Option Addr × Nat)) (vs:=[.agg ((vc s.known)++[(.slice ae s.ents.length ce:Value),(.slice at_ s.ticks.length ct:Value) ]).toArray,.agg (oc (gd l k)).toArray]) (V:=fun x:(Option Addr × Nat) × (Option Addr × Nat)=>.tuple #[.agg (vc (QaS s (gd l k)).known++[(.slice x.1.1 ((QaS s (gd l k)).ents).length x.1.2:Value),(.slice x.2.1 ((QaS s (gd l k)).ticks).length x.2.2:Value)]).toArray,I6 (QcS s (gd l k))]) (Lo:=fun x=>[row (.slice x.1.1 ((QaS s (gd l k)).ents).length x.1.2) (((QaS s (gd l k)).ents).map cec) 106 7,row (.slice x.2.1 ((QaS s (gd l k)).ticks).length x.2.2) (((QaS s (gd l k)).ticks).map lsc) 102 2]) (F:=fun _ _=>True) Qu6 rfl rfl ?hc hs fun x32 w31 hs _=>?_))))))
   case hc=>exact (Qm4 _ s ae ce at_ ct (gd l k) (hl _ (QbG (by omega))) hao.1 (by omega) (by omega) (hs.rd 5 rfl) (hs.rd 6 rfl))
   refine Qaa (Qac (V:=.tuple #[.agg ((vc ((QaS s (gd l k)).known))++[(.slice x32.1.1 (((QaS s (gd l k)).ents).length) x32.1.2:Value),(.slice x32.2.1 (((QaS s (gd l k)).ticks).length) x32.2.2:Value) ]).toArray,I6 (QcS s (gd l k))]) rfl (Qaa (QaA (V:=.agg ((vc ((QaS s (gd l k)).known))++[(.slice x32.1.1 (((QaS s (gd l k)).ents).length) x32.1.2:Value),(.slice x32.2.1 (((QaS s (gd l k)).ticks).length) x32.2.2:Value) ]).toArray) rfl rfl (Qaa (QaA (V:=I6 (QcS s (gd l k))) rfl rfl (Qaa (QaK (cs:=(vc vzero)++[(.slice none 0 0:Value),(.slice none 0 0:Value) ]) QfB rfl hs fun b33 w34 hs=>?_)))))))
   replace hs:Own w no w34 [blk b1 (vc v) 24,blk b3 (((vc vzero)++[(.slice none 0 0:Value),(.slice none 0 0:Value) ])++[(.slice none 0 0:Value) ]++(vc vzero)) 43,row (.slice a9 ((QaC l v).length) c10) ((QaC l v).map oc) 98 23,blk b13 ((vc s.known)++[(.slice ae s.ents.length ce:Value),(.slice at_ s.ticks.length ct:Value) ]) 38,blk b15 (((vc vzero)++[(.slice none 0 0:Value),(.slice none 0 0:Value) ])++[(.slice ao O9.length co:Value) ]++(vc (vset u (((gd l k).dot).rep).toNat (max (vat u (((gd l k).dot).rep).toNat) (((gd l k).dot).seq))))) 43,row (.slice ae s.ents.length ce) (s.ents.map cec) 106 7,row (.slice at_ s.ticks.length ct) (s.ticks.map lsc) 102 2,row (.slice ao O9.length co) (O9.map oc) 98 23,blk b19 (oc (gd l k)) 98,row (.slice x32.1.1 (((QaS s (gd l k)).ents).length) x32.1.2) (((QaS s (gd l k)).ents).map cec) 106 7,row (.slice x32.2.1 (((QaS s (gd l k)).ticks).length) x32.2.2) (((QaS s (gd l k)).ticks).map lsc) 102 2,blk b33 ((vc vzero)++[(.slice none 0 0:Value),(.slice none 0 0:Value) ]) 38]:=hs
   refine Qaa (Qcx (V:=.agg ((vc ((QaS s (gd l k)).known))++[(.slice x32.1.1 (((QaS s (gd l k)).ents).length) x32.1.2:Value),(.slice x32.2.1 (((QaS s (gd l k)).ticks).length) x32.2.2:Value) ]).toArray) (vs:=(vc ((QaS s (gd l k)).known))++[(.slice x32.1.1 (((QaS s (gd l k)).ents).length) x32.1.2:Value),(.slice x32.2.1 (((QaS s (gd l k)).ticks).length) x32.2.2:Value) ]) (cs':=(vc ((QaS s (gd l k)).known))++[(.slice x32.1.1 (((QaS s (gd l k)).ents).length) x32.1.2:Value),(.slice x32.2.1 (((QaS s (gd l k)).ticks).length) x32.2.2:Value) ]) QbU.1 hs 11 rfl rfl rfl rfl rfl (QQ8 rfl) (Qbl (QbO _) (Qau rfl (Qau rfl Qa1))) (Qaz rfl) fun w35 hs=>(Qaa (Qad (V:=I6 (QcS s (gd l k))) rfl (Qae (Qag (Qag (Qab (Qaa (Qac (V:=I6 (QcS s (gd l k))) rfl (Qaa (QaU (V:=.bool (!decide (QcS s (gd l k)=0))) (V':=.bool false) (Qcv rfl rfl ⟨rfl,rfl⟩) (congrArg Value.bool (by rw [hst9.1];rfl)) (Qae (QbV rfl ?_)))))))))))))
   refine Qao (Qab (Qaa (QaL (cs:=(vc ((QaS s (gd l k)).known))++[(.slice x32.1.1 (((QaS s (gd l k)).ents).length) x32.1.2:Value),(.slice x32.2.1 (((QaS s (gd l k)).ticks).length) x32.2.2:Value) ]) QbU hs 11 rfl rfl rfl (Qaa (Qcx (V:=.agg ((vc ((QaS s (gd l k)).known))++[(.slice x32.1.1 (((QaS s (gd l k)).ents).length) x32.1.2:Value),(.slice x32.2.1 (((QaS s (gd l k)).ticks).length) x32.2.2:Value) ]).toArray) (vs:=(vc ((QaS s (gd l k)).known))++[(.slice x32.1.1 (((QaS s (gd l k)).ents).length) x32.1.2:Value),(.slice x32.2.1 (((QaS s (gd l k)).ticks).length) x32.2.2:Value) ]) (cs':=(vc ((QaS s (gd l k)).known))++[(.slice x32.1.1 (((QaS s (gd l k)).ents).length) x32.1.2:Value),(.slice x32.2.1 (((QaS s (gd l k)).ticks).length) x32.2.2:Value) ]) QbU.1 hs 3 rfl rfl rfl rfl rfl (QQ8 rfl) (Qbl (QbO _) (Qau rfl (Qau rfl Qa1))) (Qaz rfl) fun w36 hs=>(Qae (Qab (Qaa (QaF (a:=(k:Int)) (b:=1) (c:=((k+1:Nat):Int)) rfl rfl (Qak (by omega) (by omega)) (Qaa (Qac (V:=I6 ((k+1:Nat):Int)) rfl (Qae ?_))))))))))))
   have ho:=hs.sel [0,1,2,3,4,9,10,7] (L':=[blk b1 (vc v) 24,blk b3 (((vc vzero)++[(.slice none 0 0:Value),(.slice none 0 0:Value) ])++[(.slice none 0 0:Value) ]++(vc vzero)) 43,row (.slice a9 ((QaC l v).length) c10) ((QaC l v).map oc) 98 23,blk b13 ((vc ((QaS s (gd l k)).known))++[(.slice x32.1.1 (((QaS s (gd l k)).ents).length) x32.1.2:Value),(.slice x32.2.1 (((QaS s (gd l k)).ticks).length) x32.2.2:Value) ]) 38,blk b15 (((vc vzero)++[(.slice none 0 0:Value),(.slice none 0 0:Value) ])++[(.slice ao O9.length co:Value) ]++(vc (vset u (((gd l k).dot).rep).toNat (max (vat u (((gd l k).dot).rep).toNat) (((gd l k).dot).seq))))) 43,row (.slice x32.1.1 (((QaS s (gd l k)).ents).length) x32.1.2) (((QaS s (gd l k)).ents).map cec) 106 7,row (.slice x32.2.1 (((QaS s (gd l k)).ticks).length) x32.2.2) (((QaS s (gd l k)).ticks).map lsc) 102 2,row (.slice ao O9.length co) (O9.map oc) 98 23]) (by decide) rfl
   replace hs:=ho
   refine ⟨_,?_,_,k+1,(QaS s (gd l k)),x32.1.1,x32.1.2,x32.2.1,x32.2.2,ao,co,O9,vset u (((gd l k).dot).rep).toNat (max (vat u (((gd l k).dot).rep).toNat) (((gd l k).dot).seq)),Qal (Qap (ds:=([5,9,10,11]++sq 30 41)) (by repeat (first|exact Agr.refl _ _|refine Agr.upd ?_ rfl|refine Agr.mix ?_ rfl))) rfl,(by omega),hst9.2,(Qrt hO9 (by omega) c25),(Qii hq hku (by omega)),(by omega),rfl,hs.take 8⟩
   omega
  replace c18:=QQ2 c18
  refine QaJ (Qag (Qab (Qaa (QaL (cs:=(vc s.known)++[(.slice ae s.ents.length ce:Value),(.slice at_ s.ticks.length ct:Value) ]) QbU hs 3 rfl rfl rfl (Qaa (Qaf Qfa rfl (Qaa (Qcx (V:=.agg ((vc s.known)++[(.slice ae s.ents.length ce:Value),(.slice at_ s.ticks.length ct:Value) ]).toArray) (vs:=(vc s.known)++[(.slice ae s.ents.length ce:Value),(.slice at_ s.ticks.length ct:Value) ]) (cs':=((vc s.known)++[(.slice ae s.ents.length ce:Value),(.slice at_ s.ticks.length ct:Value) ])++[(.slice ao O9.length co:Value) ]++(vc u)) QbU.1 hs 4 rfl rfl rfl rfl rfl (QQ8 rfl) (Qbl (QbO _) (Qau rfl (Qau rfl Qa1))) (Qn8 rfl) fun w37 hs=>(Qae (Qag (Qab (Qaa (QaL (cs:=((vc s.known)++[(.slice ae s.ents.length ce:Value),(.slice at_ s.ticks.length ct:Value) ])++[(.slice ao O9.length co:Value) ]++(vc u)) QcU hs 4 rfl rfl rfl (Qaa (Qcx (V:=.agg (((vc s.known)++[(.slice ae s.ents.length ce:Value),(.slice at_ s.ticks.length ct:Value) ])++[(.slice ao O9.length co:Value) ]++(vc u)).toArray) (vs:=((vc s.known)++[(.slice ae s.ents.length ce:Value),(.slice at_ s.ticks.length ct:Value) ])++[(.slice ao O9.length co:Value) ]++(vc u)) (cs':=((vc s.known)++[(.slice ae s.ents.length ce:Value),(.slice at_ s.ticks.length ct:Value) ])++[(.slice ao O9.length co:Value) ]++(vc u)) QcU.1 hs 1 rfl rfl rfl rfl rfl (QQ8 rfl) (Qbl (Qbl (Qbl (QbO _) (Qau rfl (Qau rfl Qa1))) (Qau rfl Qa1)) (QbO _)) (Qaz rfl) fun w38 hs=>(Qaa (Qad (V:=.bool true) rfl (Qae (Qaw ?_)))))))))))))))))))
  refine ⟨_,Qcm (cs:=((vc s.known)++[(.slice ae s.ents.length ce:Value),(.slice at_ s.ticks.length ct:Value) ])++[(.slice ao O9.length co:Value) ]++(vc u)) (V:=.bool true) Tryz.results28 QcU hs 1 rfl rfl rfl rfl,?_⟩
  obtain ⟨hX,hY⟩:=Qoa hk1.1 hk1.2 c11
  rw [hX,hY,Qo7 (by omega) hsk hO9 hku]
  have ho:=hs.sel [5,6,7] (L':=[row (.slice ae s.ents.length ce) (s.ents.map cec) 106 7,row (.slice at_ s.ticks.length ct) (s.ticks.map lsc) 102 2,row (.slice ao O9.length co) (O9.map oc) 98 23]) (by decide) rfl
  exact ⟨(((ae,ce),(at_,ct)),(ao,co)),rfl,ho,trivial⟩
 refine Qbw [some 12,some 13,some 14,some 15,some 16,some 17,some 18,some 19,some 20,some 21,some 22,some 23,some 24,some 25,some 26] [] [0,1,3,7,15,31,63,127,255,511,511,2047,4095,8191,16383] [pv (.slice a l.length ca),pv (.bool (QbR l)),pv (.bool (!(QbR l))),pv (.bool (!(QbR l))),pg ((!(QbR l)) == false) (.slice a l.length ca),pg ((!(QbR l)) == false) (I6 ((l.length:Nat):Int)),pg ((!(QbR l)) == false) (.bool (decide (30<((l.length:Nat):Int)))),pv (.bool true),pv (.bool true),pg false (.bool true),pg false (.bool true),pg false (.bool true),pg false (.bool true),pg false (.bool true),pv (.bool true)] (fun _ _=>_) [14] (by kernel_rfl) hs ⟨?_,?_,?_,?_,?_,?_,?_,?_,?_,?_,?_,?_,?_,?_,?_,trivial⟩ ?_
 ·exact oa [] fun D J w hs=>Qac (V:=.slice a l.length ca) rfl (Zz hs)
 ·exact oa [0] fun D J w hs=>Qat (vs:=[.slice a l.length ca]) (V:=.bool (QbR l)) QuL rfl rfl (QnU _ a ca l hl (Rd.own' hr hs)) hs fun _ hs=>Zz hs
 ·exact oa [1] fun D J w hs=>Qbz rfl (Zz hs)
 ·exact oa [2] fun D J w hs=>Qac (V:=.bool (!(QbR l))) rfl (Zz hs)
 ·exact og [3] fun D J w hG hs=>Qac (V:=.slice a l.length ca) rfl (Zz hs)
 ·exact oy [3,4] [4] fun D J w hG hs=>Qa3 (n:=l.length) Qco (Rd.own' hr hs) (by simp) rfl (Zz hs)
 ·exact oy [3,5] [5] fun D J w hG hs=>Qb2 rfl rfl (Zz hs)
 ·exact oa [3,6] fun D J w hs=>QaU (V:=.bool ((!(QbR l))||(decide (30<((l.length:Nat):Int))))) (V':=.bool true) (Qcs (h':=decide (30<((l.length:Nat):Int))) rfl rfl rfl ⟨rfl,rfl⟩) (congrArg Value.bool (Qqf hk1)) (Zz hs)
 ·exact oa [7] fun D J w hs=>Qac (V:=.bool true) rfl (Zz hs)
 ·exact obg [] [] true rfl (fun _=>rfl) rfl (fun _ _ _ _ h=>h) (fun _ _ _ h=>nomatch h)
 ·exact obg [] [] true rfl (fun _=>rfl) rfl (fun _ _ _ _ h=>h) (fun _ _ _ h=>nomatch h)
 ·exact obg [] [] true rfl (fun _=>rfl) rfl (fun _ _ _ _ h=>h) (fun _ _ _ h=>nomatch h)
 ·exact obg [] [] true rfl (fun _=>rfl) rfl (fun _ _ _ _ h=>h) (fun _ _ _ h=>nomatch h)
 ·exact obg [] [] true rfl (fun _=>rfl) rfl (fun _ _ _ _ h=>h) (fun _ _ _ h=>nomatch h)
 ·exact oa [8] fun D J w hs=>QcE (g:=true) (V:=.bool true) rfl rfl (Zz hs)
 rintro J1 w40 J2 hJ hs
 replace hJ:J2=upd (mix (sq 12 15) J1 _) 26 (.bool true):=hJ
 subst hJ
 refine QcN rfl ?_
 refine Qag (Qab (Qaa (QcC (vs:=[]) (cs:=((vc vzero)++[(.slice none 0 0:Value),(.slice none 0 0:Value) ])++[(.slice none 0 0:Value) ]++(vc vzero)) [(vc vzero)++[(.slice none 0 0:Value),(.slice none 0 0:Value) ],[(.slice none 0 0:Value)],vc vzero] [(vc vzero)++[(.slice none 0 0:Value),(.slice none 0 0:Value) ],[(.slice none 0 0:Value)],vc vzero] QqV rfl (rfl) rfl rfl (Qaa (Qcx (V:=.agg (((vc vzero)++[(.slice none 0 0:Value),(.slice none 0 0:Value) ])++[(.slice none 0 0:Value) ]++(vc vzero)).toArray) (vs:=((vc vzero)++[(.slice none 0 0:Value),(.slice none 0 0:Value) ])++[(.slice none 0 0:Value) ]++(vc vzero)) (cs':=((vc vzero)++[(.slice none 0 0:Value),(.slice none 0 0:Value) ])++[(.slice none 0 0:Value) ]++(vc vzero)) QcU.1 hs 1 rfl rfl rfl rfl rfl (QQ8 rfl) (Qbl (Qbl (Qbl (QbO _) (Qau rfl (Qau rfl Qa1))) (Qau rfl Qa1)) (QbO _)) (Qaz rfl) fun w41 hs=>(Qaa (Qad (V:=.bool false) rfl (Qae (Qaw ?_)))))))))
 refine ⟨_,Qcm (cs:=((vc vzero)++[(.slice none 0 0:Value),(.slice none 0 0:Value) ])++[(.slice none 0 0:Value) ]++(vc vzero)) (V:=.bool false) Tryz.results28 QcU hs 1 rfl rfl rfl rfl,?_⟩
 obtain ⟨hX,hY⟩:=QpN (v:=v) hk1
 rw [hX,hY]
 exact ⟨(((none,0),(none,0)),(none,0)),rfl,(((hs.take 0).more _ (Qbd _ _ 106 7)).more _ (Qbd _ _ 102 2)).more _ (Qbd _ _ 98 23),trivial⟩
end Tt
end Go.Proofs
namespace Go.Proofs
open Go Go.Vx Go.RowKit
namespace Tt
theorem QiA (w:World) (va:Int) (la:List Line) (ao:Bool) (at_:Int) (aa:Option Addr) (ca:Nat)  (n:Int) (hqa:Rd w (.slice aa la.length ca) 2 (la.map lc)):Calls Tryz.prog 30 #[.agg #[.int .u16 va,.slice aa la.length ca,.bool ao,.int .u32 at_],.int .u16 n] w (fun e w'=>e = .returned (.int .u32 (qL la n))/\Own w no w' []):=by
 refine Qai (n:=21) Tryz.func30 rfl Tryz.ntmps30 rfl ?_
 have hs:=Own.start w
 have hn1:=hqa.sml
 refine Qag (Qab (Qaa (Qa4 (V:=.agg #[I7 va,.slice aa la.length ca,.bool ao,.int .u32 at_]) (cs:=[I7 va,.slice aa la.length ca,.bool ao,.int .u32 at_]) rfl rfl hs fun b1 w2 hs=>(Qaa (Qad (V:=.int .u32 0) rfl (Qae (Qag (Qag (Qab (Qaa (Qaf Qev rfl (Qaa (QaQ (V:=.slice aa la.length ca) QiZ hs 0 rfl rfl rfl (Qaa (Qa3 (n:=la.length) Qdy (Rd.own' hqa hs) (by simp) rfl (Qaa (Qac (V:=I6 0) rfl (Qae (Qan (QaD (fun J μ J' w'=>∃ (Jo:Env) (k:Nat),J'=upd (mix ([4,6]++sq 10 11) Jo J) 10 (I6 (k:Int))/\(k<=la.length)/\(∀ j:Nat,j<k->decide ((gd la j).item=n)=false)/\μ=la.length-k/\Own w no w' [blk b1 [I7 va,.slice aa la.length ca,.bool ao,.int .u32 at_] 49]) ?_ ?_))))))))))))))))))))
 ·exact ⟨_,_,0,Qal (Qap (ds:=([4,6]++sq 10 11)) (Agr.refl _ _)) rfl,(by omega),(fun j hj=>absurd hj (Nat.not_lt_zero j)),rfl,hs⟩
 rintro μ J' w3 ⟨Jo,k,rfl,hk,hno,rfl,hs⟩
 refine Qag (Qab (Qaa (Qa2 rfl rfl (Qae (Qag (Qam (t:=decide ((k:Int)<((la.length:Nat):Int))) rfl (fun c4=>?_) (fun c4=>?_)))))))
 ·
  replace c4:=QQ1 c4
  refine Qao (Qag (Qan (Qag (Qab (Qaa (Qax Qdy Qct.1 (Rd.own' hqa hs) rfl rfl (by omega) (by rw [QQ6];omega) (Qaa (Qbb (j:=0) (vs:=lc (gd la k)) k Qct (Rd.own' hqa hs) (Qba (by omega)) rfl rfl rfl (by omega) (Qaa (QaK (cs:=lc (⟨0,0⟩:Line)) Qp7 rfl hs fun b5 w6 hs=>(Qaa (Qcx (V:=.agg (lc (gd la k)).toArray) (vs:=lc (gd la k)) (cs':=lc (gd la k)) Qct.1 hs 1 rfl rfl rfl rfl rfl (QQ8 rfl) (Qj6 _) (Qaz rfl) fun w7 hs=>(Qae (Qag (Qab (Qaa (Qaf Qdf rfl (Qaa (QaQ (V:=I7 ((gd la k).item)) Qar hs 1 rfl rfl rfl (Qaa (Qac (V:=I7 n) rfl (Qaa (QaZ rfl rfl (Qae (Qam (t:=decide ((gd la k).item=n)) rfl (fun c8=>?_) (fun c8=>?_))))))))))))))))))))))))))
  ·
   replace c8:=QQ1 c8
   refine Qag (Qab (Qaa (Qaf QeO rfl (Qaa (QaQ (V:=.int .u32 ((gd la k).qty)) QaX hs 1 rfl rfl rfl (Qaa (Qad (V:=.int .u32 ((gd la k).qty)) rfl (Qae (Qaw ?_)))))))))
   refine ⟨_,Qaq (V:=.int .u32 ((gd la k).qty)) Tryz.results30 rfl,(Zr hs ?_)⟩
   rw [QoM hno (by omega) c8]
  replace c8:=QQ2 c8
  refine Qao (Qab (Qaa (QaF (a:=(k:Int)) (b:=1) (c:=((k+1:Nat):Int)) rfl rfl (Qak (by omega) (by omega)) (Qaa (Qac (V:=I6 ((k+1:Nat):Int)) rfl (Qae ?_))))))
  refine ⟨_,?_,_,k+1,Qal (Qap (ds:=([4,6]++sq 10 11)) (by repeat (first|exact Agr.refl _ _|refine Agr.upd ?_ rfl|refine Agr.mix ?_ rfl))) rfl,(by omega),(QcO hno (QQ4 c8)),rfl,hs.take 1⟩
  omega
 replace c4:=QQ2 c4
 refine QaJ (Qag (Qab (Qaa (Qad (V:=.int .u32 0) rfl (Qae (Qaw ?_))))))
 refine ⟨_,Qaq (V:=.int .u32 0) Tryz.results30 rfl,(Zr hs ?_)⟩
 rw [Qvc fun j hj=>hno j (by omega)]
theorem QjP (w:World) (b:Bool):Calls Tryz.prog 32 #[.bool b] w (fun e w'=>e = .returned (.int .u32 (QcF b))/\Own w no w' []):=by
 refine Qai (n:=4) Tryz.func32 rfl Tryz.ntmps32 rfl ?_
 have hs:=Own.start w
 refine Qag (Qab (Qaa (Qad (V:=.int .u32 0) rfl (Qae (Qag (Qag (Qab (Qaa (Qac (V:=.bool b) rfl (Qae (Qam (t:=b) rfl (fun c1=>?_) (fun c1=>?_))))))))))))
 ·
  refine Qag (Qab (Qaa (Qad (V:=.int .u32 1) rfl (Qae (Qaw ?_)))))
  refine ⟨_,Qaq (V:=.int .u32 1) Tryz.results32 rfl,(Zr hs ?_)⟩
  cases b<;>simp_all [QcF]
 refine Qao (Qag (Qab (Qaa (Qad (V:=.int .u32 0) rfl (Qae (Qaw ?_))))))
 refine ⟨_,Qaq (V:=.int .u32 0) Tryz.results32 rfl,(Zr hs ?_)⟩
 cases b<;>simp_all [QcF]
theorem Qme (w:World) (a:Option Addr) (c:Nat) (l:List Dif) (x:Dif) (hr:Rd w (.slice a l.length c) 5 (l.map dfc)):Calls Tryz.prog 31 #[.slice a l.length c,.agg (dfc x).toArray] w (fun e w'=>e = .returned (.bool (l.any fun y=>decide (y=x)))/\Own w no w' []):=by
 refine Qai (n:=17) Tryz.func31 rfl Tryz.ntmps31 rfl ?_
 have hs:=Own.start w
 have hn:=hr.sml
 refine Qag (Qab (Qaa (Qa4 (V:=.agg (dfc x).toArray) (cs:=dfc x) rfl rfl hs fun b1 w2 hs=>(Qaa (Qad (V:=.bool false) rfl (Qae (Qag (Qag (Qab (Qaa (Qac (V:=.slice a l.length c) rfl (Qaa (Qa3 (n:=l.length) QkT (Rd.own' hr hs) (by simp) rfl (Qaa (Qac (V:=I6 0) rfl (Qae (Qan (QaD (fun J μ J' w'=>∃ (Jo:Env) (k:Nat),J'=upd (mix ([4,6]++sq 9 8) Jo J) 9 (I6 (k:Int))/\(k<=l.length)/\(∀ j:Nat,j<k->decide (gd l j=x)=false)/\μ=l.length-k/\Own w no w' [blk b1 (dfc x) 83]) ?_ ?_))))))))))))))))))
 ·exact ⟨_,_,0,Qal (Qap (ds:=([4,6]++sq 9 8)) (Agr.refl _ _)) rfl,(by omega),(fun j hj=>absurd hj (Nat.not_lt_zero j)),rfl,hs⟩
 rintro μ J' w3 ⟨Jo,k,rfl,hk,hno,rfl,hs⟩
 refine Qag (Qab (Qaa (Qa2 rfl rfl (Qae (Qag (Qam (t:=decide ((k:Int)<((l.length:Nat):Int))) rfl (fun c4=>?_) (fun c4=>?_)))))))
 ·
  replace c4:=QQ1 c4
  refine Qao (Qag (Qan (Qag (Qab (Qaa (Qax QkT QfF.1 (Rd.own' hr hs) rfl rfl (by omega) (by rw [QQ6];omega) (Qaa (Qbb (j:=0) (vs:=dfc (gd l k)) k QfF (Rd.own' hr hs) (Qba (by omega)) rfl rfl rfl (by omega) (Qaa (QaK (cs:=dfc (⟨0,0,false,0,0⟩:Dif)) Qud rfl hs fun b5 w6 hs=>(Qaa (Qcx (V:=.agg (dfc (gd l k)).toArray) (vs:=dfc (gd l k)) (cs':=dfc (gd l k)) QfF.1 hs 1 rfl rfl rfl rfl rfl (QQ8 rfl) (Qhg _) (Qaz rfl) fun w7 hs=>(Qae (Qag (Qab (Qaa (QaL (cs:=dfc (gd l k)) QfF hs 1 rfl rfl rfl (Qaa (QaL (cs:=dfc x) QfF hs 0 rfl rfl rfl (Qaa (QoR (xs:=dfc (gd l k)) (ys:=dfc x) Tryz.eqGuardType83 (Quz (gd l k) x) rfl rfl rfl (Qae (Qam (t:=decide (gd l k=x)) rfl (fun c8=>?_) (fun c8=>?_))))))))))))))))))))))))
  ·
   replace c8:=QQ1 c8
   refine Qag (Qab (Qaa (Qad (V:=.bool true) rfl (Qae (Qaw ?_)))))
   refine ⟨_,Qaq (V:=.bool true) Tryz.results31 rfl,(Zr hs ?_)⟩
   exact congrArg Value.bool (QqC (p:=fun y=>decide (y=x)) (k:=k) (by omega) (QQ3 c8)).symm
  replace c8:=QQ2 c8
  refine Qao (Qab (Qaa (QaF (a:=(k:Int)) (b:=1) (c:=((k+1:Nat):Int)) rfl rfl (Qak (by omega) (by omega)) (Qaa (Qac (V:=I6 ((k+1:Nat):Int)) rfl (Qae ?_))))))
  refine ⟨_,?_,_,k+1,Qal (Qap (ds:=([4,6]++sq 9 8)) (by repeat (first|exact Agr.refl _ _|refine Agr.upd ?_ rfl|refine Agr.mix ?_ rfl))) rfl,(by omega),(QcO hno (QQ4 c8)),rfl,hs.take 1⟩
  omega
 replace c4:=QQ2 c4
 refine QaJ (Qag (Qab (Qaa (Qad (V:=.bool false) rfl (Qae (Qaw ?_))))))
 refine ⟨_,Qaq (V:=.bool false) Tryz.results31 rfl,(Zr hs ?_)⟩
 exact congrArg Value.bool (Qkw (p:=fun y=>decide (y=x)) fun j hj=>hno j (by omega)).symm
end Tt
end Go.Proofs
namespace Go.Proofs
open Go Go.Vx Go.RowKit
namespace Tt
theorem cutsBetween_ok (w:World) (a:Option Addr) (ca:Nat) (l:List Opn) (hl:∀ o∈l,Qcc o) (hr:Rd w (.slice a l.length ca) 23 (l.map oc)) (hsortE:QgH Tryz.prog 48 49 cec 106 7 QkG) (hsortU:QgC Tryz.prog 134 .u16 32) (v0 v1 v2:Vec) (h0:QbM v0) (h1:QbM v1) (h2:QbM v2):Calls Tryz.prog 6 #[.slice a l.length ca,.agg ((vc v0)++(vc v1)++(vc v2)).toArray] w (fun e w'=>e = .returned (.bool true)/\Own w no w' []):=by
 refine Qai (n:=129) Tryz.func6 rfl Tryz.ntmps6 rfl ?_
 have hs:=Own.start w
 have hn:=hr.sml
 refine Qag (Qab (Qaa (Qa4 (V:=.agg ((vc v0)++(vc v1)++(vc v2)).toArray) (cs:=(vc v0)++(vc v1)++(vc v2)) rfl rfl hs fun b1 w2 hs=>(Qaa (Qad (V:=.bool false) rfl (Qae (Qag (Qag (Qab (Qaa (Qat (vs:=[]) (V:=.bool true) QuR rfl rfl ?hc hs fun w3 hs=>?_)))))))))))
 case hc=>exact (Qlv _ hsortE hsortU)
 refine Qaa (Qbz rfl (Qae (QbV rfl ?_)))
 refine Qao (Qag (Qab (Qaa (Qac (V:=.slice a l.length ca) rfl (Qaa (Qhn Qrj Qbk.1 rfl rfl (by decide) (by decide) (Qaa (QbY (vs:=vc v0) Qbk hs 0 rfl rfl rfl (Qr8 (k:=16) rfl) (Qaa (Qbm (α:=((Option Addr × Nat) × (Option Addr × Nat)) × (Option Addr × Nat)) (vs:=[.slice a l.length ca,.agg (vc v0).toArray]) (V:=fun x=>.tuple #[.agg ((vc (Qaj l v0).base.known++[(.slice x.1.1.1 (Qaj l v0).base.ents.length x.1.1.2:Value),(.slice x.1.2.1 (Qaj l v0).base.ticks.length x.1.2.2:Value)])++[(.slice x.2.1 (Qaj l v0).ops.length x.2.2:Value)]++vc (Qaj l v0).known).toArray,.bool (QdR l v0)]) (Lo:=fun x=>[row (.slice x.1.1.1 (Qaj l v0).base.ents.length x.1.1.2) ((Qaj l v0).base.ents.map cec) 106 7,row (.slice x.1.2.1 (Qaj l v0).base.ticks.length x.1.2.2) ((Qaj l v0).base.ticks.map lsc) 102 2,row (.slice x.2.1 (Qaj l v0).ops.length x.2.2) ((Qaj l v0).ops.map oc) 98 23]) (F:=fun _ _=>True) Qvr rfl rfl ?hc hs fun x4 w5 hs _=>?_))))))))))
 case hc=>exact (Qr6 _ a ca l v0 hl (Rd.own' hr hs))
 refine Qaa (Qac (V:=.tuple #[.agg (((vc ((Qaj l v0).base.known))++[(.slice x4.1.1.1 ((Qaj l v0).base.ents.length) x4.1.1.2:Value),(.slice x4.1.2.1 ((Qaj l v0).base.ticks.length) x4.1.2.2:Value) ])++[(.slice x4.2.1 ((Qaj l v0).ops.length) x4.2.2:Value) ]++(vc ((Qaj l v0).known))).toArray,.bool (QdR l v0)]) rfl (Qaa (QaA (V:=.agg (((vc ((Qaj l v0).base.known))++[(.slice x4.1.1.1 ((Qaj l v0).base.ents.length) x4.1.1.2:Value),(.slice x4.1.2.1 ((Qaj l v0).base.ticks.length) x4.1.2.2:Value) ])++[(.slice x4.2.1 ((Qaj l v0).ops.length) x4.2.2:Value) ]++(vc ((Qaj l v0).known))).toArray) rfl rfl (Qaa (QaA (V:=.bool (QdR l v0)) rfl rfl (Qaa (QaK (cs:=((vc vzero)++[(.slice none 0 0:Value),(.slice none 0 0:Value) ])++[(.slice none 0 0:Value) ]++(vc vzero)) QoI rfl hs fun b6 w7 hs=>(Qaa (Qcx (V:=.agg (((vc ((Qaj l v0).base.known))++[(.slice x4.1.1.1 ((Qaj l v0).base.ents.length) x4.1.1.2:Value),(.slice x4.1.2.1 ((Qaj l v0).base.ticks.length) x4.1.2.2:Value) ])++[(.slice x4.2.1 ((Qaj l v0).ops.length) x4.2.2:Value) ]++(vc ((Qaj l v0).known))).toArray) (vs:=((vc ((Qaj l v0).base.known))++[(.slice x4.1.1.1 ((Qaj l v0).base.ents.length) x4.1.1.2:Value),(.slice x4.1.2.1 ((Qaj l v0).base.ticks.length) x4.1.2.2:Value) ])++[(.slice x4.2.1 ((Qaj l v0).ops.length) x4.2.2:Value) ]++(vc ((Qaj l v0).known))) (cs':=((vc ((Qaj l v0).base.known))++[(.slice x4.1.1.1 ((Qaj l v0).base.ents.length) x4.1.1.2:Value),(.slice x4.1.2.1 ((Qaj l v0).base.ticks.length) x4.1.2.2:Value) ])++[(.slice x4.2.1 ((Qaj l v0).ops.length) x4.2.2:Value) ]++(vc ((Qaj l v0).known))) QcU.1 hs 4 rfl rfl rfl rfl rfl (QQ8 rfl) (Qbl (Qbl (Qbl (QbO _) (Qau rfl (Qau rfl Qa1))) (Qau rfl Qa1)) (QbO _)) (Qaz rfl) fun w8 hs=>?_)))))))))
 replace hs:Own w no w8 [blk b1 ((vc v0)++(vc v1)++(vc v2)) 76,row (.slice x4.1.1.1 ((Qaj l v0).base.ents.length) x4.1.1.2) (((Qaj l v0).base.ents).map cec) 106 7,row (.slice x4.1.2.1 ((Qaj l v0).base.ticks.length) x4.1.2.2) (((Qaj l v0).base.ticks).map lsc) 102 2,row (.slice x4.2.1 ((Qaj l v0).ops.length) x4.2.2) (((Qaj l v0).ops).map oc) 98 23,blk b6 (((vc ((Qaj l v0).base.known))++[(.slice x4.1.1.1 ((Qaj l v0).base.ents.length) x4.1.1.2:Value),(.slice x4.1.2.1 ((Qaj l v0).base.ticks.length) x4.1.2.2:Value) ])++[(.slice x4.2.1 ((Qaj l v0).ops.length) x4.2.2:Value) ]++(vc ((Qaj l v0).known))) 43]:=hs
 refine Qaa (Qad (V:=.bool (QdR l v0)) rfl (Qae (Qag (Qag (Qab (Qaa (Qac (V:=.bool (QdR l v0)) rfl (Qaa (Qbz rfl (Qae (Qam (t:=!(QdR l v0)) rfl (fun c9=>?_) (fun c9=>?_))))))))))))
 ·
  replace c9:=Qby c9
  refine Qag (Qab (Qaa (Qad (V:=.bool true) rfl (Qae (Qaw ?_)))))
  refine ⟨_,Qaq (V:=.bool true) Tryz.results6 rfl,(Zr hs ?_)⟩
  rfl
 replace c9:=Qbu c9
 refine Qao (Qag ?_)
 replace hs:=hs.more emp trivial
 replace hs:=hs.more emp trivial
 refine QaH HM [some 32,some 33,some 34,some 35,some 7,some 8,none,none] [[],[],[],[],[7],[8]] [0,1,0,4,0,0,51,127] [pv (Pq b1 (0+16)),pv (.agg (vc v1).toArray),pv (Pq b1 (0+32)),pv (.agg (vc v2).toArray),(true,fun J=>.pointer (some ⟨(bOf (J 7)),0,none⟩)),(true,fun J=>.pointer (some ⟨(bOf (J 8)),0,none⟩)),pn,pn] (fun D J=>[blk b1 ((vc v0)++(vc v1)++(vc v2)) 76,row (.slice x4.1.1.1 ((Qaj l v0).base.ents.length) x4.1.1.2) (((Qaj l v0).base.ents).map cec) 106 7,row (.slice x4.1.2.1 ((Qaj l v0).base.ticks.length) x4.1.2.2) (((Qaj l v0).base.ticks).map lsc) 102 2,row (.slice x4.2.1 ((Qaj l v0).ops.length) x4.2.2) (((Qaj l v0).ops).map oc) 98 23,blk b6 (((vc ((Qaj l v0).base.known))++[(.slice x4.1.1.1 ((Qaj l v0).base.ents.length) x4.1.1.2:Value),(.slice x4.1.2.1 ((Qaj l v0).base.ticks.length) x4.1.2.2:Value) ])++[(.slice x4.2.1 ((Qaj l v0).ops.length) x4.2.2:Value) ]++(vc ((Qaj l v0).known))) 43,cond (D 6) (blk (bOf (J 7)) (vc v1) 24) (cond (D 4) (blk (bOf (J 7)) (vc vzero) 24) (emp)),cond (D 7) (blk (bOf (J 8)) (vc v2) 24) (cond (D 5) (blk (bOf (J 8)) (vc vzero) 24) (emp))]) [5,4] (by kernel_rfl) hs ⟨?_,?_,?_,?_,?_,?_,?_,?_,trivial⟩ ?_
 ·exact oa [] fun D J w hs=>Qhn Qrj Qbk.1 rfl rfl (by decide) (by decide) (Zz hs)
 ·exact oa [0] fun D J w hs=>QbY (vs:=vc v1) Qbk hs 0 rfl rfl rfl (Qre (k:=16) rfl rfl) (Zz hs)
 ·exact oa [] fun D J w hs=>Qhn Qrj Qbk.1 rfl rfl (by decide) (by decide) (Zz hs)
 ·exact oa [2] fun D J w hs=>QbY (vs:=vc v2) Qbk hs 0 rfl rfl rfl (Qr7 (k:=16) rfl rfl rfl) (Zz hs)
 ·exact ob [] [6] rfl rfl fun D J w hs=>QaK (cs:=vc vzero) Qpa rfl hs fun _ _ hs=>⟨rfl,hs.put 5 (QQ8 rfl)⟩
 ·exact ob [] [7] rfl rfl fun D J w hs=>QaK (cs:=vc vzero) Qpa rfl hs fun _ _ hs=>⟨rfl,hs.put 6 (QQ8 rfl)⟩
 ·exact oa [1,4] fun D J w hs=>Qcx (V:=.agg (vc v1).toArray) (vs:=vc v1) (cs':=vc v1) Qbk.1 hs 5 rfl rfl rfl rfl rfl (QQ8 rfl) (QbO _) (Qaz rfl) fun _ hs=>⟨trivial,hs⟩
 ·exact oa [3,5] fun D J w hs=>Qcx (V:=.agg (vc v2).toArray) (vs:=vc v2) (cs':=vc v2) Qbk.1 hs 6 rfl rfl rfl rfl rfl (QQ8 rfl) (QbO _) (Qaz rfl) fun _ hs=>⟨trivial,hs⟩
 rintro J1 w14 J2 hJ hs
 replace hJ:J2=upd (upd (mix [32,33,34,35,7,8] J1 _) 7 (.pointer (some ⟨(bOf (J1 7)),0,none⟩))) 8 (.pointer (some ⟨(bOf (J1 8)),0,none⟩)):=hJ
 replace hs:Own w no w14 [blk b1 ((vc v0)++(vc v1)++(vc v2)) 76,row (.slice x4.1.1.1 ((Qaj l v0).base.ents.length) x4.1.1.2) (((Qaj l v0).base.ents).map cec) 106 7,row (.slice x4.1.2.1 ((Qaj l v0).base.ticks.length) x4.1.2.2) (((Qaj l v0).base.ticks).map lsc) 102 2,row (.slice x4.2.1 ((Qaj l v0).ops.length) x4.2.2) (((Qaj l v0).ops).map oc) 98 23,blk b6 (((vc ((Qaj l v0).base.known))++[(.slice x4.1.1.1 ((Qaj l v0).base.ents.length) x4.1.1.2:Value),(.slice x4.1.2.1 ((Qaj l v0).base.ticks.length) x4.1.2.2:Value) ])++[(.slice x4.2.1 ((Qaj l v0).ops.length) x4.2.2:Value) ]++(vc ((Qaj l v0).known))) 43,blk (bOf (J1 7)) (vc v1) 24,blk (bOf (J1 8)) (vc v2) 24]:=hs
 generalize (bOf (J1 7))=b15 at hJ hs
 generalize (bOf (J1 8))=b16 at hJ hs
 subst hJ
 refine Qag ?_
 have hp:=Qus hl c9
 refine Qab (Qaa (QaL (cs:=((vc ((Qaj l v0).base.known))++[(.slice x4.1.1.1 ((Qaj l v0).base.ents.length) x4.1.1.2:Value),(.slice x4.1.2.1 ((Qaj l v0).base.ticks.length) x4.1.2.2:Value) ])++[(.slice x4.2.1 ((Qaj l v0).ops.length) x4.2.2:Value) ]++(vc ((Qaj l v0).known))) QcU hs 4 rfl rfl rfl (Qaa (QaL (cs:=vc v1) Qbk hs 5 rfl rfl rfl (Qaa (QaL (cs:=vc v2) Qbk hs 6 rfl rfl rfl (Qaa (Qbm (vs:=[.agg (((vc ((Qaj l v0).base.known))++[(.slice x4.1.1.1 ((Qaj l v0).base.ents.length) x4.1.1.2:Value),(.slice x4.1.2.1 ((Qaj l v0).base.ticks.length) x4.1.2.2:Value) ])++[(.slice x4.2.1 ((Qaj l v0).ops.length) x4.2.2:Value) ]++(vc ((Qaj l v0).known))).toArray,.agg (vc v1).toArray,.agg (vc v2).toArray]) (V:=fun x:Option Addr × Nat=>.tuple #[.slice x.1 (Qa6 (Qaj l v0) v1 v2).length x.2,I6 (QbK (Qaj l v0) v1 v2)]) Qrq rfl rfl (Qhs _ (Qaj l v0) x4.1.1.1 x4.1.1.2 x4.1.2.1 x4.1.2.2 x4.2.1 x4.2.2 v1 v2 h1 h2 hsortE hsortU hp.ok hp.le hp.lt hp.lo (hs.rd 1 rfl) (hs.rd 2 rfl) (hs.rd 3 rfl)) hs fun x18 w17 hs _=>(Qaa (Qac (V:=.tuple #[.slice x18.1 ((Qa6 (Qaj l v0) v1 v2).length) x18.2,I6 (QbK (Qaj l v0) v1 v2)]) rfl (Qaa (QaA (V:=.slice x18.1 ((Qa6 (Qaj l v0) v1 v2).length) x18.2) rfl rfl (Qaa (QaA (V:=I6 (QbK (Qaj l v0) v1 v2)) rfl rfl (Qaa (Qad (V:=.slice x18.1 ((Qa6 (Qaj l v0) v1 v2).length) x18.2) rfl (Qaa (Qad (V:=I6 (QbK (Qaj l v0) v1 v2)) rfl (Qae (Qag (Qag (Qab (Qaa (Qac (V:=I6 (QbK (Qaj l v0) v1 v2)) rfl (Qaa (Qcv rfl rfl (Qae (Qam (t:=!decide (QbK (Qaj l v0) v1 v2=0)) rfl (fun c19=>?_) (fun c19=>?_)))))))))))))))))))))))))))))
 ·
  replace c19:=Qby c19
  replace c19:=QQ2 c19
  refine Qag (Qab (Qaa (Qac (V:=.slice x18.1 ((Qa6 (Qaj l v0) v1 v2).length) x18.2) rfl (Qaa (Qa3 (n:=(Qa6 (Qaj l v0) v1 v2).length) QkT (hs.rd 7 rfl) (by simp) rfl (Qaa (QaU (V:=.bool (decide ((((Qa6 (Qaj l v0) v1 v2).length:Nat):Int)=0))) (V':=.bool true) (QaZ rfl rfl ⟨rfl,rfl⟩) (congrArg Value.bool (by rw [QhJ c19];rfl)) (Qaa (Qad (V:=.bool true) rfl (Qae (Qaw ?_)))))))))))
  refine ⟨_,Qaq (V:=.bool true) Tryz.results6 rfl,(Zr hs ?_)⟩
  rfl
 replace c19:=Qbu c19
 replace c19:=QQ1 c19
 refine Qao (Qag ?_)
 have hdz:QbK (Qaj l v0) v1 v2=0:=c19
 have hsf:=QnW hdz
 have hdd:=Qf9 hdz
 refine Qab (Qaa (QaL (cs:=((vc ((Qaj l v0).base.known))++[(.slice x4.1.1.1 ((Qaj l v0).base.ents.length) x4.1.1.2:Value),(.slice x4.1.2.1 ((Qaj l v0).base.ticks.length) x4.1.2.2:Value) ])++[(.slice x4.2.1 ((Qaj l v0).ops.length) x4.2.2:Value) ]++(vc ((Qaj l v0).known))) QcU hs 4 rfl rfl rfl (Qaa (QaL (cs:=vc v1) Qbk hs 5 rfl rfl rfl (Qaa (QaL (cs:=vc v1) Qbk hs 5 rfl rfl rfl (Qaa (Qbm (vs:=[.agg (((vc ((Qaj l v0).base.known))++[(.slice x4.1.1.1 ((Qaj l v0).base.ents.length) x4.1.1.2:Value),(.slice x4.1.2.1 ((Qaj l v0).base.ticks.length) x4.1.2.2:Value) ])++[(.slice x4.2.1 ((Qaj l v0).ops.length) x4.2.2:Value) ]++(vc ((Qaj l v0).known))).toArray,.agg (vc v1).toArray,.agg (vc v1).toArray]) (V:=fun x:Option Addr × Nat=>.tuple #[.slice x.1 (Qa6 (Qaj l v0) v1 v1).length x.2,I6 (QbK (Qaj l v0) v1 v1)]) Qrq rfl rfl (Qhs _ (Qaj l v0) x4.1.1.1 x4.1.1.2 x4.1.2.1 x4.1.2.2 x4.2.1 x4.2.2 v1 v1 h1 h1 hsortE hsortU hp.ok hp.le hp.lt hp.lo (hs.rd 1 rfl) (hs.rd 2 rfl) (hs.rd 3 rfl)) hs fun x21 w20 hs _=>(Qaa (Qac (V:=.tuple #[.slice x21.1 ((Qa6 (Qaj l v0) v1 v1).length) x21.2,I6 (QbK (Qaj l v0) v1 v1)]) rfl (Qaa (QaA (V:=.slice x21.1 ((Qa6 (Qaj l v0) v1 v1).length) x21.2) rfl rfl (Qaa (QaA (V:=I6 (QbK (Qaj l v0) v1 v1)) rfl rfl (Qaa (Qad (V:=.slice x21.1 ((Qa6 (Qaj l v0) v1 v1).length) x21.2) rfl (Qaa (Qad (V:=I6 (QbK (Qaj l v0) v1 v1)) rfl (Qae (Qag (Qag (Qbw [some 55,some 56,some 57,some 58,some 59,some 60,some 61,some 62,some 63,some 64,some 65,some 66,some 67] [] [0,1,3,7,15,31,63,127,255,255,1023,2047,4095] [pv (I6 (QbK (Qaj l v0) v1 v1)),pv (.bool false),pv (.bool false),pv (.slice x21.1 ((Qa6 (Qaj l v0) v1 v1).length) x21.2),pv (I6 (((Qa6 (Qaj l v0) v1 v1).length:Nat):Int)),pv (.bool false),pv (.bool false),pv (.bool false),pv (.agg (vc v1).toArray),pv (.agg (vc v2).toArray),pv (.bool (vle v1 v2)),pv (.bool false),pv (.bool false)] (fun _ _=>_) [12] (by kernel_rfl) hs ⟨?_,?_,?_,?_,?_,?_,?_,?_,?_,?_,?_,?_,?_,trivial⟩ ?_))))))))))))))))))))))
 ·exact oa [] fun D J w hs=>Qac (V:=.int .i64 (QbK (Qaj l v0) v1 v1)) rfl (Zz hs)
 ·exact oa [0] fun D J w hs=>QaU (V:=.bool (!decide (QbK (Qaj l v0) v1 v1=0))) (V':=.bool false) (Qcv rfl rfl ⟨rfl,rfl⟩) (congrArg Value.bool (by rw [hsf.1];rfl)) (Zz hs)
 ·exact oa [1] fun D J w hs=>Qac (V:=.bool false) rfl (Zz hs)
 ·exact obg [2] [] false rfl (fun _=>rfl) rfl (fun _ _ _ h=>nomatch h) fun D J w _ hs=>Qac (V:=.slice x21.1 ((Qa6 (Qaj l v0) v1 v1).length) x21.2) rfl (Zz hs)
 ·exact obg [2,3] [] false rfl (fun _=>rfl) rfl (fun _ _ _ h=>nomatch h) fun D J w _ hs=>Qa3 (n:=(Qa6 (Qaj l v0) v1 v1).length) QkT (hs.rd 8 rfl) (by simp) rfl (Zz hs)
 ·exact obg [2,4] [] false rfl (fun _=>rfl) rfl (fun _ _ _ h=>nomatch h) fun D J w _ hs=>QaU (V:=.bool (!decide ((((Qa6 (Qaj l v0) v1 v1).length:Nat):Int)=0))) (V':=.bool false) (Qcv rfl rfl ⟨rfl,rfl⟩) (congrArg Value.bool (by rw [hsf.2];rfl)) (Zz hs)
 ·exact oa [2,5] fun D J w hs=>QcE (V:=.bool false) rfl rfl (Zz hs)
 ·exact oa [6] fun D J w hs=>Qac (V:=.bool false) rfl (Zz hs)
 ·exact obg [7] [] false rfl (fun _=>rfl) rfl (fun _ _ _ h=>nomatch h) fun D J w _ hs=>QaL (cs:=vc v1) Qbk hs 5 rfl rfl rfl (Zz hs)
 ·exact obg [7] [] false rfl (fun _=>rfl) rfl (fun _ _ _ h=>nomatch h) fun D J w _ hs=>QaL (cs:=vc v2) Qbk hs 6 rfl rfl rfl (Zz hs)
 ·exact obg [7,8,9] [] false rfl (fun _=>rfl) rfl (fun _ _ _ h=>nomatch h) fun D J w _ hs=>Qat (vs:=[.agg (vc v1).toArray,.agg (vc v2).toArray]) (V:=.bool (vle v1 v2)) QqX rfl rfl (Qgd _ v1 v2) hs fun _ hs=>Zz hs
 ·exact obg [7,10] [] false rfl (fun _=>rfl) rfl (fun _ _ _ h=>nomatch h) fun D J w _ hs=>QaU (V:=.bool (!(vle v1 v2))) (V':=.bool false) (Qbz rfl ⟨rfl,rfl⟩) (congrArg Value.bool (by rw [hdd.2.2];rfl)) (Zz hs)
 ·exact oa [7,11] fun D J w hs=>QcE (V:=.bool false) rfl rfl (Zz hs)
 rintro J1 w23 J2 hJ hs
 replace hJ:J2=upd (mix (sq 55 13) J1 _) 67 (.bool false):=hJ
 subst hJ
 refine QbV rfl ?_
 refine Qao (Qag (Qag (Qab (Qaa (Qac (V:=I7 0) rfl (Qae (Qan (QaD (fun J μ J' w'=>∃ (Jo:Env) (n:Int),J'=upd (mix ([4]++sq 13 8++sq 68 61) Jo J) 68 (I7 n)/\(0<=n/\n<=4)/\μ=(4-n).toNat/\Own w no w' [blk b1 ((vc v0)++(vc v1)++(vc v2)) 76,row (.slice x4.1.1.1 ((Qaj l v0).base.ents.length) x4.1.1.2) (((Qaj l v0).base.ents).map cec) 106 7,row (.slice x4.1.2.1 ((Qaj l v0).base.ticks.length) x4.1.2.2) (((Qaj l v0).base.ticks).map lsc) 102 2,row (.slice x4.2.1 ((Qaj l v0).ops.length) x4.2.2) (((Qaj l v0).ops).map oc) 98 23,blk b6 (((vc ((Qaj l v0).base.known))++[(.slice x4.1.1.1 ((Qaj l v0).base.ents.length) x4.1.1.2:Value),(.slice x4.1.2.1 ((Qaj l v0).base.ticks.length) x4.1.2.2:Value) ])++[(.slice x4.2.1 ((Qaj l v0).ops.length) x4.2.2:Value) ]++(vc ((Qaj l v0).known))) 43,blk b15 (vc v1) 24,blk b16 (vc v2) 24,row (.slice x18.1 ((Qa6 (Qaj l v0) v1 v2).length) x18.2) ((Qa6 (Qaj l v0) v1 v2).map dfc) 83 5,row (.slice x21.1 ((Qa6 (Qaj l v0) v1 v1).length) x21.2) ((Qa6 (Qaj l v0) v1 v1).map dfc) 83 5]) ?_ ?_))))))))
 ·exact ⟨_,_,0,Qal (Qap (ds:=([4]++sq 13 8++sq 68 61)) (Agr.refl _ _)) rfl,(by omega),rfl,hs⟩
 rintro μ J' w24 ⟨Jo,n,rfl,hn9,rfl,hs⟩
 refine Qag (Qab (Qaa (Qa2 rfl rfl (Qae (Qag (Qam (t:=decide (n<4)) rfl (fun c25=>?_) (fun c25=>?_)))))))
 ·
  replace c25:=QQ1 c25
  refine Qao (Qag (Qan (Qag (Qab (Qaa (Qac (V:=I7 n) rfl (Qaa (Qad (V:=I7 n) rfl (Qae (Qag (Qab (Qaa (QaL (cs:=((vc ((Qaj l v0).base.known))++[(.slice x4.1.1.1 ((Qaj l v0).base.ents.length) x4.1.1.2:Value),(.slice x4.1.2.1 ((Qaj l v0).base.ticks.length) x4.1.2.2:Value) ])++[(.slice x4.2.1 ((Qaj l v0).ops.length) x4.2.2:Value) ]++(vc ((Qaj l v0).known))) QcU hs 4 rfl rfl rfl (Qaa (QaL (cs:=vc v1) Qbk hs 5 rfl rfl rfl (Qaa (Qac (V:=I7 n) rfl (Qaa (Qbm (α:=Option Addr × Nat) (vs:=[.agg (((vc ((Qaj l v0).base.known))++[(.slice x4.1.1.1 ((Qaj l v0).base.ents.length) x4.1.1.2:Value),(.slice x4.1.2.1 ((Qaj l v0).base.ticks.length) x4.1.2.2:Value) ])++[(.slice x4.2.1 ((Qaj l v0).ops.length) x4.2.2:Value) ]++(vc ((Qaj l v0).known))).toArray,.agg (vc v1).toArray,I7 n]) (V:=fun x=>.tuple #[.agg #[I7 ((Qas (Qaj l v0) v1 n).cart),.slice x.1 (((Qas (Qaj l v0) v1 n).lines).length) x.2,.bool ((Qas (Qaj l v0) v1 n).out),.int .u32 ((Qas (Qaj l v0) v1 n).tick)],I6 (Qbh (Qaj l v0) v1)]) (Lo:=fun x=>[row (.slice x.1 ((Qas (Qaj l v0) v1 n).lines).length x.2) (((Qas (Qaj l v0) v1 n).lines).map lc) 127 2]) (F:=fun _ _=>True) QpY rfl rfl ?hc hs fun x27 w26 hs _=>?_)))))))))))))))))))
  case hc=>exact (QfG _ (Qaj l v0) x4.1.1.1 x4.1.1.2 x4.1.2.1 x4.1.2.2 x4.2.1 x4.2.2 v1 h1 n hsortE hsortU hp.ok hp.le hp.lt hp.lo (hs.rd 1 rfl) (hs.rd 2 rfl) (hs.rd 3 rfl))
  refine Qaa (Qac (V:=.tuple #[.agg #[I7 ((Qas (Qaj l v0) v1 n).cart),.slice x27.1 (((Qas (Qaj l v0) v1 n).lines).length) x27.2,.bool ((Qas (Qaj l v0) v1 n).out),.int .u32 ((Qas (Qaj l v0) v1 n).tick)],I6 (Qbh (Qaj l v0) v1)]) rfl (Qaa (QaA (V:=.agg #[I7 ((Qas (Qaj l v0) v1 n).cart),.slice x27.1 (((Qas (Qaj l v0) v1 n).lines).length) x27.2,.bool ((Qas (Qaj l v0) v1 n).out),.int .u32 ((Qas (Qaj l v0) v1 n).tick)]) rfl rfl (Qaa (QaA (V:=I6 (Qbh (Qaj l v0) v1)) rfl rfl (Qaa (QaK (cs:=[I7 0,.slice none 0 0,.bool false,.int .u32 0]) QhV rfl hs fun b28 w29 hs=>?_)))))))
  replace hs:Own w no w29 [blk b1 ((vc v0)++(vc v1)++(vc v2)) 76,row (.slice x4.1.1.1 ((Qaj l v0).base.ents.length) x4.1.1.2) (((Qaj l v0).base.ents).map cec) 106 7,row (.slice x4.1.2.1 ((Qaj l v0).base.ticks.length) x4.1.2.2) (((Qaj l v0).base.ticks).map lsc) 102 2,row (.slice x4.2.1 ((Qaj l v0).ops.length) x4.2.2) (((Qaj l v0).ops).map oc) 98 23,blk b6 (((vc ((Qaj l v0).base.known))++[(.slice x4.1.1.1 ((Qaj l v0).base.ents.length) x4.1.1.2:Value),(.slice x4.1.2.1 ((Qaj l v0).base.ticks.length) x4.1.2.2:Value) ])++[(.slice x4.2.1 ((Qaj l v0).ops.length) x4.2.2:Value) ]++(vc ((Qaj l v0).known))) 43,blk b15 (vc v1) 24,blk b16 (vc v2) 24,row (.slice x18.1 ((Qa6 (Qaj l v0) v1 v2).length) x18.2) ((Qa6 (Qaj l v0) v1 v2).map dfc) 83 5,row (.slice x21.1 ((Qa6 (Qaj l v0) v1 v1).length) x21.2) ((Qa6 (Qaj l v0) v1 v1).map dfc) 83 5,row (.slice x27.1 (((Qas (Qaj l v0) v1 n).lines).length) x27.2) (((Qas (Qaj l v0) v1 n).lines).map lc) 127 2,blk b28 [I7 0,.slice none 0 0,.bool false,.int .u32 0] 49]:=hs
  refine Qaa (Qcx (V:=.agg #[I7 ((Qas (Qaj l v0) v1 n).cart),.slice x27.1 (((Qas (Qaj l v0) v1 n).lines).length) x27.2,.bool ((Qas (Qaj l v0) v1 n).out),.int .u32 ((Qas (Qaj l v0) v1 n).tick)]) (vs:=[I7 ((Qas (Qaj l v0) v1 n).cart),.slice x27.1 (((Qas (Qaj l v0) v1 n).lines).length) x27.2,.bool ((Qas (Qaj l v0) v1 n).out),.int .u32 ((Qas (Qaj l v0) v1 n).tick)]) (cs':=[I7 ((Qas (Qaj l v0) v1 n).cart),.slice x27.1 (((Qas (Qaj l v0) v1 n).lines).length) x27.2,.bool ((Qas (Qaj l v0) v1 n).out),.int .u32 ((Qas (Qaj l v0) v1 n).tick)]) QdQ.1 hs 10 rfl rfl rfl rfl rfl (QQ8 rfl) (Qau rfl (Qau rfl (Qau rfl (Qau rfl Qa1)))) (Qaz rfl) fun w30 hs=>(Qaa (Qad (V:=I6 (Qbh (Qaj l v0) v1)) rfl (Qae (Qag (Qab (Qaa (QaL (cs:=((vc ((Qaj l v0).base.known))++[(.slice x4.1.1.1 ((Qaj l v0).base.ents.length) x4.1.1.2:Value),(.slice x4.1.2.1 ((Qaj l v0).base.ticks.length) x4.1.2.2:Value) ])++[(.slice x4.2.1 ((Qaj l v0).ops.length) x4.2.2:Value) ]++(vc ((Qaj l v0).known))) QcU hs 4 rfl rfl rfl (Qaa (QaL (cs:=vc v2) Qbk hs 6 rfl rfl rfl (Qaa (Qac (V:=I7 n) rfl (Qaa (Qbm (α:=Option Addr × Nat) (vs:=[.agg (((vc ((Qaj l v0).base.known))++[(.slice x4.1.1.1 ((Qaj l v0).base.ents.length) x4.1.1.2:Value),(.slice x4.1.2.1 ((Qaj l v0).base.ticks.length) x4.1.2.2:Value) ])++[(.slice x4.2.1 ((Qaj l v0).ops.length) x4.2.2:Value) ]++(vc ((Qaj l v0).known))).toArray,.agg (vc v2).toArray,I7 n]) (V:=fun x=>.tuple #[.agg #[I7 ((Qas (Qaj l v0) v2 n).cart),.slice x.1 (((Qas (Qaj l v0) v2 n).lines).length) x.2,.bool ((Qas (Qaj l v0) v2 n).out),.int .u32 ((Qas (Qaj l v0) v2 n).tick)],I6 (Qbh (Qaj l v0) v2)]) (Lo:=fun x=>[row (.slice x.1 ((Qas (Qaj l v0) v2 n).lines).length x.2) (((Qas (Qaj l v0) v2 n).lines).map lc) 127 2]) (F:=fun _ _=>True) QpY rfl rfl ?hc hs fun x32 w31 hs _=>?_))))))))))))))
  case hc=>exact (QfG _ (Qaj l v0) x4.1.1.1 x4.1.1.2 x4.1.2.1 x4.1.2.2 x4.2.1 x4.2.2 v2 h2 n hsortE hsortU hp.ok hp.le hp.lt hp.lo (hs.rd 1 rfl) (hs.rd 2 rfl) (hs.rd 3 rfl))
  refine Qaa (Qac (V:=.tuple #[.agg #[I7 ((Qas (Qaj l v0) v2 n).cart),.slice x32.1 (((Qas (Qaj l v0) v2 n).lines).length) x32.2,.bool ((Qas (Qaj l v0) v2 n).out),.int .u32 ((Qas (Qaj l v0) v2 n).tick)],I6 (Qbh (Qaj l v0) v2)]) rfl (Qaa (QaA (V:=.agg #[I7 ((Qas (Qaj l v0) v2 n).cart),.slice x32.1 (((Qas (Qaj l v0) v2 n).lines).length) x32.2,.bool ((Qas (Qaj l v0) v2 n).out),.int .u32 ((Qas (Qaj l v0) v2 n).tick)]) rfl rfl (Qaa (QaA (V:=I6 (Qbh (Qaj l v0) v2)) rfl rfl (Qaa (QaK (cs:=[I7 0,.slice none 0 0,.bool false,.int .u32 0]) QhV rfl hs fun b33 w34 hs=>(Qaa (Qcx (V:=.agg #[I7 ((Qas (Qaj l v0) v2 n).cart),.slice x32.1 (((Qas (Qaj l v0) v2 n).lines).length) x32.2,.bool ((Qas (Qaj l v0) v2 n).out),.int .u32 ((Qas (Qaj l v0) v2 n).tick)]) (vs:=[I7 ((Qas (Qaj l v0) v2 n).cart),.slice x32.1 (((Qas (Qaj l v0) v2 n).lines).length) x32.2,.bool ((Qas (Qaj l v0) v2 n).out),.int .u32 ((Qas (Qaj l v0) v2 n).tick)]) (cs':=[I7 ((Qas (Qaj l v0) v2 n).cart),.slice x32.1 (((Qas (Qaj l v0) v2 n).lines).length) x32.2,.bool ((Qas (Qaj l v0) v2 n).out),.int .u32 ((Qas (Qaj l v0) v2 n).tick)]) QdQ.1 hs 12 rfl rfl rfl rfl rfl (QQ8 rfl) (Qau rfl (Qau rfl (Qau rfl (Qau rfl Qa1)))) (Qaz rfl) fun w35 hs=>?_)))))))))
  replace hs:Own w no w35 [blk b1 ((vc v0)++(vc v1)++(vc v2)) 76,row (.slice x4.1.1.1 ((Qaj l v0).base.ents.length) x4.1.1.2) (((Qaj l v0).base.ents).map cec) 106 7,row (.slice x4.1.2.1 ((Qaj l v0).base.ticks.length) x4.1.2.2) (((Qaj l v0).base.ticks).map lsc) 102 2,row (.slice x4.2.1 ((Qaj l v0).ops.length) x4.2.2) (((Qaj l v0).ops).map oc) 98 23,blk b6 (((vc ((Qaj l v0).base.known))++[(.slice x4.1.1.1 ((Qaj l v0).base.ents.length) x4.1.1.2:Value),(.slice x4.1.2.1 ((Qaj l v0).base.ticks.length) x4.1.2.2:Value) ])++[(.slice x4.2.1 ((Qaj l v0).ops.length) x4.2.2:Value) ]++(vc ((Qaj l v0).known))) 43,blk b15 (vc v1) 24,blk b16 (vc v2) 24,row (.slice x18.1 ((Qa6 (Qaj l v0) v1 v2).length) x18.2) ((Qa6 (Qaj l v0) v1 v2).map dfc) 83 5,row (.slice x21.1 ((Qa6 (Qaj l v0) v1 v1).length) x21.2) ((Qa6 (Qaj l v0) v1 v1).map dfc) 83 5,row (.slice x27.1 (((Qas (Qaj l v0) v1 n).lines).length) x27.2) (((Qas (Qaj l v0) v1 n).lines).map lc) 127 2,blk b28 [I7 ((Qas (Qaj l v0) v1 n).cart),.slice x27.1 (((Qas (Qaj l v0) v1 n).lines).length) x27.2,.bool ((Qas (Qaj l v0) v1 n).out),.int .u32 ((Qas (Qaj l v0) v1 n).tick)] 49,row (.slice x32.1 (((Qas (Qaj l v0) v2 n).lines).length) x32.2) (((Qas (Qaj l v0) v2 n).lines).map lc) 127 2,blk b33 [I7 ((Qas (Qaj l v0) v2 n).cart),.slice x32.1 (((Qas (Qaj l v0) v2 n).lines).length) x32.2,.bool ((Qas (Qaj l v0) v2 n).out),.int .u32 ((Qas (Qaj l v0) v2 n).tick)] 49]:=hs
  refine Qaa (Qad (V:=I6 (Qbh (Qaj l v0) v2)) rfl (Qae (Qag (Qag (Qbw [some 85,some 86,some 87,some 88,some 89,some 90] [] [0,1,3,7,15,31] [pv (I6 (Qbh (Qaj l v0) v1)),pv (.bool false),pv (.bool false),pv (I6 (Qbh (Qaj l v0) v2)),pv (.bool false),pv (.bool false)] (fun _ _=>_) [5] (by kernel_rfl) hs ⟨?_,?_,?_,?_,?_,?_,trivial⟩ ?_)))))
  ·exact oa [] fun D J w hs=>Qac (V:=.int .i64 (Qbh (Qaj l v0) v1)) rfl (Zz hs)
  ·exact oa [0] fun D J w hs=>QaU (V:=.bool (!decide (Qbh (Qaj l v0) v1=0))) (V':=.bool false) (Qcv rfl rfl ⟨rfl,rfl⟩) (congrArg Value.bool (by rw [hdd.1];rfl)) (Zz hs)
  ·exact oa [1] fun D J w hs=>Qac (V:=.bool false) rfl (Zz hs)
  ·exact obg [2] [] false rfl (fun _=>rfl) rfl (fun _ _ _ h=>nomatch h) fun D J w _ hs=>Qac (V:=I6 (Qbh (Qaj l v0) v2)) rfl (Zz hs)
  ·exact obg [2,3] [] false rfl (fun _=>rfl) rfl (fun _ _ _ h=>nomatch h) fun D J w _ hs=>QaU (V:=.bool (!decide (Qbh (Qaj l v0) v2=0))) (V':=.bool false) (Qcv rfl rfl ⟨rfl,rfl⟩) (congrArg Value.bool (by rw [hdd.2.1];rfl)) (Zz hs)
  ·exact oa [2,4] fun D J w hs=>QcE (V:=.bool false) rfl rfl (Zz hs)
  rintro J1 w36 J2 hJ hs
  replace hJ:J2=upd (mix (sq 85 6) J1 _) 90 (.bool false):=hJ
  subst hJ
  refine QbV rfl ?_
  refine Qao (Qag (Qag (Qab (Qaa (Qac (V:=I7 0) rfl (Qae (Qan (QaD (fun J μ J' w'=>∃ (Jo:Env) (it:Int),J'=upd (mix ([4,18,19,20]++sq 91 21) Jo J) 91 (I7 it)/\(0<=it/\it<=4)/\μ=(4-it).toNat/\Own w no w' [blk b1 ((vc v0)++(vc v1)++(vc v2)) 76,row (.slice x4.1.1.1 ((Qaj l v0).base.ents.length) x4.1.1.2) (((Qaj l v0).base.ents).map cec) 106 7,row (.slice x4.1.2.1 ((Qaj l v0).base.ticks.length) x4.1.2.2) (((Qaj l v0).base.ticks).map lsc) 102 2,row (.slice x4.2.1 ((Qaj l v0).ops.length) x4.2.2) (((Qaj l v0).ops).map oc) 98 23,blk b6 (((vc ((Qaj l v0).base.known))++[(.slice x4.1.1.1 ((Qaj l v0).base.ents.length) x4.1.1.2:Value),(.slice x4.1.2.1 ((Qaj l v0).base.ticks.length) x4.1.2.2:Value) ])++[(.slice x4.2.1 ((Qaj l v0).ops.length) x4.2.2:Value) ]++(vc ((Qaj l v0).known))) 43,blk b15 (vc v1) 24,blk b16 (vc v2) 24,row (.slice x18.1 ((Qa6 (Qaj l v0) v1 v2).length) x18.2) ((Qa6 (Qaj l v0) v1 v2).map dfc) 83 5,row (.slice x21.1 ((Qa6 (Qaj l v0) v1 v1).length) x21.2) ((Qa6 (Qaj l v0) v1 v1).map dfc) 83 5,row (.slice x27.1 (((Qas (Qaj l v0) v1 n).lines).length) x27.2) (((Qas (Qaj l v0) v1 n).lines).map lc) 127 2,blk b28 [I7 ((Qas (Qaj l v0) v1 n).cart),.slice x27.1 (((Qas (Qaj l v0) v1 n).lines).length) x27.2,.bool ((Qas (Qaj l v0) v1 n).out),.int .u32 ((Qas (Qaj l v0) v1 n).tick)] 49,row (.slice x32.1 (((Qas (Qaj l v0) v2 n).lines).length) x32.2) (((Qas (Qaj l v0) v2 n).lines).map lc) 127 2,blk b33 [I7 ((Qas (Qaj l v0) v2 n).cart),.slice x32.1 (((Qas (Qaj l v0) v2 n).lines).length) x32.2,.bool ((Qas (Qaj l v0) v2 n).out),.int .u32 ((Qas (Qaj l v0) v2 n).tick)] 49]) ?_ ?_))))))))
  ·exact ⟨_,_,0,Qal (Qap (ds:=([4,18,19,20]++sq 91 21)) (Agr.refl _ _)) rfl,(by omega),rfl,hs⟩
  rintro μ J' w37 ⟨Jo,it,rfl,hi9,rfl,hs⟩
  refine Qag (Qab (Qaa (Qa2 rfl rfl (Qae (Qag (Qam (t:=decide (it<4)) rfl (fun c38=>?_) (fun c38=>?_)))))))
  ·
   replace c38:=QQ1 c38
   refine Qao (Qag (Qan (Qag (Qab (Qaa (Qac (V:=I7 it) rfl (Qaa (Qad (V:=I7 it) rfl (Qae (Qag (QaH HM [some 94,some 95,some 96,some 97,some 98,some 99,some 19,some 20] [] [0,0,3,0,0,31,63,127] [pv (.agg #[I7 ((Qas (Qaj l v0) v1 n).cart),.slice x27.1 (((Qas (Qaj l v0) v1 n).lines).length) x27.2,.bool ((Qas (Qaj l v0) v1 n).out),.int .u32 ((Qas (Qaj l v0) v1 n).tick)]),pv (I7 it),pv (.int .u32 (qL ((Qas (Qaj l v0) v1 n).lines) it)),pv (.agg #[I7 ((Qas (Qaj l v0) v2 n).cart),.slice x32.1 (((Qas (Qaj l v0) v2 n).lines).length) x32.2,.bool ((Qas (Qaj l v0) v2 n).out),.int .u32 ((Qas (Qaj l v0) v2 n).tick)]),pv (I7 it),pv (.int .u32 (qL ((Qas (Qaj l v0) v2 n).lines) it)),pv (.int .u32 (qL ((Qas (Qaj l v0) v1 n).lines) it)),pv (.int .u32 (qL ((Qas (Qaj l v0) v2 n).lines) it))] (fun _ _=>_) [7,6] (by kernel_rfl) hs ⟨?_,?_,?_,?_,?_,?_,?_,?_,trivial⟩ ?_)))))))))))
   ·exact oa [] fun D J w hs=>QaL (cs:=[.int .u16 ((Qas (Qaj l v0) v1 n).cart),.slice x27.1 (((Qas (Qaj l v0) v1 n).lines).length) x27.2,.bool ((Qas (Qaj l v0) v1 n).out),.int .u32 ((Qas (Qaj l v0) v1 n).tick)]) QdQ hs 10 rfl rfl rfl (Zz hs)
   ·exact oa [] fun D J w hs=>Qac (V:=.int .u16 it) rfl (Zz hs)
   ·exact oa [0,1] fun D J w hs=>Qat (vs:=[.agg #[.int .u16 ((Qas (Qaj l v0) v1 n).cart),.slice x27.1 (((Qas (Qaj l v0) v1 n).lines).length) x27.2,.bool ((Qas (Qaj l v0) v1 n).out),.int .u32 ((Qas (Qaj l v0) v1 n).tick)],.int .u16 it]) (V:=.int .u32 (qL ((Qas (Qaj l v0) v1 n).lines) it)) Qtn rfl rfl (QiA _ ((Qas (Qaj l v0) v1 n).cart) ((Qas (Qaj l v0) v1 n).lines) ((Qas (Qaj l v0) v1 n).out) ((Qas (Qaj l v0) v1 n).tick) x27.1 x27.2 it (hs.rd 9 rfl)) hs fun _ hs=>Zz hs
   ·exact oa [] fun D J w hs=>QaL (cs:=[.int .u16 ((Qas (Qaj l v0) v2 n).cart),.slice x32.1 (((Qas (Qaj l v0) v2 n).lines).length) x32.2,.bool ((Qas (Qaj l v0) v2 n).out),.int .u32 ((Qas (Qaj l v0) v2 n).tick)]) QdQ hs 12 rfl rfl rfl (Zz hs)
   ·exact oa [] fun D J w hs=>Qac (V:=.int .u16 it) rfl (Zz hs)
   ·exact oa [3,4] fun D J w hs=>Qat (vs:=[.agg #[.int .u16 ((Qas (Qaj l v0) v2 n).cart),.slice x32.1 (((Qas (Qaj l v0) v2 n).lines).length) x32.2,.bool ((Qas (Qaj l v0) v2 n).out),.int .u32 ((Qas (Qaj l v0) v2 n).tick)],.int .u16 it]) (V:=.int .u32 (qL ((Qas (Qaj l v0) v2 n).lines) it)) Qtn rfl rfl (QiA _ ((Qas (Qaj l v0) v2 n).cart) ((Qas (Qaj l v0) v2 n).lines) ((Qas (Qaj l v0) v2 n).out) ((Qas (Qaj l v0) v2 n).tick) x32.1 x32.2 it (hs.rd 11 rfl)) hs fun _ hs=>Zz hs
   ·exact oa [2] fun D J w hs=>Qad (V:=.int .u32 (qL ((Qas (Qaj l v0) v1 n).lines) it)) rfl (Zz hs)
   ·exact oa [5] fun D J w hs=>Qad (V:=.int .u32 (qL ((Qas (Qaj l v0) v2 n).lines) it)) rfl (Zz hs)
   rintro J1 w41 J2 hJ hs
   replace hJ:J2=upd (upd (mix (sq 94 6++[19,20]) J1 _) 19 (.int .u32 (qL ((Qas (Qaj l v0) v1 n).lines) it))) 20 (.int .u32 (qL ((Qas (Qaj l v0) v2 n).lines) it)):=hJ
   subst hJ
   refine Qag (Qab (Qaa (Qac (V:=.slice x18.1 ((Qa6 (Qaj l v0) v1 v2).length) x18.2) rfl (Qaa (Qac (V:=I7 n) rfl (Qaa (Qac (V:=I7 it) rfl (Qaa (Qac (V:=.int .u32 (qL ((Qas (Qaj l v0) v1 n).lines) it)) rfl (Qaa (Qac (V:=.int .u32 (qL ((Qas (Qaj l v0) v2 n).lines) it)) rfl (Qaa (QbD (vs:=[(0,I7 n),(1,I7 it),(3,.int .u32 (qL ((Qas (Qaj l v0) v1 n).lines) it)),(4,.int .u32 (qL ((Qas (Qaj l v0) v2 n).lines) it))]) (cs:=dfc (⟨n,it,false,qL ((Qas (Qaj l v0) v1 n).lines) it,qL ((Qas (Qaj l v0) v2 n).lines) it⟩:Dif)) QmH (rfl) rfl (Qaa (Qat (vs:=[.slice x18.1 ((Qa6 (Qaj l v0) v1 v2).length) x18.2,.agg (dfc (⟨n,it,false,qL ((Qas (Qaj l v0) v1 n).lines) it,qL ((Qas (Qaj l v0) v2 n).lines) it⟩:Dif)).toArray]) (V:=.bool ((Qa6 (Qaj l v0) v1 v2).any fun y=>decide (y=(⟨n,it,false,qL ((Qas (Qaj l v0) v1 n).lines) it,qL ((Qas (Qaj l v0) v2 n).lines) it⟩:Dif)))) Qun rfl rfl ?hc hs fun w42 hs=>?_)))))))))))))))
   case hc=>exact (Qme _ x18.1 x18.2 (Qa6 (Qaj l v0) v1 v2) (⟨n,it,false,qL ((Qas (Qaj l v0) v1 n).lines) it,qL ((Qas (Qaj l v0) v2 n).lines) it⟩:Dif) (hs.rd 7 rfl))
   refine Qaa (Qac (V:=.int .u32 (qL ((Qas (Qaj l v0) v1 n).lines) it)) rfl (Qaa (Qac (V:=.int .u32 (qL ((Qas (Qaj l v0) v2 n).lines) it)) rfl (Qaa (Qcv rfl rfl (Qaa (QaU (V:=.bool (!(((Qa6 (Qaj l v0) v1 v2).any fun y=>decide (y=(⟨n,it,false,qL ((Qas (Qaj l v0) v1 n).lines) it,qL ((Qas (Qaj l v0) v2 n).lines) it⟩:Dif))) == (!decide (qL ((Qas (Qaj l v0) v1 n).lines) it=qL ((Qas (Qaj l v0) v2 n).lines) it))))) (V':=.bool false) (QpR Qn9 rfl rfl ⟨rfl,rfl⟩) (congrArg Value.bool (by rw [Qia hp.ok hdz];simp)) (Qae (QbV rfl ?_)))))))))
   refine Qao (Qab (Qaa (QaF (a:=it) (b:=1) (c:=it+1) rfl rfl (Qqp (by omega) (by omega)) (Qaa (Qac (V:=I7 (it+1)) rfl (Qae ?_))))))
   refine ⟨_,?_,_,it+1,Qal (Qap (ds:=([4,18,19,20]++sq 91 21)) (by repeat (first|exact Agr.refl _ _|refine Agr.upd ?_ rfl|refine Agr.mix ?_ rfl))) rfl,(by omega),rfl,hs.take 13⟩
   omega
  replace c38:=QQ2 c38
  refine QaJ (Qag (QaH HM [some 112,some 113,some 114,some 115,some 116,some 117,some 118,some 119,some 120,some 121,some 122,some 123,some 124,some 125,some 126,some 127] [] [0,0,0,4,12,0,32,124,254,511,0,1024,0,4096,15360,32767] [pv (.slice x18.1 ((Qa6 (Qaj l v0) v1 v2).length) x18.2),pv (I7 n),pv (Pq b28 (0+2)),pv (.bool ((Qas (Qaj l v0) v1 n).out)),pv (.int .u32 (QcF ((Qas (Qaj l v0) v1 n).out))),pv (Pq b33 (0+2)),pv (.bool ((Qas (Qaj l v0) v2 n).out)),pv (.int .u32 (QcF ((Qas (Qaj l v0) v2 n).out))),pv (.agg (dfc (⟨n,0,true,QcF ((Qas (Qaj l v0) v1 n).out),QcF ((Qas (Qaj l v0) v2 n).out)⟩:Dif)).toArray),pv (.bool ((Qa6 (Qaj l v0) v1 v2).any fun y=>decide (y=(⟨n,0,true,QcF ((Qas (Qaj l v0) v1 n).out),QcF ((Qas (Qaj l v0) v2 n).out)⟩:Dif)))),pv (Pq b28 (0+2)),pv (.bool ((Qas (Qaj l v0) v1 n).out)),pv (Pq b33 (0+2)),pv (.bool ((Qas (Qaj l v0) v2 n).out)),pv (.bool (!(((Qas (Qaj l v0) v1 n).out) == ((Qas (Qaj l v0) v2 n).out)))),pv (.bool false)] (fun _ _=>_) [15] (by kernel_rfl) hs ⟨?_,?_,?_,?_,?_,?_,?_,?_,?_,?_,?_,?_,?_,?_,?_,?_,trivial⟩ ?_))
  ·exact oa [] fun D J w hs=>Qac (V:=.slice x18.1 ((Qa6 (Qaj l v0) v1 v2).length) x18.2) rfl (Zz hs)
  ·exact oa [] fun D J w hs=>Qac (V:=.int .u16 n) rfl (Zz hs)
  ·exact oa [] fun D J w hs=>Qaf Qds rfl (Zz hs)
  ·exact oa [2] fun D J w hs=>QaQ (V:=.bool ((Qas (Qaj l v0) v1 n).out)) Qn5 hs 10 rfl rfl rfl (Zz hs)
  ·exact oa [3] fun D J w hs=>Qat (vs:=[.bool ((Qas (Qaj l v0) v1 n).out)]) (V:=.int .u32 (QcF ((Qas (Qaj l v0) v1 n).out))) QsW rfl rfl (QjP _ ((Qas (Qaj l v0) v1 n).out)) hs fun _ hs=>Zz hs
  ·exact oa [] fun D J w hs=>Qaf Qds rfl (Zz hs)
  ·exact oa [5] fun D J w hs=>QaQ (V:=.bool ((Qas (Qaj l v0) v2 n).out)) Qn5 hs 12 rfl rfl rfl (Zz hs)
  ·exact oa [6] fun D J w hs=>Qat (vs:=[.bool ((Qas (Qaj l v0) v2 n).out)]) (V:=.int .u32 (QcF ((Qas (Qaj l v0) v2 n).out))) QsW rfl rfl (QjP _ ((Qas (Qaj l v0) v2 n).out)) hs fun _ hs=>Zz hs
  ·exact oa [1,4,7] fun D J w hs=>QbD (vs:=[(0,.int .u16 n),(2,.bool true),(3,.int .u32 (QcF ((Qas (Qaj l v0) v1 n).out))),(4,.int .u32 (QcF ((Qas (Qaj l v0) v2 n).out)))]) (cs:=dfc (⟨n,0,true,QcF ((Qas (Qaj l v0) v1 n).out),QcF ((Qas (Qaj l v0) v2 n).out)⟩:Dif)) QmH (rfl) rfl (Zz hs)
  ·exact oa [0,8] fun D J w hs=>Qat (vs:=[.slice x18.1 ((Qa6 (Qaj l v0) v1 v2).length) x18.2,.agg (dfc (⟨n,0,true,QcF ((Qas (Qaj l v0) v1 n).out),QcF ((Qas (Qaj l v0) v2 n).out)⟩:Dif)).toArray]) (V:=.bool ((Qa6 (Qaj l v0) v1 v2).any fun y=>decide (y=(⟨n,0,true,QcF ((Qas (Qaj l v0) v1 n).out),QcF ((Qas (Qaj l v0) v2 n).out)⟩:Dif)))) Qun rfl rfl (Qme _ x18.1 x18.2 (Qa6 (Qaj l v0) v1 v2) (⟨n,0,true,QcF ((Qas (Qaj l v0) v1 n).out),QcF ((Qas (Qaj l v0) v2 n).out)⟩:Dif) (hs.rd 7 rfl)) hs fun _ hs=>Zz hs
  ·exact oa [] fun D J w hs=>Qaf Qds rfl (Zz hs)
  ·exact oa [10] fun D J w hs=>QaQ (V:=.bool ((Qas (Qaj l v0) v1 n).out)) Qn5 hs 10 rfl rfl rfl (Zz hs)
  ·exact oa [] fun D J w hs=>Qaf Qds rfl (Zz hs)
  ·exact oa [12] fun D J w hs=>QaQ (V:=.bool ((Qas (Qaj l v0) v2 n).out)) Qn5 hs 12 rfl rfl rfl (Zz hs)
  ·exact oa [11,13] fun D J w hs=>QpR Qn9 rfl rfl (Zz hs)
  ·exact oa [9,14] fun D J w hs=>QaU (V:=.bool (!(((Qa6 (Qaj l v0) v1 v2).any fun y=>decide (y=(⟨n,0,true,QcF ((Qas (Qaj l v0) v1 n).out),QcF ((Qas (Qaj l v0) v2 n).out)⟩:Dif))) == (!(((Qas (Qaj l v0) v1 n).out) == ((Qas (Qaj l v0) v2 n).out)))))) (V':=.bool false) (QpR Qn9 rfl rfl ⟨rfl,rfl⟩) (congrArg Value.bool (by rw [Qig hp.ok hdz];simp)) (Zz hs)
  rintro J1 w46 J2 hJ hs
  replace hJ:J2=upd (mix (sq 112 16) J1 _) 127 (.bool false):=hJ
  subst hJ
  refine QbV rfl ?_
  refine Qao (Qab (Qaa (QaF (a:=n) (b:=1) (c:=n+1) rfl rfl (Qqp (by omega) (by omega)) (Qaa (Qac (V:=I7 (n+1)) rfl (Qae ?_))))))
  refine ⟨_,?_,_,n+1,Qal (Qap (ds:=([4]++sq 13 8++sq 68 61)) (by repeat (first|exact Agr.refl _ _|refine Agr.upd ?_ rfl|refine Agr.mix ?_ rfl))) rfl,(by omega),rfl,hs.take 9⟩
  omega
 replace c25:=QQ2 c25
 refine QaJ (Qag (Qab (Qaa (Qad (V:=.bool true) rfl (Qae (Qaw ?_))))))
 refine ⟨_,Qaq (V:=.bool true) Tryz.results6 rfl,(Zr hs ?_)⟩
 rfl
end Tt
end Go.Proofs
namespace Go.Proofs.YtbjbjboehjdcaaaGreat
open Go.RowKit Go.Vx
theorem Tryz.own:ownKnob Tryz.prog.godebug=none:=by kernel_rfl
theorem Tryz.laidOut:laidOutB Tryz.prog=true:=by kernel_rfl
theorem O24:Qe0 Tryz.prog 24 vc QbM:=QvZ Tryz.underlying24 Tryz.underlying22 (by kernel_rfl) (by kernel_rfl)
theorem O96:Qe0 Tryz.prog 96 dc Qc9:=Qu1 Tryz.underlying96 rfl rfl Tryz.underlying5 Tryz.underlying22 (by kernel_rfl) (by kernel_rfl) (by kernel_rfl)
theorem O98:Qe0 Tryz.prog 98 oc Qcc:=QuT Tryz.underlying98 rfl rfl O96 O24 Tryz.underlying5 Tryz.underlying32 Tryz.underlying32 Tryz.underlying32 Tryz.underlying22 (by kernel_rfl) (by kernel_rfl)
theorem O76:Qe0 Tryz.prog 76 pv3 (fun p=>QbM p.1/\QbM p.2.1/\QbM p.2.2):=QuU (P:=Tryz.prog) Tryz.underlying76 O24 (by kernel_rfl) (by kernel_rfl)
end Go.Proofs.YtbjbjboehjdcaaaGreat
namespace Go.Vx
open Go.RowKit Go.Shelf Go.Sort Go.Proofs
theorem Qpq {w w':World} {L:List Res} (h:Own w no w' L):∃ q os,w'=grow (w.drewN q) os:=by
 refine ⟨w'.drawn-w.drawn,w'.heap.extract w.heap.size w'.heap.size,?_⟩
 have hd:w.drawn+(w'.drawn-w.drawn)=w'.drawn:=by have:=h.tape.2;omega
 have hh:w.heap++w'.heap.extract w.heap.size w'.heap.size=w'.heap:=by
  apply Array.ext_getElem?
  intro i
  by_cases hi:i<w.heap.size
  ·rw [Array.getElem?_append_left hi,h.old i hi (fun h=>h)]
  rw [Array.getElem?_append_right (by omega)]
  have:=h.size
  simp only [Array.getElem?_extract]
  split
  ·congr 1;omega
  rw [Array.getElem?_eq_none (by omega)]
 have h1:=h.os
 have h2:=h.tape.1
 have h3:=h.output
 cases w' with
 | mk heap tape drawn os output =>
  cases w with
  | mk heap0 tape0 drawn0 os0 output0 =>
   simp only at h1 h2 h3 hd hh
   subst h1;subst h2;subst h3
   simp [grow,World.drewN,hh,hd]
section
variable {P:Program} {J:Ren} {α:Type} [Inhabited α]
theorem QkB {enc:α->List Value} {k:Nat} {l:List α} (hk:∀ x,(enc x).length=k) {j:Nat} (hj:j<l.length*k):(l.map enc).flatten[j]?=some (flatK enc k l.toArray)[j]!:=by
 have hk0:0<k:=by
  rcases Nat.eq_zero_or_pos k with h|h
  ·subst h;simp at hj
  exact h
 have hi:j/k<l.length:=Nat.div_lt_of_lt_mul (by rw [Nat.mul_comm];exact hj)
 have hm:j%k<k:=Nat.mod_lt _ hk0
 have e1:(l.map enc)[j/k]?=some (enc l[j/k]):=by simp [hi]
 have e2:(enc l[j/k])[j%k]?=some (enc l[j/k])[j%k]!:=by
  rw [List.getElem?_eq_getElem (by rw [hk];exact hm),List.getElem!_eq_getElem?_getD,List.getElem?_eq_getElem (by rw [hk];exact hm)]
  rfl
 have h:=QhB (l.map enc) k (Qbi hk l) (j/k) (j%k) _ _ e1 e2
 rw [Nat.mul_comm,Nat.div_add_mod] at h
 rw [h,get_flatK enc k l.toArray j (by simpa using hj)]
 simp [hi]
theorem Qlg {enc:α->List Value} {k:Nat} {w:World} {S:Nat->Prop} {g cap T n:Nat} {l m:List α} {os:Array Obj} (hk:∀ x,(enc x).length=k) (h1:∀ x,∀ v∈enc x,v.oneCell'=true)
  (hR:(row (.slice (some ⟨g,0,none⟩) l.length cap) (l.map enc) T k).holds w S) (hlt:∀ b,S b->b<w.heap.size) (hlen:m.length=l.length) :
  Own w S (sortWorldK enc k w g 0 n m.toArray os) [row (.slice (some ⟨g,0,none⟩) l.length cap) (m.map enc) T k]:=by
 obtain ⟨_,hown,hS⟩:=hR
 have hSg:=hS g rfl
 have hgl:=hlt g hSg
 rcases hown.2 with ⟨hv,_⟩|⟨g',cap',cur,hv,_,hg,hnc,hcm,hcs,htake⟩
 ·cases hv
 simp only [Value.slice.injEq,Option.some.injEq,Addr.mk.injEq,and_true] at hv
 obtain ⟨rfl,hn,rfl⟩:=hv
 simp only [QQ6] at hnc htake hn
 have hX:∀ c,c<w.heap.size->(sortWorldK enc k w g 0 n m.toArray os).heap[c]?=(w.heap.modify g (onCells (putCells id 0 (flatK enc k m.toArray))))[c]?:=by
  intro c hc
  show ((w.heap.modify g (onCells (putCells id 0 (flatK enc k m.toArray))))++os)[c]?=_
  rw [Array.getElem?_append_left (by simpa using hc)]
 have hXg:(sortWorldK enc k w g 0 n m.toArray os).heap[g]?=some (.cells (putCells id 0 (flatK enc k m.toArray) cur) T (0,0)):=by
  rw [hX g hgl,Array.getElem?_modify,if_pos rfl,hg];rfl
 have hXo:∀ c,c<w.heap.size->c≠g->(sortWorldK enc k w g 0 n m.toArray os).heap[c]?=w.heap[c]?:=by
  intro c hc hne
  rw [hX c hc,Array.getElem?_modify,if_neg (fun e=>hne e.symm)]
 have hsz:(sortWorldK enc k w g 0 n m.toArray os).heap.size=w.heap.size+os.size:=by
  show ((w.heap.modify g (onCells (putCells id 0 (flatK enc k m.toArray))))++os).size=_
  simp
 refine ⟨rfl,⟨rfl,Nat.le_add_right _ _⟩,rfl,by omega,fun b hb hm=>hXo b hb (fun e=>hm (e ▸ hSg)),fun j b=>j=0/\b=g,fun j R hj=>?_,fun j b hb=>by rw [hb.2];omega,fun j j' b hb hb'=>hb.1.trans hb'.1.symm,fun j b hb _=>by rw [hb.2];exact hSg⟩
 cases j with
 | succ j=>simp at hj
 | zero =>
  simp only [List.getElem?_cons_zero,Option.some.injEq] at hj
  subst hj
  refine ⟨⟨Qbi hk m,QaV h1 m⟩,⟨?_,.inr ⟨g,cap,_,by rw [QQ6,hlen],Nat.zero_le _,hXg,by rw [QQ6];omega,hcm,by unfold putCells;simpa using hcs,?_⟩⟩,fun g' hg'=>by cases hg';exact ⟨rfl,rfl⟩⟩
  ·rw [Qb5 _ (Qbi hk m)]
  apply List.ext_getElem?
  intro j
  rw [List.getElem?_take,QQ6]
  by_cases hj:j<m.length*k
  ·have hjc:j<cur.size:=by
    rw [hcs]
    exact Nat.lt_of_lt_of_le hj (Nat.mul_le_mul_right _ (by omega))
   rw [if_pos hj,QkB hk hj,Array.getElem?_toList]
   unfold putCells
   rw [Array.getElem?_mapIdx,Array.getElem?_eq_getElem hjc]
   simp [hj]
  rw [if_neg hj,List.getElem?_eq_none (by rw [Qb5 _ (Qbi hk m),QQ6];omega)]
theorem QoF (L:SlLaysF0.n6 P J) {k T g:Nat} {enc:α->List Value} {cf:α->α->Int} (aE:∀ w,(isAgg (J.t 24)).run P w = .ok true w) (zE:∀ w,(Go.sizeOf (J.t 24)).run P w = .ok k w) (hk:∀ x,(enc x).length=k) (h1:∀ x,∀ v∈enc x,v.oneCell'=true)
  (hO:SWO (ltOf cf)) (hg:En P g) (hc:∀ w x y,Calls P g #[.agg (enc x).toArray,.agg (enc y).toArray] w fun e w'=>e = .returned (.int .i64 (cf x y))/\Own w no w' [])
  (hnil:∀ w,Calls P (J.f 6) #[.slice none 0 0,.func (.func g) #[] #[]] w fun e w'=>e = .returned (.tuple #[])/\w'=w) :
  QgH P (J.f 6) g enc T k (fun l m=>m.Perm l/\m.Pairwise fun x y=>¬cf y x<0):=by
 intro w S a c l hR hlt hsz
 have hR':=hR
 obtain ⟨_,hown,hS⟩:=hR
 rcases hown.2 with ⟨hv,hn⟩|⟨b,cap,cur,hv,_,hb,hnc,hcm,hcs,htake⟩
 ·have hl:l=[]:=by simpa using hn
  subst hl
  simp only [List.length_nil,Value.slice.injEq] at hv
  obtain ⟨rfl,_,rfl⟩:=hv
  exact (hnil w).mono fun e w' ⟨he,hw⟩=>⟨⟨[],List.Perm.refl _,List.Pairwise.nil⟩,he,by subst hw;exact Own.lent hR' hlt,trivial⟩
 simp only [Value.slice.injEq,QQ6] at hv
 obtain ⟨rfl,_,rfl⟩:=hv
 have hbl:=hlt b (hS b rfl)
 have hH:HoldsK enc k w b 0 l.toArray:=by
  intro j hj
  have hj':j<l.length*k:=by simpa using hj
  rw [Nat.zero_add]
  refine ⟨?_,frozen_of_row w b _ _ _ hb⟩
  rw [cell_of_row w b j _ _ _ hb]
  have h2:=QkB (l:=l) hk hj'
  rw [← htake,List.getElem?_take,QQ6,if_pos hj'] at h2
  simpa using h2
 have hcmp:CmpLays P g #[] enc k cf b 0 l.toArray.size w:=fun m os dk _ x y =>
  (hc _ x y).mono fun e w' ⟨he,ho⟩=>⟨he,Qpq ho⟩
 refine (AnyQ.slices_SortFunc L k aE zE enc hk h1 cf hO g #[] b 0 c l.toArray w hg hcmp hH hbl (by simpa using hsz)).mono ?_
 rintro e w' ⟨he,d',n,os,hp,hs,rfl⟩
 obtain ⟨hp1,_,hp2⟩:=hp
 have hsz':d'.toList.length=l.length:=by simpa using hp1
 refine ⟨⟨d'.toList,?_,?_⟩,he,?_,trivial⟩
 ·have e1:d'.extract 0 l.toArray.size=d':=by rw [← hp1];simp
  have e2:l.toArray.extract 0 l.toArray.size=l.toArray:=by simp
  rw [e1,e2] at hp2
  simpa using hp2
 ·rw [List.pairwise_iff_getElem]
  intro i j hi hj hij
  have h3:=hs i j (Nat.zero_le _) hij (by rw [← hp1];simpa using hj)
  unfold ltOf at h3
  have e1:d'[i]! = d'.toList[i]:=by simp at hi;simp [hi]
  have e2:d'[j]! = d'.toList[j]:=by simp at hj;simp [hj]
  rw [e1,e2] at h3
  simpa using h3
 have:=Qlg (n:=n) (os:=os) hk h1 hR' hlt hsz'
 simpa using this
end
end Go.Vx
namespace Go.Proofs
open Go.Shelf
def Tryz.sortE_ren:Go.Shelf.Ren:=⟨fun|6=>48|15=>92|14=>91|28=>144|29=>145|20=>136|21=>137|22=>138|23=>139|24=>140|25=>141|26=>142|27=>143|46=>161|47=>162|48=>163|49=>164|50=>165|57=>181|n=>n,fun|22=>35|24=>106|25=>116|3=>3|39=>159|0=>0|53=>22|55=>104|4=>4|46=>192|45=>191|50=>138|5=>5|9=>9|66=>211|70=>215|76=>227|77=>228|n=>n,fun|n=>n⟩
theorem Tryz.sortE:Go.Proofs.SlLaysF0.n6 Tryz.prog Tryz.sortE_ren:={
 mixed:=by kernel_rfl
 f6:=⟨Tryz.f48.name,by decide,Tryz.func48.trans (congrArg some (by kernel_rfl))⟩
 f14:=⟨Tryz.f91.name,by decide,Tryz.func91.trans (congrArg some (by kernel_rfl))⟩
 f15:=Tryz.func92.trans (congrArg some (by kernel_rfl))
 f20:=⟨Tryz.f136.name,by decide,Tryz.func136.trans (congrArg some (by kernel_rfl))⟩
 f21:=⟨Tryz.f137.name,by decide,Tryz.func137.trans (congrArg some (by kernel_rfl))⟩
 f22:=⟨Tryz.f138.name,by decide,Tryz.func138.trans (congrArg some (by kernel_rfl))⟩
 f23:=⟨Tryz.f139.name,by decide,Tryz.func139.trans (congrArg some (by kernel_rfl))⟩
 f24:=⟨Tryz.f140.name,by decide,Tryz.func140.trans (congrArg some (by kernel_rfl))⟩
 f25:=⟨Tryz.f141.name,by decide,Tryz.func141.trans (congrArg some (by kernel_rfl))⟩
 f26:=⟨Tryz.f142.name,by decide,Tryz.func142.trans (congrArg some (by kernel_rfl))⟩
 f27:=⟨Tryz.f143.name,by decide,Tryz.func143.trans (congrArg some (by kernel_rfl))⟩
 f28:=Tryz.func144.trans (congrArg some (by kernel_rfl))
 f29:=Tryz.func145.trans (congrArg some (by kernel_rfl))
 f46:=⟨Tryz.f161.name,by decide,Tryz.func161.trans (congrArg some (by kernel_rfl))⟩
 f47:=Tryz.func162.trans (congrArg some (by kernel_rfl))
 f48:=Tryz.func163.trans (congrArg some (by kernel_rfl))
 f49:=⟨Tryz.f164.name,by decide,Tryz.func164.trans (congrArg some (by kernel_rfl))⟩
 f50:=⟨Tryz.f165.name,by decide,Tryz.func165.trans (congrArg some (by kernel_rfl))⟩
 f57:=⟨Tryz.f181.name,by decide,Tryz.func181.trans (congrArg some (by kernel_rfl))⟩
 t0:=Tryz.underlying0
 a0:=Tryz.isAgg0
 z0:=Tryz.sizeOf0
 v0:=Tryz.zeroValue0
 t3:=Tryz.underlying3
 a3:=Tryz.isAgg3
 z3:=Tryz.sizeOf3
 v3:=Tryz.zeroValue3
 t4:=Tryz.underlying4
 a4:=Tryz.isAgg4
 z4:=Tryz.sizeOf4
 v4:=Tryz.zeroValue4
 t5:=Tryz.underlying5
 a5:=Tryz.isAgg5
 z5:=Tryz.sizeOf5
 v5:=Tryz.zeroValue5
 t9:=Tryz.underlying9
 a9:=Tryz.isAgg9
 z9:=Tryz.sizeOf9
 v9:=Tryz.zeroValue9
 t22:=Tryz.underlying35
 a22:=Tryz.isAgg35
 z22:=Tryz.sizeOf35
 v22:=Tryz.zeroValue35
 t25:=Tryz.underlying116
 a25:=Tryz.isAgg116
 z25:=Tryz.sizeOf116
 v25:=Tryz.zeroValue116
 t39:=Tryz.underlying159
 a39:=Tryz.isAgg159
 z39:=Tryz.sizeOf159
 v39:=Tryz.zeroValue159
 t45:=Tryz.underlying191
 a45:=Tryz.isAgg191
 z45:=Tryz.sizeOf191
 v45:=Tryz.zeroValue191
 t46:=Tryz.underlying192
 a46:=Tryz.isAgg192
 z46:=Tryz.sizeOf192
 v46:=Tryz.zeroValue192
 t50:=Tryz.underlying138
 a50:=Tryz.isAgg138
 z50:=Tryz.sizeOf138
 v50:=Tryz.zeroValue138
 t53:=Tryz.underlying22
 a53:=Tryz.isAgg22
 z53:=Tryz.sizeOf22
 v53:=Tryz.zeroValue22
 t55:=Tryz.underlying104
 a55:=Tryz.isAgg104
 z55:=Tryz.sizeOf104
 v55:=Tryz.zeroValue104
 t66:=Tryz.underlying211
 a66:=Tryz.isAgg211
 z66:=Tryz.sizeOf211
 v66:=Tryz.zeroValue211
 t70:=Tryz.underlying215
 a70:=Tryz.isAgg215
 z70:=Tryz.sizeOf215
 v70:=Tryz.zeroValue215
 t76:=Tryz.underlying227
 a76:=Tryz.isAgg227
 z76:=Tryz.sizeOf227
 v76:=Tryz.zeroValue227
 t77:=Tryz.underlying228
 a77:=Tryz.isAgg228
 z77:=Tryz.sizeOf228
 v77:=Tryz.zeroValue228 }
end Go.Proofs
namespace Go.Proofs.YtbjbjboehjdcaaaGreat
open Go.Vx Go.Sort Go.Proofs
theorem Qwb:SWO (ltOf QbS) where
 irrefl x:=by unfold ltOf;rw [decide_eq_false_iff_not,QdI,QbW];decide
 trans x y z h1 h2:=by unfold ltOf at *;rw [decide_eq_true_iff,QdI] at *;exact Qcp h1 h2
 ntrans x y z h1 h2:=by unfold ltOf at *;rw [decide_eq_false_iff_not,QdI,QdF] at *;omega
theorem Qux:QgH Tryz.prog 48 49 cec 106 7 QkG :=
 QoF (J:=Tryz.sortE_ren) (k:=7) (T:=106) Tryz.sortE Tryz.isAgg106 Tryz.sizeOf106 (fun _=>rfl) Qbj Qwb Tryz.call49 (fun w x y=>Tt.order_ok w x y) (fun w=>AnyF.slices_SortFunc_none Tryz.sortE none 0 _ w)
end Go.Proofs.YtbjbjboehjdcaaaGreat
namespace Go.Proofs
open Go Go.Vx Go.RowKit
open Go.Sort (ltInt medianAdjacent order2 partition)
namespace Tt
theorem Qo2 (w:World) (x:Int):Calls Tryz.prog 127 #[.int .u16 x] w (fun e w'=>e = .returned (.bool false)/\Own w no w' []):=by
 refine Qai (n:=6) Tryz.func127 rfl Tryz.ntmps127 rfl ?_
 have hs:=Own.start w
 refine Qag (Qab (Qaa (Qad (V:=.bool false) rfl (Qae (Qag (Qab (Qaa (Qac (V:=I7 x) rfl (Qaa (Qac (V:=I7 x) rfl (Qaa (Qcv rfl rfl (Qaa (Qad (V:=.bool (!decide (x=x))) rfl (Qae (Qaw ?_))))))))))))))))
 refine ⟨_,Qaq (V:=.bool (!decide (x=x))) Tryz.results127 rfl,(Zr hs ?_)⟩
 simp
theorem Qcr (w:World) (x y:Int):Calls Tryz.prog 178 #[.int .u16 x,.int .u16 y] w (fun e w'=>e = .returned (.bool (decide (x<y)))/\Own w no w' []):=by
 refine Qai (n:=17) Tryz.func178 rfl Tryz.ntmps178 rfl ?_
 have hs:=Own.start w
 refine Qag (Qab (Qaa (Qad (V:=.bool false) rfl (Qae (Qag (Qbw [some 5,some 6,some 7,some 8,some 9,some 10,some 11,some 12,some 13,some 14,some 15,some 16,some 4] [] [0,1,3,7,15,31,63,127,255,255,1023,2047,4095] [pv (I7 x),pv (.bool false),pv (.bool false),pg false (.bool true),pg false (.bool true),pg false (.bool true),pv (.bool false),pv (.bool false),pv (I7 x),pv (I7 y),pv (.bool (decide (x<y))),pv (.bool (decide (x<y))),pv (.bool (decide (x<y)))] (fun _ _=>_) [12] (by kernel_rfl) hs ⟨?_,?_,?_,?_,?_,?_,?_,?_,?_,?_,?_,?_,?_,trivial⟩ ?_))))))
 ·exact oa [] fun D J w hs=>Qac (V:=.int .u16 x) rfl (Zz hs)
 ·exact oa [0] fun D J w hs=>Qat (vs:=[.int .u16 x]) (V:=.bool false) QnQ rfl rfl (Qo2 _ x) hs fun _ hs=>Zz hs
 ·exact oa [1] fun D J w hs=>Qac (V:=.bool false) rfl (Zz hs)
 ·exact obg [] [] false rfl (fun _=>rfl) rfl (fun _ _ _ _ h=>h) (fun _ _ _ h=>nomatch h)
 ·exact obg [] [] false rfl (fun _=>rfl) rfl (fun _ _ _ _ h=>h) (fun _ _ _ h=>nomatch h)
 ·exact obg [] [] false rfl (fun _=>rfl) rfl (fun _ _ _ _ h=>h) (fun _ _ _ h=>nomatch h)
 ·exact oa [2] fun D J w hs=>QcE (V:=.bool false) rfl rfl (Zz hs)
 ·exact oa [6] fun D J w hs=>Qac (V:=.bool false) rfl (Zz hs)
 ·exact obg [7] [] false rfl (fun _=>rfl) rfl (fun _ _ _ h=>nomatch h) fun D J w _ hs=>Qac (V:=I7 x) rfl (Zz hs)
 ·exact obg [7] [] false rfl (fun _=>rfl) rfl (fun _ _ _ h=>nomatch h) fun D J w _ hs=>Qac (V:=I7 y) rfl (Zz hs)
 ·exact obg [7,8,9] [] false rfl (fun _=>rfl) rfl (fun _ _ _ h=>nomatch h) fun D J w _ hs=>Qa2 rfl rfl (Zz hs)
 ·exact oa [7,10] fun D J w hs=>QcE (V:=.bool (decide (x<y))) rfl rfl (Zz hs)
 ·exact oa [11] fun D J w hs=>Qad (V:=.bool (decide (x<y))) rfl (Zz hs)
 rintro J1 w2 J2 hJ hs
 replace hJ:J2=upd (mix (sq 5 12++[4]) J1 _) 4 (.bool (decide (x<y))):=hJ
 subst hJ
 refine Qaw ?_
 refine ⟨_,Qaq (V:=.bool (decide (x<y))) Tryz.results178 rfl,(Zr hs ?_)⟩
 first|rfl|simp
theorem Qsp {lo j:Nat} {d:Array Int} (h1:(lo:Int)<(j:Int)) (h2:d[j]!<d[j-1]!):Sort.insInner ltInt lo j d=Sort.insInner ltInt lo (j-1) (Sort.swp d j (j-1)):=by
 obtain ⟨i,rfl⟩:∃ i,j=i+1:=⟨j-1,by omega⟩
 rw [Nat.add_sub_cancel] at *
 rw [Sort.insInner,if_pos]
 simp [ltInt,h2];omega
theorem QsA {lo j:Nat} {d:Array Int} (h:(decide ((lo:Int)<(j:Int))&&decide (d[j]!<d[j-1]!))=false):Sort.insInner ltInt lo j d=d:=by
 cases j with
 | zero=>rfl
 | succ i =>
  rw [Sort.insInner,if_neg]
  intro h2
  simp [ltInt] at h2 h
  have:=h (by omega)
  omega
theorem Qsc {lo hi k:Nat} {d:Array Int} (h:(k:Int)<(hi:Int)):Sort.insOuter ltInt lo hi k d=Sort.insOuter ltInt lo hi (k+1) (Sort.insInner ltInt lo k d):=by
 rw [Sort.insOuter,if_pos (by omega)]
theorem Qs1 {lo hi k:Nat} {d:Array Int} (h:¬(k:Int)<(hi:Int)):Sort.insOuter ltInt lo hi k d=d:=by
 rw [Sort.insOuter,if_neg (by omega)]
theorem QuK (w:World) (S:Nat->Prop) (a:Option Addr) (N c:Nat) (d:Array Int) (hsz:d.size=N) (hN:N<=2305843009213693951) (lo hi:Nat) (h1:lo<=hi) (h2:hi<=N) (hR:(row (.slice a N c) (d.toList.map (ic .u16)) 32 1).holds w S) (hlt:∀ x,S x->x<w.heap.size):Calls Tryz.prog 172 #[.slice a N c,.int .i64 (lo:Int),.int .i64 (hi:Int)] w (fun e w'=>∃ x:Unit,e = .returned (.tuple #[])/\Own w S w' [row (.slice a N c) ((Sort.insertionSort ltInt d lo hi).toList.map (ic .u16)) 32 1]/\(Sort.insertionSort ltInt d lo hi).size=N):=by
 refine Qai (n:=49) Tryz.func172 rfl Tryz.ntmps172 rfl ?_
 have hs:=Own.lent hR hlt
 refine Qag (Qab (Qaa (Qac (V:=I6 (lo:Int)) rfl (Qaa (QaF (a:=(lo:Int)) (b:=1) (c:=((lo+1:Nat):Int)) rfl rfl (Qak (by omega) (by omega)) (Qaa (Qad (V:=I6 ((lo+1:Nat):Int)) rfl (Qae (Qan (QaD (fun J μ J' w'=>∃ (Jo:Env) (k:Nat) (d1:Array Int),J'=upd (mix ([6,7]++sq 10 39) Jo J) 6 (I6 (k:Int))/\(lo+1<=k)/\(k<=hi∨k=lo+1)/\(d1.size=N)/\(Sort.insOuter ltInt lo hi k d1=Sort.insertionSort ltInt d lo hi)/\μ=hi-k/\Own w S w' [row (.slice a N c) (d1.toList.map (ic .u16)) 32 1]) ?_ ?_))))))))))
 ·exact ⟨_,_,lo+1,d,Qal (Qap (ds:=([6,7]++sq 10 39)) (Agr.refl _ _)) rfl,(Nat.le_refl _),(Or.inr rfl),hsz,rfl,rfl,hs⟩
 rintro μ J' w1 ⟨Jo,k,d1,rfl,hk0,hk,hz1,hev,rfl,hs⟩
 refine Qag (Qag (Qab (Qaa (Qac (V:=I6 (k:Int)) rfl (Qaa (Qac (V:=I6 (hi:Int)) rfl (Qaa (Qa2 rfl rfl (Qae (Qam (t:=decide ((k:Int)<(hi:Int))) rfl (fun c2=>?_) (fun c2=>?_)))))))))))
 ·
  replace c2:=QQ1 c2
  refine Qao (Qag (Qan (Qag (Qab (Qaa (Qac (V:=I6 (k:Int)) rfl (Qaa (Qad (V:=I6 (k:Int)) rfl (Qae (Qan (QaD (fun J μ J' w'=>∃ (Jo:Env) (j:Nat) (d2:Array Int),J'=upd (mix ([7]++sq 16 33) Jo J) 7 (I6 (j:Int))/\(lo<=j)/\(j<=k)/\(d2.size=N)/\(Sort.insInner ltInt lo j d2=Sort.insInner ltInt lo k d1)/\μ=2*j/\Own w S w' [row (.slice a N c) (d2.toList.map (ic .u16)) 32 1]) ?_ ?_)))))))))))
  ·exact ⟨_,_,k,d1,Qal (Qap (ds:=([7]++sq 16 33)) (Agr.refl _ _)) rfl,(by omega),(Nat.le_refl _),hz1,rfl,rfl,hs⟩
  rintro μ J' w3 ⟨Jo,j,d2,rfl,hj0,hj,hz2,hin,rfl,hs⟩
  refine Qag (Qag (QaH HM [some 16,some 17,some 18,some 19,some 20,some 21,some 22,some 23,some 24,some 25,some 26,some 27,some 28,some 29,some 30] [] [0,0,3,7,15,15,63,127,15,15,527,1807,3855,8191,16383] [pv (I6 (j:Int)),pv (I6 (lo:Int)),pv (.bool (decide ((lo:Int)<(j:Int)))),pv (.bool (decide ((lo:Int)<(j:Int)))),pg ((decide ((lo:Int)<(j:Int))) == true) (.slice a N c),pg ((decide ((lo:Int)<(j:Int))) == true) (I6 (j:Int)),pg ((decide ((lo:Int)<(j:Int))) == true) (.pointer (some ⟨bkS (.slice a N c),ofS (.slice a N c)+(j:Int).toNat*1,none⟩)),pg ((decide ((lo:Int)<(j:Int))) == true) (I7 (d2[j]!)),pg ((decide ((lo:Int)<(j:Int))) == true) (.slice a N c),pg ((decide ((lo:Int)<(j:Int))) == true) (I6 (j:Int)),pg ((decide ((lo:Int)<(j:Int))) == true) (I6 ((j-1:Nat):Int)),pg ((decide ((lo:Int)<(j:Int))) == true) (.pointer (some ⟨bkS (.slice a N c),ofS (.slice a N c)+((j-1:Nat):Int).toNat*1,none⟩)),pg ((decide ((lo:Int)<(j:Int))) == true) (I7 (d2[j-1]!)),pg ((decide ((lo:Int)<(j:Int))) == true) (.bool (decide (d2[j]!<d2[j-1]!))),pv (.bool ((decide ((lo:Int)<(j:Int)))&&(decide (d2[j]!<d2[j-1]!))))] (fun _ _=>_) [14] (by kernel_rfl) hs ⟨?_,?_,?_,?_,?_,?_,?_,?_,?_,?_,?_,?_,?_,?_,?_,trivial⟩ ?_))
  ·exact oa [] fun D J w hs=>Qac (V:=.int .i64 (j:Int)) rfl (Zz hs)
  ·exact oa [] fun D J w hs=>Qac (V:=.int .i64 (lo:Int)) rfl (Zz hs)
  ·exact oa [0,1] fun D J w hs=>Qb2 rfl rfl (Zz hs)
  ·exact oa [2] fun D J w hs=>Qac (V:=.bool (decide ((lo:Int)<(j:Int)))) rfl (Zz hs)
  ·refine og [3] fun D J w hG hs=>?_
   have hgd:=QQ1 (eq_of_beq hG)
   exact Qac (V:=.slice a N c) rfl (Zz hs)
  ·refine og [3] fun D J w hG hs=>?_
   have hgd:=QQ1 (eq_of_beq hG)
   exact Qac (V:=.int .i64 (j:Int)) rfl (Zz hs)
  ·refine oy [3,4,5] [4,5] fun D J w hG hs=>?_
   have hgd:=QQ1 (eq_of_beq hG)
   exact Qax QaN Qar.1 (hs.rd 0 rfl) rfl rfl (by omega) (by simp only [QQ6,QQ9,QQ5,Go.Sort.size_swp];omega) (Zz hs)
  ·refine oy [3,6] [6] fun D J w hG hs=>?_
   have hgd:=QQ1 (eq_of_beq hG)
   exact QaW (j:=0) (V:=.int .u16 (d2[j]!)) j Qar (hs.rd 0 rfl) (Qbo (by omega)) rfl rfl (by omega) (Zz hs)
  ·refine og [3] fun D J w hG hs=>?_
   have hgd:=QQ1 (eq_of_beq hG)
   exact Qac (V:=.slice a N c) rfl (Zz hs)
  ·refine og [3] fun D J w hG hs=>?_
   have hgd:=QQ1 (eq_of_beq hG)
   exact Qac (V:=.int .i64 (j:Int)) rfl (Zz hs)
  ·refine oy [3,9] [9] fun D J w hG hs=>?_
   have hgd:=QQ1 (eq_of_beq hG)
   exact Qa5 (a:=(j:Int)) (b:=1) (c:=((j-1:Nat):Int)) rfl rfl (Qak (by omega) (by omega)) (Zz hs)
  ·refine oy [3,8,10] [8,10] fun D J w hG hs=>?_
   have hgd:=QQ1 (eq_of_beq hG)
   exact Qax QaN Qar.1 (hs.rd 0 rfl) rfl rfl (by omega) (by simp only [QQ6,QQ9,QQ5,Go.Sort.size_swp];omega) (Zz hs)
  ·refine oy [3,11] [11] fun D J w hG hs=>?_
   have hgd:=QQ1 (eq_of_beq hG)
   exact QaW (j:=0) (V:=.int .u16 (d2[j-1]!)) (j-1) Qar (hs.rd 0 rfl) (Qbo (by omega)) rfl rfl (by omega) (Zz hs)
  ·refine oy [3,7,12] [7,12] fun D J w hG hs=>?_
   have hgd:=QQ1 (eq_of_beq hG)
   exact Qat (vs:=[.int .u16 (d2[j]!),.int .u16 (d2[j-1]!)]) (V:=.bool (decide (d2[j]!<d2[j-1]!))) Qdc rfl rfl (Qcr _ (d2[j]!) (d2[j-1]!)) hs fun _ hs=>Zz hs
  ·exact oa [3,13] fun D J w hs=>Qbn (h':=decide (d2[j]!<d2[j-1]!)) rfl rfl rfl (Zz hs)
  rintro J1 w5 J2 hJ hs
  replace hJ:J2=upd (mix (sq 16 15) J1 _) 30 (.bool ((decide ((lo:Int)<(j:Int)))&&(decide (d2[j]!<d2[j-1]!)))):=hJ
  subst hJ
  refine Qam (t:=(decide ((lo:Int)<(j:Int)))&&(decide (d2[j]!<d2[j-1]!))) rfl (fun c6=>?_) (fun c6=>?_)
  ·
   have c6r:=Qcy c6
   replace c6:=Qb3 c6
   replace c6:=QQ1 c6
   replace c6r:=QQ1 c6r
   refine Qao (Qag (Qan (QaH HM [some 33,some 34,some 35,some 36,some 37,some 38,some 39,some 40,some 41,some 42,some 43,some 44,some 45,some 46,some 47,none,some 48,none] [] [0,0,0,0,8,0,0,64,224,480,0,0,3072,7168,16355,32739,65535,131071] [pv (.slice a N c),pv (I6 (j:Int)),pv (.slice a N c),pv (I6 (j:Int)),pv (I6 ((j-1:Nat):Int)),pv (.slice a N c),pv (I6 (j:Int)),pv (I6 ((j-1:Nat):Int)),pv (.pointer (some ⟨bkS (.slice a N c),ofS (.slice a N c)+((j-1:Nat):Int).toNat*1,none⟩)),pv (I7 (d2[j-1]!)),pv (.slice a N c),pv (I6 (j:Int)),pv (.pointer (some ⟨bkS (.slice a N c),ofS (.slice a N c)+(j:Int).toNat*1,none⟩)),pv (I7 (d2[j]!)),pv (.pointer (some ⟨bkS (.slice a N c),ofS (.slice a N c)+(j:Int).toNat*1,none⟩)),pn,pv (.pointer (some ⟨bkS (.slice a N c),ofS (.slice a N c)+((j-1:Nat):Int).toNat*1,none⟩)),pn] (fun D J=>[cond (D 17) (row (.slice a N c) ((((d2.setIfInBounds j (d2[j-1]!)).setIfInBounds (j-1) (d2[j]!)).toList).map (ic .u16)) 32 1) (cond (D 15) (row (.slice a N c) (((d2.setIfInBounds j (d2[j-1]!)).toList).map (ic .u16)) 32 1) (row (.slice a N c) (d2.toList.map (ic .u16)) 32 1))]) [] (by kernel_rfl) hs ⟨?_,?_,?_,?_,?_,?_,?_,?_,?_,?_,?_,?_,?_,?_,?_,?_,?_,?_,trivial⟩ ?_)))
   ·exact oa [] fun D J w hs=>Qac (V:=.slice a N c) rfl (Zz hs)
   ·exact oa [] fun D J w hs=>Qac (V:=.int .i64 (j:Int)) rfl (Zz hs)
   ·exact oa [] fun D J w hs=>Qac (V:=.slice a N c) rfl (Zz hs)
   ·exact oa [] fun D J w hs=>Qac (V:=.int .i64 (j:Int)) rfl (Zz hs)
   ·exact oa [3] fun D J w hs=>Qa5 (a:=(j:Int)) (b:=1) (c:=((j-1:Nat):Int)) rfl rfl (Qak (by omega) (by omega)) (Zz hs)
   ·exact oa [] fun D J w hs=>Qac (V:=.slice a N c) rfl (Zz hs)
   ·exact oa [] fun D J w hs=>Qac (V:=.int .i64 (j:Int)) rfl (Zz hs)
   ·exact oa [6] fun D J w hs=>Qa5 (a:=(j:Int)) (b:=1) (c:=((j-1:Nat):Int)) rfl rfl (Qak (by omega) (by omega)) (Zz hs)
   ·exact ob [5,7] [15,17] rfl rfl fun D J w hs=>Qax QaN Qar.1 (hs.rd 0 rfl) rfl rfl (by omega) (by simp only [QQ6,QQ9,QQ5,Go.Sort.size_swp];omega) (Zz hs)
   ·exact ob [8] [15,17] rfl rfl fun D J w hs=>QaW (j:=0) (V:=I7 (d2[j-1]!)) (j-1) Qar (hs.rd 0 rfl) (Qbo (by omega)) rfl rfl (by omega) (Zz hs)
   ·exact oa [] fun D J w hs=>Qac (V:=.slice a N c) rfl (Zz hs)
   ·exact oa [] fun D J w hs=>Qac (V:=.int .i64 (j:Int)) rfl (Zz hs)
   ·exact ob [10,11] [15,17] rfl rfl fun D J w hs=>Qax QaN Qar.1 (hs.rd 0 rfl) rfl rfl (by omega) (by simp only [QQ6,QQ9,QQ5,Go.Sort.size_swp];omega) (Zz hs)
   ·exact ob [12] [15,17] rfl rfl fun D J w hs=>QaW (j:=0) (V:=I7 (d2[j]!)) j Qar (hs.rd 0 rfl) (Qbo (by omega)) rfl rfl (by omega) (Zz hs)
   ·exact ob [0,1] [15,17] rfl rfl fun D J w hs=>Qax QaN Qar.1 (hs.rd 0 rfl) rfl rfl (by omega) (by simp only [QQ6,QQ9,QQ5,Go.Sort.size_swp];omega) (Zz hs)
   ·exact ob [9,14] [17] rfl rfl fun D J w hs=>Qch (z:=d2[j-1]!) j Qar hs 0 rfl rfl (by omega) (by first|omega|(simp only [QQ5,Go.Sort.size_swp];omega)) rfl rfl rfl fun _ hs=>⟨trivial,hs⟩
   ·exact ob [2,4,15] [17] rfl rfl fun D J w hs=>Qax QaN Qar.1 (hs.rd 0 rfl) rfl rfl (by omega) (by simp only [QQ6,QQ9,QQ5,Go.Sort.size_swp];omega) (Zz hs)
   ·exact oa [13,15,16] fun D J w hs=>Qch (z:=d2[j]!) (j-1) Qar hs 0 rfl rfl (by omega) (by first|omega|(simp only [QQ5,Go.Sort.size_swp];omega)) rfl rfl rfl fun _ hs=>⟨trivial,hs⟩
   rintro J1 w9 J2 hJ hs
   replace hJ:J2=mix (sq 33 16) J1 _:=hJ
   replace hs:Own w S w9 [row (.slice a N c) ((((d2.setIfInBounds j (d2[j-1]!)).setIfInBounds (j-1) (d2[j]!)).toList).map (ic .u16)) 32 1]:=hs
   subst hJ
   refine Qab (Qaa (Qac (V:=I6 (j:Int)) rfl (Qaa (Qa5 (a:=(j:Int)) (b:=1) (c:=((j-1:Nat):Int)) rfl rfl (Qak (by omega) (by omega)) (Qaa (Qad (V:=I6 ((j-1:Nat):Int)) rfl (Qae ?_)))))))
   refine ⟨_,?_,_,j-1,((d2.setIfInBounds j (d2[j-1]!)).setIfInBounds (j-1) (d2[j]!)),Qal (Qap (ds:=([7]++sq 16 33)) (by repeat (first|exact Agr.refl _ _|refine Agr.upd ?_ rfl|refine Agr.mix ?_ rfl))) rfl,(by omega),(by omega),(by simp only [QQ5];exact hz2),(by rw [← hin];exact (Qsp c6 c6r).symm),rfl,hs.take 1⟩
   omega
  refine QaJ (Qab (Qaa (Qac (V:=I6 (k:Int)) rfl (Qaa (QaF (a:=(k:Int)) (b:=1) (c:=((k+1:Nat):Int)) rfl rfl (Qak (by omega) (by omega)) (Qaa (Qad (V:=I6 ((k+1:Nat):Int)) rfl (Qae ?_))))))))
  refine ⟨_,?_,_,k+1,d2,Qal (Qap (ds:=([6,7]++sq 10 39)) (by repeat (first|exact Agr.refl _ _|refine Agr.upd ?_ rfl|refine Agr.mix ?_ rfl))) rfl,(by omega),(by omega),hz2,(by rw [← hev,Qsc (d:=d1) c2,← hin,QsA c6]),rfl,hs.take 1⟩
  omega
 replace c2:=QQ2 c2
 refine QaJ ?_
 refine ⟨_,Qbf Tryz.results172,?_⟩
 have hX:d1=Sort.insertionSort ltInt d lo hi:=by rw [← hev,Qs1 c2]
 exact ⟨(),rfl,hX ▸ hs.take 1,hX ▸ (by first|assumption|(simp only [QQ5,Go.Sort.size_swp];omega))⟩
end Tt
end Go.Proofs
namespace Go.Proofs
open Go Go.Vx Go.RowKit
open Go.Sort (ltInt medianAdjacent order2 partition)
namespace Tt
section
variable {hi first r:Nat} {d:Array Int}
theorem QqK (h:(hi:Int)<=((2*r+1:Nat):Int)):Sort.siftDown ltInt hi first r d=d:=by rw [Sort.siftDown,dif_pos (by omega)]
theorem Qv3 (h:¬(hi:Int)<=((2*r+1:Nat):Int)) (h1:(((2*r+1)+1:Nat):Int)<(hi:Int)) (h2:d[first+(2*r+1)]!<d[(first+(2*r+1))+1]!) :
  Sort.siftDown ltInt hi first r d=if d[first+r]!<d[first+((2*r+1)+1)]! then Sort.siftDown ltInt hi first ((2*r+1)+1) (Sort.swp d (first+r) (first+((2*r+1)+1))) else d:=by
 rw [Sort.siftDown,dif_neg (by omega),if_pos (by simp only [ltInt,h2,decide_true,Bool.and_true,decide_eq_true_eq];omega)]
 by_cases h3:d[first+r]!<d[first+(2*r+2)]!
 ·rw [if_neg (by simp [ltInt,h3]),dif_pos (by omega)]
  show _=if d[first+r]!<d[first+(2*r+2)]! then Sort.siftDown ltInt hi first (2*r+2) (Sort.swp d (first+r) (first+(2*r+2))) else d
  rw [if_pos h3]
 rw [if_pos (by simp only [ltInt,Bool.not_eq_true',decide_eq_false_iff_not];exact h3)]
 show _=if d[first+r]!<d[first+(2*r+2)]! then Sort.siftDown ltInt hi first (2*r+2) (Sort.swp d (first+r) (first+(2*r+2))) else d
 rw [if_neg h3]
theorem Qv6 (h:¬(hi:Int)<=((2*r+1:Nat):Int)) (h1:(decide ((((2*r+1)+1:Nat):Int)<(hi:Int))&&decide (d[first+(2*r+1)]!<d[(first+(2*r+1))+1]!))=false) :
  Sort.siftDown ltInt hi first r d=if d[first+r]!<d[first+(2*r+1)]! then Sort.siftDown ltInt hi first (2*r+1) (Sort.swp d (first+r) (first+(2*r+1))) else d:=by
 rw [Sort.siftDown,dif_neg (by omega),if_neg]
 ·by_cases h3:d[first+r]!<d[first+(2*r+1)]!
  ·rw [if_neg (by simp [ltInt,h3]),if_pos h3]
  rw [if_pos (by simp only [ltInt,Bool.not_eq_true',decide_eq_false_iff_not];exact h3),if_neg h3]
 intro h2
 rw [Bool.and_eq_true,decide_eq_true_iff] at h2
 rw [Bool.and_eq_false_iff,decide_eq_false_iff_not,decide_eq_false_iff_not] at h1
 rcases h1 with h1|h1
 ·exact h1 (by omega)
 exact h1 (by simpa [ltInt] using h2.2)
end
theorem QnO (w:World) (S:Nat->Prop) (a:Option Addr) (N c:Nat) (d:Array Int) (hsz:d.size=N) (hN:N<=2305843009213693951) (lo hi first:Nat) (h1:lo<=N) (h2:first+hi<=N) (hR:(row (.slice a N c) (d.toList.map (ic .u16)) 32 1).holds w S) (hlt:∀ x,S x->x<w.heap.size):Calls Tryz.prog 185 #[.slice a N c,.int .i64 (lo:Int),.int .i64 (hi:Int),.int .i64 (first:Int)] w (fun e w'=>∃ x:Unit,e = .returned (.tuple #[])/\Own w S w' [row (.slice a N c) ((Sort.siftDown ltInt hi first lo d).toList.map (ic .u16)) 32 1]/\(Sort.siftDown ltInt hi first lo d).size=N):=by
 refine Qai (n:=76) Tryz.func185 rfl Tryz.ntmps185 rfl ?_
 have hs:=Own.lent hR hlt
 refine Qag (Qab (Qaa (Qac (V:=I6 (lo:Int)) rfl (Qaa (Qad (V:=I6 (lo:Int)) rfl (Qae (Qan (QaD (fun J μ J' w'=>∃ (Jo:Env) (r:Nat) (d1:Array Int),J'=upd (mix ([8,9]++sq 11 65) Jo J) 8 (I6 (r:Int))/\(r<=N)/\(d1.size=N)/\(Sort.siftDown ltInt hi first r d1=Sort.siftDown ltInt hi first lo d)/\μ=hi-r/\Own w S w' [row (.slice a N c) (d1.toList.map (ic .u16)) 32 1]) ?_ ?_))))))))
 ·exact ⟨_,_,lo,d,Qal (Qap (ds:=([8,9]++sq 11 65)) (Agr.refl _ _)) rfl,(by omega),hsz,rfl,rfl,hs⟩
 rintro μ J' w1 ⟨Jo,r,d1,rfl,hr0,hz1,hev,rfl,hs⟩
 refine Qan (Qag (Qab (Qaa (Qac (V:=I6 (r:Int)) rfl (Qaa (QgI (a:=2) (b:=(r:Int)) (c:=((2*r:Nat):Int)) rfl rfl (Qak (by omega) (by omega)) (Qaa (QaF (a:=((2*r:Nat):Int)) (b:=1) (c:=(((2*r)+1:Nat):Int)) rfl rfl (Qak (by omega) (by omega)) (Qaa (Qad (V:=I6 (((2*r)+1:Nat):Int)) rfl (Qae (Qag (Qag (Qab (Qaa (Qac (V:=I6 (((2*r)+1:Nat):Int)) rfl (Qaa (Qac (V:=I6 (hi:Int)) rfl (Qaa (QcZ rfl rfl (Qae (Qam (t:=decide ((hi:Int)<=(((2*r)+1:Nat):Int))) rfl (fun c2=>?_) (fun c2=>?_)))))))))))))))))))))))
 ·
  replace c2:=QQ1 c2
  refine QaJ ?_
  refine ⟨_,Qbf Tryz.results185,?_⟩
  have hX:d1=Sort.siftDown ltInt hi first lo d:=by rw [← hev,QqK c2]
  exact ⟨(),rfl,hX ▸ hs.take 1,hX ▸ (by first|assumption|(simp only [QQ5,Go.Sort.size_swp];omega))⟩
 replace c2:=QQ2 c2
 refine Qao (Qag (Qag (QaH HM [some 17,some 18,some 19,some 20,some 21,some 22,some 23,some 24,some 25,some 26,some 27,some 28,some 29,some 30,some 31,some 32,some 33,some 34,some 35,some 36] [] [0,1,0,7,15,31,31,31,223,511,1023,31,31,31,12319,28703,63519,129055,262143,524287] [pv (I6 (((2*r)+1:Nat):Int)),pv (I6 ((((2*r)+1)+1:Nat):Int)),pv (I6 (hi:Int)),pv (.bool (decide (((((2*r)+1)+1:Nat):Int)<(hi:Int)))),pv (.bool (decide (((((2*r)+1)+1:Nat):Int)<(hi:Int)))),pg ((decide (((((2*r)+1)+1:Nat):Int)<(hi:Int))) == true) (.slice a N c),pg ((decide (((((2*r)+1)+1:Nat):Int)<(hi:Int))) == true) (I6 (first:Int)),pg ((decide (((((2*r)+1)+1:Nat):Int)<(hi:Int))) == true) (I6 (((2*r)+1:Nat):Int)),pg ((decide (((((2*r)+1)+1:Nat):Int)<(hi:Int))) == true) (I6 ((first+((2*r)+1):Nat):Int)),pg ((decide (((((2*r)+1)+1:Nat):Int)<(hi:Int))) == true) (.pointer (some ⟨bkS (.slice a N c),ofS (.slice a N c)+((first+((2*r)+1):Nat):Int).toNat*1,none⟩)),pg ((decide (((((2*r)+1)+1:Nat):Int)<(hi:Int))) == true) (I7 (d1[first+((2*r)+1)]!)),pg ((decide (((((2*r)+1)+1:Nat):Int)<(hi:Int))) == true) (.slice a N c),pg ((decide (((((2*r)+1)+1:Nat):Int)<(hi:Int))) == true) (I6 (first:Int)),pg ((decide (((((2*r)+1)+1:Nat):Int)<(hi:Int))) == true) (I6 (((2*r)+1:Nat):Int)),pg ((decide (((((2*r)+1)+1:Nat):Int)<(hi:Int))) == true) (I6 ((first+((2*r)+1):Nat):Int)),pg ((decide (((((2*r)+1)+1:Nat):Int)<(hi:Int))) == true) (I6 (((first+((2*r)+1))+1:Nat):Int)),pg ((decide (((((2*r)+1)+1:Nat):Int)<(hi:Int))) == true) (.pointer (some ⟨bkS (.slice a N c),ofS (.slice a N c)+(((first+((2*r)+1))+1:Nat):Int).toNat*1,none⟩)),pg ((decide (((((2*r)+1)+1:Nat):Int)<(hi:Int))) == true) (I7 (d1[(first+((2*r)+1))+1]!)),pg ((decide (((((2*r)+1)+1:Nat):Int)<(hi:Int))) == true) (.bool (decide (d1[first+((2*r)+1)]!<d1[(first+((2*r)+1))+1]!))),pv (.bool ((decide (((((2*r)+1)+1:Nat):Int)<(hi:Int)))&&(decide (d1[first+((2*r)+1)]!<d1[(first+((2*r)+1))+1]!))))] (fun _ _=>_) [19] (by kernel_rfl) hs ⟨?_,?_,?_,?_,?_,?_,?_,?_,?_,?_,?_,?_,?_,?_,?_,?_,?_,?_,?_,?_,trivial⟩ ?_)))
 ·exact oa [] fun D J w hs=>Qac (V:=.int .i64 (((2*r)+1:Nat):Int)) rfl (Zz hs)
 ·exact oa [0] fun D J w hs=>QaF (a:=(((2*r)+1:Nat):Int)) (b:=1) (c:=((((2*r)+1)+1:Nat):Int)) rfl rfl (Qak (by omega) (by omega)) (Zz hs)
 ·exact oa [] fun D J w hs=>Qac (V:=.int .i64 (hi:Int)) rfl (Zz hs)
 ·exact oa [1,2] fun D J w hs=>Qa2 rfl rfl (Zz hs)
 ·exact oa [3] fun D J w hs=>Qac (V:=.bool (decide (((((2*r)+1)+1:Nat):Int)<(hi:Int)))) rfl (Zz hs)
 ·refine og [4] fun D J w hG hs=>?_
  have hgd:=QQ1 (eq_of_beq hG)
  exact Qac (V:=.slice a N c) rfl (Zz hs)
 ·refine og [4] fun D J w hG hs=>?_
  have hgd:=QQ1 (eq_of_beq hG)
  exact Qac (V:=.int .i64 (first:Int)) rfl (Zz hs)
 ·refine og [4] fun D J w hG hs=>?_
  have hgd:=QQ1 (eq_of_beq hG)
  exact Qac (V:=.int .i64 (((2*r)+1:Nat):Int)) rfl (Zz hs)
 ·refine oy [4,6,7] [6,7] fun D J w hG hs=>?_
  have hgd:=QQ1 (eq_of_beq hG)
  exact QaF (a:=(first:Int)) (b:=(((2*r)+1:Nat):Int)) (c:=((first+((2*r)+1):Nat):Int)) rfl rfl (Qak (by omega) (by omega)) (Zz hs)
 ·refine oy [4,5,8] [5,8] fun D J w hG hs=>?_
  have hgd:=QQ1 (eq_of_beq hG)
  exact Qax QaN Qar.1 (hs.rd 0 rfl) rfl rfl (by omega) (by simp only [QQ6,QQ9,QQ5,Go.Sort.size_swp];omega) (Zz hs)
 ·refine oy [4,9] [9] fun D J w hG hs=>?_
  have hgd:=QQ1 (eq_of_beq hG)
  exact QaW (j:=0) (V:=.int .u16 (d1[first+((2*r)+1)]!)) (first+((2*r)+1)) Qar (hs.rd 0 rfl) (Qbo (by omega)) rfl rfl (by omega) (Zz hs)
 ·refine og [4] fun D J w hG hs=>?_
  have hgd:=QQ1 (eq_of_beq hG)
  exact Qac (V:=.slice a N c) rfl (Zz hs)
 ·refine og [4] fun D J w hG hs=>?_
  have hgd:=QQ1 (eq_of_beq hG)
  exact Qac (V:=.int .i64 (first:Int)) rfl (Zz hs)
 ·refine og [4] fun D J w hG hs=>?_
  have hgd:=QQ1 (eq_of_beq hG)
  exact Qac (V:=.int .i64 (((2*r)+1:Nat):Int)) rfl (Zz hs)
 ·refine oy [4,12,13] [12,13] fun D J w hG hs=>?_
  have hgd:=QQ1 (eq_of_beq hG)
  exact QaF (a:=(first:Int)) (b:=(((2*r)+1:Nat):Int)) (c:=((first+((2*r)+1):Nat):Int)) rfl rfl (Qak (by omega) (by omega)) (Zz hs)
 ·refine oy [4,14] [14] fun D J w hG hs=>?_
  have hgd:=QQ1 (eq_of_beq hG)
  exact QaF (a:=((first+((2*r)+1):Nat):Int)) (b:=1) (c:=(((first+((2*r)+1))+1:Nat):Int)) rfl rfl (Qak (by omega) (by omega)) (Zz hs)
 ·refine oy [4,11,15] [11,15] fun D J w hG hs=>?_
  have hgd:=QQ1 (eq_of_beq hG)
  exact Qax QaN Qar.1 (hs.rd 0 rfl) rfl rfl (by omega) (by simp only [QQ6,QQ9,QQ5,Go.Sort.size_swp];omega) (Zz hs)
 ·refine oy [4,16] [16] fun D J w hG hs=>?_
  have hgd:=QQ1 (eq_of_beq hG)
  exact QaW (j:=0) (V:=.int .u16 (d1[(first+((2*r)+1))+1]!)) ((first+((2*r)+1))+1) Qar (hs.rd 0 rfl) (Qbo (by omega)) rfl rfl (by omega) (Zz hs)
 ·refine oy [4,10,17] [10,17] fun D J w hG hs=>?_
  have hgd:=QQ1 (eq_of_beq hG)
  exact Qat (vs:=[.int .u16 (d1[first+((2*r)+1)]!),.int .u16 (d1[(first+((2*r)+1))+1]!)]) (V:=.bool (decide (d1[first+((2*r)+1)]!<d1[(first+((2*r)+1))+1]!))) Qdc rfl rfl (Qcr _ (d1[first+((2*r)+1)]!) (d1[(first+((2*r)+1))+1]!)) hs fun _ hs=>Zz hs
 ·exact oa [4,18] fun D J w hs=>Qbn (h':=decide (d1[first+((2*r)+1)]!<d1[(first+((2*r)+1))+1]!)) rfl rfl rfl (Zz hs)
 rintro J1 w4 J2 hJ hs
 replace hJ:J2=upd (mix (sq 17 20) J1 _) 36 (.bool ((decide (((((2*r)+1)+1:Nat):Int)<(hi:Int)))&&(decide (d1[first+((2*r)+1)]!<d1[(first+((2*r)+1))+1]!)))):=hJ
 subst hJ
 refine Qam (t:=(decide (((((2*r)+1)+1:Nat):Int)<(hi:Int)))&&(decide (d1[first+((2*r)+1)]!<d1[(first+((2*r)+1))+1]!))) rfl (fun c5=>?_) (fun c5=>?_)
 ·
  have c5r:=Qcy c5
  replace c5:=Qb3 c5
  replace c5:=QQ1 c5
  replace c5r:=QQ1 c5r
  refine Qab (Qaa (Qac (V:=I6 (((2*r)+1:Nat):Int)) rfl (Qaa (QaF (a:=(((2*r)+1:Nat):Int)) (b:=1) (c:=((((2*r)+1)+1:Nat):Int)) rfl rfl (Qak (by omega) (by omega)) (Qaa (Qad (V:=I6 ((((2*r)+1)+1:Nat):Int)) rfl (Qae (Qag (Qag (QaH HM [some 39,some 40,some 41,some 42,some 43,some 44,some 45,some 46,some 47,some 48,some 49,some 50,some 51,some 52] [] [0,0,0,6,15,31,0,0,0,384,960,1984,4095,8191] [pv (.slice a N c),pv (I6 (first:Int)),pv (I6 (r:Int)),pv (I6 ((first+r:Nat):Int)),pv (.pointer (some ⟨bkS (.slice a N c),ofS (.slice a N c)+((first+r:Nat):Int).toNat*1,none⟩)),pv (I7 (d1[first+r]!)),pv (.slice a N c),pv (I6 (first:Int)),pv (I6 ((((2*r)+1)+1:Nat):Int)),pv (I6 ((first+(((2*r)+1)+1):Nat):Int)),pv (.pointer (some ⟨bkS (.slice a N c),ofS (.slice a N c)+((first+(((2*r)+1)+1):Nat):Int).toNat*1,none⟩)),pv (I7 (d1[first+(((2*r)+1)+1)]!)),pv (.bool (decide (d1[first+r]!<d1[first+(((2*r)+1)+1)]!))),pv (.bool (!decide (d1[first+r]!<d1[first+(((2*r)+1)+1)]!)))] (fun _ _=>_) [13] (by kernel_rfl) hs ⟨?_,?_,?_,?_,?_,?_,?_,?_,?_,?_,?_,?_,?_,?_,trivial⟩ ?_))))))))))
  ·exact oa [] fun D J w hs=>Qac (V:=.slice a N c) rfl (Zz hs)
  ·exact oa [] fun D J w hs=>Qac (V:=.int .i64 (first:Int)) rfl (Zz hs)
  ·exact oa [] fun D J w hs=>Qac (V:=.int .i64 (r:Int)) rfl (Zz hs)
  ·exact oa [1,2] fun D J w hs=>QaF (a:=(first:Int)) (b:=(r:Int)) (c:=((first+r:Nat):Int)) rfl rfl (Qak (by omega) (by omega)) (Zz hs)
  ·exact oa [0,3] fun D J w hs=>Qax QaN Qar.1 (hs.rd 0 rfl) rfl rfl (by omega) (by simp only [QQ6,QQ9,QQ5,Go.Sort.size_swp];omega) (Zz hs)
  ·exact oa [4] fun D J w hs=>QaW (j:=0) (V:=.int .u16 (d1[first+r]!)) (first+r) Qar (hs.rd 0 rfl) (Qbo (by omega)) rfl rfl (by omega) (Zz hs)
  ·exact oa [] fun D J w hs=>Qac (V:=.slice a N c) rfl (Zz hs)
  ·exact oa [] fun D J w hs=>Qac (V:=.int .i64 (first:Int)) rfl (Zz hs)
  ·exact oa [] fun D J w hs=>Qac (V:=.int .i64 ((((2*r)+1)+1:Nat):Int)) rfl (Zz hs)
  ·exact oa [7,8] fun D J w hs=>QaF (a:=(first:Int)) (b:=((((2*r)+1)+1:Nat):Int)) (c:=((first+(((2*r)+1)+1):Nat):Int)) rfl rfl (Qak (by omega) (by omega)) (Zz hs)
  ·exact oa [6,9] fun D J w hs=>Qax QaN Qar.1 (hs.rd 0 rfl) rfl rfl (by omega) (by simp only [QQ6,QQ9,QQ5,Go.Sort.size_swp];omega) (Zz hs)
  ·exact oa [10] fun D J w hs=>QaW (j:=0) (V:=.int .u16 (d1[first+(((2*r)+1)+1)]!)) (first+(((2*r)+1)+1)) Qar (hs.rd 0 rfl) (Qbo (by omega)) rfl rfl (by omega) (Zz hs)
  ·exact oa [5,11] fun D J w hs=>Qat (vs:=[.int .u16 (d1[first+r]!),.int .u16 (d1[first+(((2*r)+1)+1)]!)]) (V:=.bool (decide (d1[first+r]!<d1[first+(((2*r)+1)+1)]!))) Qdc rfl rfl (Qcr _ (d1[first+r]!) (d1[first+(((2*r)+1)+1)]!)) hs fun _ hs=>Zz hs
  ·exact oa [12] fun D J w hs=>Qbz rfl (Zz hs)
  rintro J1 w7 J2 hJ hs
  replace hJ:J2=upd (mix (sq 39 14) J1 _) 52 (.bool (!decide (d1[first+r]!<d1[first+(((2*r)+1)+1)]!))):=hJ
  subst hJ
  refine Qam (t:=!decide (d1[first+r]!<d1[first+(((2*r)+1)+1)]!)) rfl (fun c8=>?_) (fun c8=>?_)
  ·
   replace c8:=Qby c8
   replace c8:=QQ2 c8
   refine Qaw ?_
   refine ⟨_,Qbf Tryz.results185,?_⟩
   have hX:d1=Sort.siftDown ltInt hi first lo d:=by rw [← hev,Qv3 c2 c5 c5r,if_neg c8]
   exact ⟨(),rfl,hX ▸ hs.take 1,hX ▸ (by first|assumption|(simp only [QQ5,Go.Sort.size_swp];omega))⟩
  replace c8:=Qbu c8
  replace c8:=QQ1 c8
  refine Qao (Qag (QaH HM [some 53,some 54,some 55,some 56,some 57,some 58,some 59,some 60,some 61,some 62,some 63,some 64,some 65,some 66,some 67,some 68,some 69,some 70,some 71,some 72,some 73,none,some 74,none] [] [0,0,0,6,0,0,0,96,0,0,0,1536,3840,7936,0,0,0,98304,245760,507904,1048335,2096911,4194303,8388607] [pv (.slice a N c),pv (I6 (first:Int)),pv (I6 (r:Int)),pv (I6 ((first+r:Nat):Int)),pv (.slice a N c),pv (I6 (first:Int)),pv (I6 ((((2*r)+1)+1:Nat):Int)),pv (I6 ((first+(((2*r)+1)+1):Nat):Int)),pv (.slice a N c),pv (I6 (first:Int)),pv (I6 ((((2*r)+1)+1:Nat):Int)),pv (I6 ((first+(((2*r)+1)+1):Nat):Int)),pv (.pointer (some ⟨bkS (.slice a N c),ofS (.slice a N c)+((first+(((2*r)+1)+1):Nat):Int).toNat*1,none⟩)),pv (I7 (d1[first+(((2*r)+1)+1)]!)),pv (.slice a N c),pv (I6 (first:Int)),pv (I6 (r:Int)),pv (I6 ((first+r:Nat):Int)),pv (.pointer (some ⟨bkS (.slice a N c),ofS (.slice a N c)+((first+r:Nat):Int).toNat*1,none⟩)),pv (I7 (d1[first+r]!)),pv (.pointer (some ⟨bkS (.slice a N c),ofS (.slice a N c)+((first+r:Nat):Int).toNat*1,none⟩)),pn,pv (.pointer (some ⟨bkS (.slice a N c),ofS (.slice a N c)+((first+(((2*r)+1)+1):Nat):Int).toNat*1,none⟩)),pn] (fun D J=>[cond (D 23) (row (.slice a N c) ((((d1.setIfInBounds (first+r) (d1[first+(((2*r)+1)+1)]!)).setIfInBounds (first+(((2*r)+1)+1)) (d1[first+r]!)).toList).map (ic .u16)) 32 1) (cond (D 21) (row (.slice a N c) (((d1.setIfInBounds (first+r) (d1[first+(((2*r)+1)+1)]!)).toList).map (ic .u16)) 32 1) (row (.slice a N c) (d1.toList.map (ic .u16)) 32 1))]) [] (by kernel_rfl) hs ⟨?_,?_,?_,?_,?_,?_,?_,?_,?_,?_,?_,?_,?_,?_,?_,?_,?_,?_,?_,?_,?_,?_,?_,?_,trivial⟩ ?_))
  ·exact oa [] fun D J w hs=>Qac (V:=.slice a N c) rfl (Zz hs)
  ·exact oa [] fun D J w hs=>Qac (V:=.int .i64 (first:Int)) rfl (Zz hs)
  ·exact oa [] fun D J w hs=>Qac (V:=.int .i64 (r:Int)) rfl (Zz hs)
  ·exact oa [1,2] fun D J w hs=>QaF (a:=(first:Int)) (b:=(r:Int)) (c:=((first+r:Nat):Int)) rfl rfl (Qak (by omega) (by omega)) (Zz hs)
  ·exact oa [] fun D J w hs=>Qac (V:=.slice a N c) rfl (Zz hs)
  ·exact oa [] fun D J w hs=>Qac (V:=.int .i64 (first:Int)) rfl (Zz hs)
  ·exact oa [] fun D J w hs=>Qac (V:=.int .i64 ((((2*r)+1)+1:Nat):Int)) rfl (Zz hs)
  ·exact oa [5,6] fun D J w hs=>QaF (a:=(first:Int)) (b:=((((2*r)+1)+1:Nat):Int)) (c:=((first+(((2*r)+1)+1):Nat):Int)) rfl rfl (Qak (by omega) (by omega)) (Zz hs)
  ·exact oa [] fun D J w hs=>Qac (V:=.slice a N c) rfl (Zz hs)
  ·exact oa [] fun D J w hs=>Qac (V:=.int .i64 (first:Int)) rfl (Zz hs)
  ·exact oa [] fun D J w hs=>Qac (V:=.int .i64 ((((2*r)+1)+1:Nat):Int)) rfl (Zz hs)
  ·exact oa [9,10] fun D J w hs=>QaF (a:=(first:Int)) (b:=((((2*r)+1)+1:Nat):Int)) (c:=((first+(((2*r)+1)+1):Nat):Int)) rfl rfl (Qak (by omega) (by omega)) (Zz hs)
  ·exact ob [8,11] [21,23] rfl rfl fun D J w hs=>Qax QaN Qar.1 (hs.rd 0 rfl) rfl rfl (by omega) (by simp only [QQ6,QQ9,QQ5,Go.Sort.size_swp];omega) (Zz hs)
  ·exact ob [12] [21,23] rfl rfl fun D J w hs=>QaW (j:=0) (V:=I7 (d1[first+(((2*r)+1)+1)]!)) (first+(((2*r)+1)+1)) Qar (hs.rd 0 rfl) (Qbo (by omega)) rfl rfl (by omega) (Zz hs)
  ·exact oa [] fun D J w hs=>Qac (V:=.slice a N c) rfl (Zz hs)
  ·exact oa [] fun D J w hs=>Qac (V:=.int .i64 (first:Int)) rfl (Zz hs)
  ·exact oa [] fun D J w hs=>Qac (V:=.int .i64 (r:Int)) rfl (Zz hs)
  ·exact oa [15,16] fun D J w hs=>QaF (a:=(first:Int)) (b:=(r:Int)) (c:=((first+r:Nat):Int)) rfl rfl (Qak (by omega) (by omega)) (Zz hs)
  ·exact ob [14,17] [21,23] rfl rfl fun D J w hs=>Qax QaN Qar.1 (hs.rd 0 rfl) rfl rfl (by omega) (by simp only [QQ6,QQ9,QQ5,Go.Sort.size_swp];omega) (Zz hs)
  ·exact ob [18] [21,23] rfl rfl fun D J w hs=>QaW (j:=0) (V:=I7 (d1[first+r]!)) (first+r) Qar (hs.rd 0 rfl) (Qbo (by omega)) rfl rfl (by omega) (Zz hs)
  ·exact ob [0,3] [21,23] rfl rfl fun D J w hs=>Qax QaN Qar.1 (hs.rd 0 rfl) rfl rfl (by omega) (by simp only [QQ6,QQ9,QQ5,Go.Sort.size_swp];omega) (Zz hs)
  ·exact ob [13,20] [23] rfl rfl fun D J w hs=>Qch (z:=d1[first+(((2*r)+1)+1)]!) (first+r) Qar hs 0 rfl rfl (by omega) (by first|omega|(simp only [QQ5,Go.Sort.size_swp];omega)) rfl rfl rfl fun _ hs=>⟨trivial,hs⟩
  ·exact ob [4,7,21] [23] rfl rfl fun D J w hs=>Qax QaN Qar.1 (hs.rd 0 rfl) rfl rfl (by omega) (by simp only [QQ6,QQ9,QQ5,Go.Sort.size_swp];omega) (Zz hs)
  ·exact oa [19,21,22] fun D J w hs=>Qch (z:=d1[first+r]!) (first+(((2*r)+1)+1)) Qar hs 0 rfl rfl (by omega) (by first|omega|(simp only [QQ5,Go.Sort.size_swp];omega)) rfl rfl rfl fun _ hs=>⟨trivial,hs⟩
  rintro J1 w11 J2 hJ hs
  replace hJ:J2=mix (sq 53 22) J1 _:=hJ
  replace hs:Own w S w11 [row (.slice a N c) ((((d1.setIfInBounds (first+r) (d1[first+(((2*r)+1)+1)]!)).setIfInBounds (first+(((2*r)+1)+1)) (d1[first+r]!)).toList).map (ic .u16)) 32 1]:=hs
  subst hJ
  refine Qab (Qaa (Qac (V:=I6 ((((2*r)+1)+1:Nat):Int)) rfl (Qaa (Qad (V:=I6 ((((2*r)+1)+1:Nat):Int)) rfl (Qae ?_)))))
  refine ⟨_,?_,_,((2*r)+1)+1,((d1.setIfInBounds (first+r) (d1[first+(((2*r)+1)+1)]!)).setIfInBounds (first+(((2*r)+1)+1)) (d1[first+r]!)),Qal (Qap (ds:=([8,9]++sq 11 65)) (by repeat (first|exact Agr.refl _ _|refine Agr.upd ?_ rfl|refine Agr.mix ?_ rfl))) rfl,(by omega),(by simp only [QQ5];exact hz1),(by rw [← hev,Qv3 c2 c5 c5r,if_pos c8];rfl),rfl,hs.take 1⟩
  omega
 refine Qao (Qag (Qag (QaH HM [some 39,some 40,some 41,some 42,some 43,some 44,some 45,some 46,some 47,some 48,some 49,some 50,some 51,some 52] [] [0,0,0,6,15,31,0,0,0,384,960,1984,4095,8191] [pv (.slice a N c),pv (I6 (first:Int)),pv (I6 (r:Int)),pv (I6 ((first+r:Nat):Int)),pv (.pointer (some ⟨bkS (.slice a N c),ofS (.slice a N c)+((first+r:Nat):Int).toNat*1,none⟩)),pv (I7 (d1[first+r]!)),pv (.slice a N c),pv (I6 (first:Int)),pv (I6 (((2*r)+1:Nat):Int)),pv (I6 ((first+((2*r)+1):Nat):Int)),pv (.pointer (some ⟨bkS (.slice a N c),ofS (.slice a N c)+((first+((2*r)+1):Nat):Int).toNat*1,none⟩)),pv (I7 (d1[first+((2*r)+1)]!)),pv (.bool (decide (d1[first+r]!<d1[first+((2*r)+1)]!))),pv (.bool (!decide (d1[first+r]!<d1[first+((2*r)+1)]!)))] (fun _ _=>_) [13] (by kernel_rfl) hs ⟨?_,?_,?_,?_,?_,?_,?_,?_,?_,?_,?_,?_,?_,?_,trivial⟩ ?_)))
 ·exact oa [] fun D J w hs=>Qac (V:=.slice a N c) rfl (Zz hs)
 ·exact oa [] fun D J w hs=>Qac (V:=.int .i64 (first:Int)) rfl (Zz hs)
 ·exact oa [] fun D J w hs=>Qac (V:=.int .i64 (r:Int)) rfl (Zz hs)
 ·exact oa [1,2] fun D J w hs=>QaF (a:=(first:Int)) (b:=(r:Int)) (c:=((first+r:Nat):Int)) rfl rfl (Qak (by omega) (by omega)) (Zz hs)
 ·exact oa [0,3] fun D J w hs=>Qax QaN Qar.1 (hs.rd 0 rfl) rfl rfl (by omega) (by simp only [QQ6,QQ9,QQ5,Go.Sort.size_swp];omega) (Zz hs)
 ·exact oa [4] fun D J w hs=>QaW (j:=0) (V:=.int .u16 (d1[first+r]!)) (first+r) Qar (hs.rd 0 rfl) (Qbo (by omega)) rfl rfl (by omega) (Zz hs)
 ·exact oa [] fun D J w hs=>Qac (V:=.slice a N c) rfl (Zz hs)
 ·exact oa [] fun D J w hs=>Qac (V:=.int .i64 (first:Int)) rfl (Zz hs)
 ·exact oa [] fun D J w hs=>Qac (V:=.int .i64 (((2*r)+1:Nat):Int)) rfl (Zz hs)
 ·exact oa [7,8] fun D J w hs=>QaF (a:=(first:Int)) (b:=(((2*r)+1:Nat):Int)) (c:=((first+((2*r)+1):Nat):Int)) rfl rfl (Qak (by omega) (by omega)) (Zz hs)
 ·exact oa [6,9] fun D J w hs=>Qax QaN Qar.1 (hs.rd 0 rfl) rfl rfl (by omega) (by simp only [QQ6,QQ9,QQ5,Go.Sort.size_swp];omega) (Zz hs)
 ·exact oa [10] fun D J w hs=>QaW (j:=0) (V:=.int .u16 (d1[first+((2*r)+1)]!)) (first+((2*r)+1)) Qar (hs.rd 0 rfl) (Qbo (by omega)) rfl rfl (by omega) (Zz hs)
 ·exact oa [5,11] fun D J w hs=>Qat (vs:=[.int .u16 (d1[first+r]!),.int .u16 (d1[first+((2*r)+1)]!)]) (V:=.bool (decide (d1[first+r]!<d1[first+((2*r)+1)]!))) Qdc rfl rfl (Qcr _ (d1[first+r]!) (d1[first+((2*r)+1)]!)) hs fun _ hs=>Zz hs
 ·exact oa [12] fun D J w hs=>Qbz rfl (Zz hs)
 rintro J1 w13 J2 hJ hs
 replace hJ:J2=upd (mix (sq 39 14) J1 _) 52 (.bool (!decide (d1[first+r]!<d1[first+((2*r)+1)]!))):=hJ
 subst hJ
 refine Qam (t:=!decide (d1[first+r]!<d1[first+((2*r)+1)]!)) rfl (fun c14=>?_) (fun c14=>?_)
 ·
  replace c14:=Qby c14
  replace c14:=QQ2 c14
  refine Qaw ?_
  refine ⟨_,Qbf Tryz.results185,?_⟩
  have hX:d1=Sort.siftDown ltInt hi first lo d:=by rw [← hev,Qv6 c2 c5,if_neg c14]
  exact ⟨(),rfl,hX ▸ hs.take 1,hX ▸ (by first|assumption|(simp only [QQ5,Go.Sort.size_swp];omega))⟩
 replace c14:=Qbu c14
 replace c14:=QQ1 c14
 refine Qao (Qag (QaH HM [some 53,some 54,some 55,some 56,some 57,some 58,some 59,some 60,some 61,some 62,some 63,some 64,some 65,some 66,some 67,some 68,some 69,some 70,some 71,some 72,some 73,none,some 74,none] [] [0,0,0,6,0,0,0,96,0,0,0,1536,3840,7936,0,0,0,98304,245760,507904,1048335,2096911,4194303,8388607] [pv (.slice a N c),pv (I6 (first:Int)),pv (I6 (r:Int)),pv (I6 ((first+r:Nat):Int)),pv (.slice a N c),pv (I6 (first:Int)),pv (I6 (((2*r)+1:Nat):Int)),pv (I6 ((first+((2*r)+1):Nat):Int)),pv (.slice a N c),pv (I6 (first:Int)),pv (I6 (((2*r)+1:Nat):Int)),pv (I6 ((first+((2*r)+1):Nat):Int)),pv (.pointer (some ⟨bkS (.slice a N c),ofS (.slice a N c)+((first+((2*r)+1):Nat):Int).toNat*1,none⟩)),pv (I7 (d1[first+((2*r)+1)]!)),pv (.slice a N c),pv (I6 (first:Int)),pv (I6 (r:Int)),pv (I6 ((first+r:Nat):Int)),pv (.pointer (some ⟨bkS (.slice a N c),ofS (.slice a N c)+((first+r:Nat):Int).toNat*1,none⟩)),pv (I7 (d1[first+r]!)),pv (.pointer (some ⟨bkS (.slice a N c),ofS (.slice a N c)+((first+r:Nat):Int).toNat*1,none⟩)),pn,pv (.pointer (some ⟨bkS (.slice a N c),ofS (.slice a N c)+((first+((2*r)+1):Nat):Int).toNat*1,none⟩)),pn] (fun D J=>[cond (D 23) (row (.slice a N c) ((((d1.setIfInBounds (first+r) (d1[first+((2*r)+1)]!)).setIfInBounds (first+((2*r)+1)) (d1[first+r]!)).toList).map (ic .u16)) 32 1) (cond (D 21) (row (.slice a N c) (((d1.setIfInBounds (first+r) (d1[first+((2*r)+1)]!)).toList).map (ic .u16)) 32 1) (row (.slice a N c) (d1.toList.map (ic .u16)) 32 1))]) [] (by kernel_rfl) hs ⟨?_,?_,?_,?_,?_,?_,?_,?_,?_,?_,?_,?_,?_,?_,?_,?_,?_,?_,?_,?_,?_,?_,?_,?_,trivial⟩ ?_))
 ·exact oa [] fun D J w hs=>Qac (V:=.slice a N c) rfl (Zz hs)
 ·exact oa [] fun D J w hs=>Qac (V:=.int .i64 (first:Int)) rfl (Zz hs)
 ·exact oa [] fun D J w hs=>Qac (V:=.int .i64 (r:Int)) rfl (Zz hs)
 ·exact oa [1,2] fun D J w hs=>QaF (a:=(first:Int)) (b:=(r:Int)) (c:=((first+r:Nat):Int)) rfl rfl (Qak (by omega) (by omega)) (Zz hs)
 ·exact oa [] fun D J w hs=>Qac (V:=.slice a N c) rfl (Zz hs)
 ·exact oa [] fun D J w hs=>Qac (V:=.int .i64 (first:Int)) rfl (Zz hs)
 ·exact oa [] fun D J w hs=>Qac (V:=.int .i64 (((2*r)+1:Nat):Int)) rfl (Zz hs)
 ·exact oa [5,6] fun D J w hs=>QaF (a:=(first:Int)) (b:=(((2*r)+1:Nat):Int)) (c:=((first+((2*r)+1):Nat):Int)) rfl rfl (Qak (by omega) (by omega)) (Zz hs)
 ·exact oa [] fun D J w hs=>Qac (V:=.slice a N c) rfl (Zz hs)
 ·exact oa [] fun D J w hs=>Qac (V:=.int .i64 (first:Int)) rfl (Zz hs)
 ·exact oa [] fun D J w hs=>Qac (V:=.int .i64 (((2*r)+1:Nat):Int)) rfl (Zz hs)
 ·exact oa [9,10] fun D J w hs=>QaF (a:=(first:Int)) (b:=(((2*r)+1:Nat):Int)) (c:=((first+((2*r)+1):Nat):Int)) rfl rfl (Qak (by omega) (by omega)) (Zz hs)
 ·exact ob [8,11] [21,23] rfl rfl fun D J w hs=>Qax QaN Qar.1 (hs.rd 0 rfl) rfl rfl (by omega) (by simp only [QQ6,QQ9,QQ5,Go.Sort.size_swp];omega) (Zz hs)
 ·exact ob [12] [21,23] rfl rfl fun D J w hs=>QaW (j:=0) (V:=I7 (d1[first+((2*r)+1)]!)) (first+((2*r)+1)) Qar (hs.rd 0 rfl) (Qbo (by omega)) rfl rfl (by omega) (Zz hs)
 ·exact oa [] fun D J w hs=>Qac (V:=.slice a N c) rfl (Zz hs)
 ·exact oa [] fun D J w hs=>Qac (V:=.int .i64 (first:Int)) rfl (Zz hs)
 ·exact oa [] fun D J w hs=>Qac (V:=.int .i64 (r:Int)) rfl (Zz hs)
 ·exact oa [15,16] fun D J w hs=>QaF (a:=(first:Int)) (b:=(r:Int)) (c:=((first+r:Nat):Int)) rfl rfl (Qak (by omega) (by omega)) (Zz hs)
 ·exact ob [14,17] [21,23] rfl rfl fun D J w hs=>Qax QaN Qar.1 (hs.rd 0 rfl) rfl rfl (by omega) (by simp only [QQ6,QQ9,QQ5,Go.Sort.size_swp];omega) (Zz hs)
 ·exact ob [18] [21,23] rfl rfl fun D J w hs=>QaW (j:=0) (V:=I7 (d1[first+r]!)) (first+r) Qar (hs.rd 0 rfl) (Qbo (by omega)) rfl rfl (by omega) (Zz hs)
 ·exact ob [0,3] [21,23] rfl rfl fun D J w hs=>Qax QaN Qar.1 (hs.rd 0 rfl) rfl rfl (by omega) (by simp only [QQ6,QQ9,QQ5,Go.Sort.size_swp];omega) (Zz hs)
 ·exact ob [13,20] [23] rfl rfl fun D J w hs=>Qch (z:=d1[first+((2*r)+1)]!) (first+r) Qar hs 0 rfl rfl (by omega) (by first|omega|(simp only [QQ5,Go.Sort.size_swp];omega)) rfl rfl rfl fun _ hs=>⟨trivial,hs⟩
 ·exact ob [4,7,21] [23] rfl rfl fun D J w hs=>Qax QaN Qar.1 (hs.rd 0 rfl) rfl rfl (by omega) (by simp only [QQ6,QQ9,QQ5,Go.Sort.size_swp];omega) (Zz hs)
 ·exact oa [19,21,22] fun D J w hs=>Qch (z:=d1[first+r]!) (first+((2*r)+1)) Qar hs 0 rfl rfl (by omega) (by first|omega|(simp only [QQ5,Go.Sort.size_swp];omega)) rfl rfl rfl fun _ hs=>⟨trivial,hs⟩
 rintro J1 w17 J2 hJ hs
 replace hJ:J2=mix (sq 53 22) J1 _:=hJ
 replace hs:Own w S w17 [row (.slice a N c) ((((d1.setIfInBounds (first+r) (d1[first+((2*r)+1)]!)).setIfInBounds (first+((2*r)+1)) (d1[first+r]!)).toList).map (ic .u16)) 32 1]:=hs
 subst hJ
 refine Qab (Qaa (Qac (V:=I6 (((2*r)+1:Nat):Int)) rfl (Qaa (Qad (V:=I6 (((2*r)+1:Nat):Int)) rfl (Qae ?_)))))
 refine ⟨_,?_,_,(2*r)+1,((d1.setIfInBounds (first+r) (d1[first+((2*r)+1)]!)).setIfInBounds (first+((2*r)+1)) (d1[first+r]!)),Qal (Qap (ds:=([8,9]++sq 11 65)) (by repeat (first|exact Agr.refl _ _|refine Agr.upd ?_ rfl|refine Agr.mix ?_ rfl))) rfl,(by omega),(by simp only [QQ5];exact hz1),(by rw [← hev,Qv6 c2 c5,if_pos c14];rfl),rfl,hs.take 1⟩
 omega
theorem QqN {i j:Nat} {d:Array Int} (h:(i:Int)<(j:Int)):Sort.reverseLoop i j d=Sort.reverseLoop (i+1) (j-1) (Sort.swp d i j):=by rw [Sort.reverseLoop,if_pos (by omega)]
theorem QsJ {i j:Nat} {d:Array Int} (h:¬(i:Int)<(j:Int)):Sort.reverseLoop i j d=d:=by rw [Sort.reverseLoop,if_neg (by omega)]
theorem Qth (w:World) (S:Nat->Prop) (a:Option Addr) (N c:Nat) (d:Array Int) (hsz:d.size=N) (hN:N<=2305843009213693951) (lo hi:Nat) (h1:lo<hi) (h2:hi<=N) (hR:(row (.slice a N c) (d.toList.map (ic .u16)) 32 1).holds w S) (hlt:∀ x,S x->x<w.heap.size):Calls Tryz.prog 176 #[.slice a N c,.int .i64 (lo:Int),.int .i64 (hi:Int)] w (fun e w'=>∃ x:Unit,e = .returned (.tuple #[])/\Own w S w' [row (.slice a N c) ((Sort.reverseRange d lo hi).toList.map (ic .u16)) 32 1]/\(Sort.reverseRange d lo hi).size=N):=by
 refine Qai (n:=32) Tryz.func176 rfl Tryz.ntmps176 rfl ?_
 have hs:=Own.lent hR hlt
 refine Qag (Qab (Qaa (Qac (V:=I6 (lo:Int)) rfl (Qaa (Qad (V:=I6 (lo:Int)) rfl (Qae (Qag (Qab (Qaa (Qac (V:=I6 (hi:Int)) rfl (Qaa (Qa5 (a:=(hi:Int)) (b:=1) (c:=((hi-1:Nat):Int)) rfl rfl (Qak (by omega) (by omega)) (Qaa (Qad (V:=I6 ((hi-1:Nat):Int)) rfl (Qae (Qan (QaD (fun J μ J' w'=>∃ (Jo:Env) (i:Nat) (j:Nat) (d1:Array Int),J'=upd (upd (mix ([6,7]++sq 11 21) Jo J) 6 (I6 (i:Int))) 7 (I6 (j:Int))/\(lo<=i)/\(j<hi)/\(d1.size=N)/\(Sort.reverseLoop i j d1=Sort.reverseRange d lo hi)/\μ=j-i/\Own w S w' [row (.slice a N c) (d1.toList.map (ic .u16)) 32 1]) ?_ ?_)))))))))))))))))
 ·exact ⟨_,_,lo,hi-1,d,Qal (Qal (Qap (ds:=([6,7]++sq 11 21)) (Agr.refl _ _)) rfl) rfl,(Nat.le_refl _),(by omega),hsz,rfl,rfl,hs⟩
 rintro μ J' w1 ⟨Jo,i,j,d1,rfl,hi0,hj,hz1,hev,rfl,hs⟩
 refine Qag (Qag (Qab (Qaa (Qac (V:=I6 (i:Int)) rfl (Qaa (Qac (V:=I6 (j:Int)) rfl (Qaa (Qa2 rfl rfl (Qae (Qam (t:=decide ((i:Int)<(j:Int))) rfl (fun c2=>?_) (fun c2=>?_)))))))))))
 ·
  replace c2:=QQ1 c2
  refine Qao (Qan (Qag (QaH HM [some 14,some 15,some 16,some 17,some 18,some 19,some 20,some 21,some 22,some 23,some 24,some 25,some 26,none,some 27,none] [] [0,0,0,0,0,0,48,112,0,0,768,1792,4083,8179,16383,32767] [pv (.slice a N c),pv (I6 (i:Int)),pv (.slice a N c),pv (I6 (j:Int)),pv (.slice a N c),pv (I6 (j:Int)),pv (.pointer (some ⟨bkS (.slice a N c),ofS (.slice a N c)+(j:Int).toNat*1,none⟩)),pv (I7 (d1[j]!)),pv (.slice a N c),pv (I6 (i:Int)),pv (.pointer (some ⟨bkS (.slice a N c),ofS (.slice a N c)+(i:Int).toNat*1,none⟩)),pv (I7 (d1[i]!)),pv (.pointer (some ⟨bkS (.slice a N c),ofS (.slice a N c)+(i:Int).toNat*1,none⟩)),pn,pv (.pointer (some ⟨bkS (.slice a N c),ofS (.slice a N c)+(j:Int).toNat*1,none⟩)),pn] (fun D J=>[cond (D 15) (row (.slice a N c) ((((d1.setIfInBounds i (d1[j]!)).setIfInBounds j (d1[i]!)).toList).map (ic .u16)) 32 1) (cond (D 13) (row (.slice a N c) (((d1.setIfInBounds i (d1[j]!)).toList).map (ic .u16)) 32 1) (row (.slice a N c) (d1.toList.map (ic .u16)) 32 1))]) [] (by kernel_rfl) hs ⟨?_,?_,?_,?_,?_,?_,?_,?_,?_,?_,?_,?_,?_,?_,?_,?_,trivial⟩ ?_)))
  ·exact oa [] fun D J w hs=>Qac (V:=.slice a N c) rfl (Zz hs)
  ·exact oa [] fun D J w hs=>Qac (V:=.int .i64 (i:Int)) rfl (Zz hs)
  ·exact oa [] fun D J w hs=>Qac (V:=.slice a N c) rfl (Zz hs)
  ·exact oa [] fun D J w hs=>Qac (V:=.int .i64 (j:Int)) rfl (Zz hs)
  ·exact oa [] fun D J w hs=>Qac (V:=.slice a N c) rfl (Zz hs)
  ·exact oa [] fun D J w hs=>Qac (V:=.int .i64 (j:Int)) rfl (Zz hs)
  ·exact ob [4,5] [13,15] rfl rfl fun D J w hs=>Qax QaN Qar.1 (hs.rd 0 rfl) rfl rfl (by omega) (by simp only [QQ6,QQ9,QQ5,Go.Sort.size_swp];omega) (Zz hs)
  ·exact ob [6] [13,15] rfl rfl fun D J w hs=>QaW (j:=0) (V:=I7 (d1[j]!)) j Qar (hs.rd 0 rfl) (Qbo (by omega)) rfl rfl (by omega) (Zz hs)
  ·exact oa [] fun D J w hs=>Qac (V:=.slice a N c) rfl (Zz hs)
  ·exact oa [] fun D J w hs=>Qac (V:=.int .i64 (i:Int)) rfl (Zz hs)
  ·exact ob [8,9] [13,15] rfl rfl fun D J w hs=>Qax QaN Qar.1 (hs.rd 0 rfl) rfl rfl (by omega) (by simp only [QQ6,QQ9,QQ5,Go.Sort.size_swp];omega) (Zz hs)
  ·exact ob [10] [13,15] rfl rfl fun D J w hs=>QaW (j:=0) (V:=I7 (d1[i]!)) i Qar (hs.rd 0 rfl) (Qbo (by omega)) rfl rfl (by omega) (Zz hs)
  ·exact ob [0,1] [13,15] rfl rfl fun D J w hs=>Qax QaN Qar.1 (hs.rd 0 rfl) rfl rfl (by omega) (by simp only [QQ6,QQ9,QQ5,Go.Sort.size_swp];omega) (Zz hs)
  ·exact ob [7,12] [15] rfl rfl fun D J w hs=>Qch (z:=d1[j]!) i Qar hs 0 rfl rfl (by omega) (by first|omega|(simp only [QQ5,Go.Sort.size_swp];omega)) rfl rfl rfl fun _ hs=>⟨trivial,hs⟩
  ·exact ob [2,3,13] [15] rfl rfl fun D J w hs=>Qax QaN Qar.1 (hs.rd 0 rfl) rfl rfl (by omega) (by simp only [QQ6,QQ9,QQ5,Go.Sort.size_swp];omega) (Zz hs)
  ·exact oa [11,13,14] fun D J w hs=>Qch (z:=d1[i]!) j Qar hs 0 rfl rfl (by omega) (by first|omega|(simp only [QQ5,Go.Sort.size_swp];omega)) rfl rfl rfl fun _ hs=>⟨trivial,hs⟩
  rintro J1 w5 J2 hJ hs
  replace hJ:J2=mix (sq 14 14) J1 _:=hJ
  replace hs:Own w S w5 [row (.slice a N c) ((((d1.setIfInBounds i (d1[j]!)).setIfInBounds j (d1[i]!)).toList).map (ic .u16)) 32 1]:=hs
  subst hJ
  refine Qag (Qab (Qaa (Qac (V:=I6 (i:Int)) rfl (Qaa (QaF (a:=(i:Int)) (b:=1) (c:=((i+1:Nat):Int)) rfl rfl (Qak (by omega) (by omega)) (Qaa (Qad (V:=I6 ((i+1:Nat):Int)) rfl (Qae (Qab (Qaa (Qac (V:=I6 (j:Int)) rfl (Qaa (Qa5 (a:=(j:Int)) (b:=1) (c:=((j-1:Nat):Int)) rfl rfl (Qak (by omega) (by omega)) (Qaa (Qad (V:=I6 ((j-1:Nat):Int)) rfl (Qae ?_))))))))))))))))
  refine ⟨_,?_,_,i+1,j-1,((d1.setIfInBounds i (d1[j]!)).setIfInBounds j (d1[i]!)),Qal (Qal (Qap (ds:=([6,7]++sq 11 21)) (by repeat (first|exact Agr.refl _ _|refine Agr.upd ?_ rfl|refine Agr.mix ?_ rfl))) rfl) rfl,(by omega),(by omega),(by simp only [QQ5];exact hz1),(by rw [← hev,QqN (d:=d1) c2];rfl),rfl,hs.take 1⟩
  omega
 replace c2:=QQ2 c2
 refine QaJ ?_
 refine ⟨_,Qbf Tryz.results176,?_⟩
 have hX:d1=Sort.reverseRange d lo hi:=by rw [← hev,QsJ c2]
 exact ⟨(),rfl,hX ▸ hs.take 1,hX ▸ (by first|assumption|(simp only [QQ5,Go.Sort.size_swp];omega))⟩
end Tt
end Go.Proofs
namespace Go.Proofs
open Go Go.Vx Go.RowKit
open Go.Sort (ltInt medianAdjacent order2 partition)
namespace Tt
theorem Qru {n first k:Nat} {d:Array Int} (h:1<=k):Sort.heapBuild ltInt n first k d=Sort.heapBuild ltInt n first (k-1) (Sort.siftDown ltInt n first (k-1) d):=by
 obtain ⟨i,rfl⟩:∃ i,k=i+1:=⟨k-1,by omega⟩
 rfl
theorem QrM {first k:Nat} {d:Array Int} (h:1<=k):Sort.heapPop ltInt first k d=Sort.heapPop ltInt first (k-1) (Sort.siftDown ltInt (k-1) first 0 (Sort.swp d first (first+(k-1)))):=by
 obtain ⟨i,rfl⟩:∃ i,k=i+1:=⟨k-1,by omega⟩
 rfl
theorem Qo1 {n:Nat}:((n:Int)-1).tdiv 2=(((n-1)/2:Nat):Int):=by
 cases n with
 | zero=>rfl
 | succ m=>rw [show (((m+1:Nat):Int)-1)=(m:Int) by omega];rfl
theorem Qsu (w:World) (S:Nat->Prop) (a:Option Addr) (N c:Nat) (d:Array Int) (hsz:d.size=N) (hN:N<=2305843009213693951) (lo hi:Nat) (h1:lo<=hi) (h2:hi<=N) (hR:(row (.slice a N c) (d.toList.map (ic .u16)) 32 1).holds w S) (hlt:∀ x,S x->x<w.heap.size):Calls Tryz.prog 173 #[.slice a N c,.int .i64 (lo:Int),.int .i64 (hi:Int)] w (fun e w'=>∃ x:Unit,e = .returned (.tuple #[])/\Own w S w' [row (.slice a N c) ((Sort.heapSort ltInt d lo hi).toList.map (ic .u16)) 32 1]/\(Sort.heapSort ltInt d lo hi).size=N):=by
 refine Qai (n:=56) Tryz.func173 rfl Tryz.ntmps173 rfl ?_
 have hs:=Own.lent hR hlt
 refine Qag (Qab (Qaa (Qac (V:=I6 (lo:Int)) rfl (Qaa (Qad (V:=I6 (lo:Int)) rfl (Qae (Qag (Qab (Qaa (Qad (V:=I6 0) rfl (Qae (Qag (Qab (Qaa (Qac (V:=I6 (hi:Int)) rfl (Qaa (Qac (V:=I6 (lo:Int)) rfl (Qaa (Qa5 (a:=(hi:Int)) (b:=(lo:Int)) (c:=((hi-lo:Nat):Int)) rfl rfl (Qak (by omega) (by omega)) (Qaa (Qad (V:=I6 ((hi-lo:Nat):Int)) rfl (Qae (Qag (Qag (Qab (Qaa (Qac (V:=I6 ((hi-lo:Nat):Int)) rfl (Qaa (Qa5 (a:=((hi-lo:Nat):Int)) (b:=1) (c:=((hi-lo:Nat):Int)-1) rfl rfl (QbE (by omega) (by omega)) (Qaa (QaU (V:=I6 (IntKind.i64.wrap ((((hi-lo:Nat):Int)-1).tdiv 2))) (V':=I6 ((((hi-lo)-1)/2:Nat):Int)) (Qjp rfl rfl (by omega) rfl ⟨rfl,rfl⟩) (congrArg (Value.int .i64) (by rw [Qo1];exact Qak rfl (by omega))) (Qaa (Qad (V:=I6 ((((hi-lo)-1)/2:Nat):Int)) rfl (Qae (Qan (QaD (fun J μ J' w'=>∃ (Jo:Env) (k:Nat) (d1:Array Int),J'=upd (mix ([9]++sq 18 9) Jo J) 9 (I6 ((k:Int)-1))/\(k<=N+1)/\(d1.size=N)/\(Sort.heapPop ltInt lo (hi-lo) (Sort.heapBuild ltInt (hi-lo) lo k d1)=Sort.heapSort ltInt d lo hi)/\μ=2*k/\Own w S w' [row (.slice a N c) (d1.toList.map (ic .u16)) 32 1]) ?_ ?_))))))))))))))))))))))))))))))))))))
 ·exact ⟨_,_,((hi-lo)-1)/2+1,d,Qal (Qap (ds:=([9]++sq 18 9)) (Agr.refl _ _)) (congrArg (Value.int .i64) (by omega)),(by omega),hsz,rfl,rfl,hs⟩
 rintro μ J' w1 ⟨Jo,k,d1,rfl,hk,hz1,hev,rfl,hs⟩
 refine Qag (Qag (Qab (Qaa (Qac (V:=I6 ((k:Int)-1)) rfl (Qaa (QcZ rfl rfl (Qae (Qam (t:=decide (0<=(k:Int)-1)) rfl (fun c2=>?_) (fun c2=>?_)))))))))
 ·
  replace c2:=QQ1 c2
  refine Qao (Qag (Qan (Qab (Qaa (Qac (V:=.slice a N c) rfl (Qaa (QaU (V:=I6 ((k:Int)-1)) (V':=I6 ((k-1:Nat):Int)) (Qac (V:=I6 ((k:Int)-1)) rfl ⟨rfl,rfl⟩) (congrArg (Value.int .i64) (by omega)) (Qaa (Qac (V:=I6 ((hi-lo:Nat):Int)) rfl (Qaa (Qac (V:=I6 (lo:Int)) rfl (Qaa (Qbr (vs:=[.slice a N c,I6 ((k-1:Nat):Int),I6 ((hi-lo:Nat):Int),I6 (lo:Int)]) (V:=fun _:Unit=>.tuple #[]) (R:=row (.slice a N c) (d1.toList.map (ic .u16)) 32 1) (R':=fun _=>row (.slice a N c) ((Sort.siftDown ltInt (hi-lo) lo (k-1) d1).toList.map (ic .u16)) 32 1) (Lo:=fun _=>[]) (F:=fun _ _=>(Sort.siftDown ltInt (hi-lo) lo (k-1) d1).size=N) Qqj rfl rfl hs 0 rfl (fun S hS hlt=>QnO _ S a N c d1 (by first|assumption|(simp only [QQ5,Go.Sort.size_swp];omega)) hN (k-1) (hi-lo) lo (by omega) (by omega) hS hlt) fun _ w3 hs hz4=>(Qae (Qab (Qaa (Qac (V:=I6 ((k:Int)-1)) rfl (Qaa (Qa5 (a:=(k:Int)-1) (b:=1) (c:=((k:Int)-1)-1) rfl rfl (QbE (by omega) (by omega)) (Qaa (Qad (V:=I6 (((k:Int)-1)-1)) rfl (Qae ?_))))))))))))))))))))))
  refine ⟨_,?_,_,k-1,Sort.siftDown ltInt (hi-lo) lo (k-1) d1,Qal (Qap (ds:=([9]++sq 18 9)) (by repeat (first|exact Agr.refl _ _|refine Agr.upd ?_ rfl|refine Agr.mix ?_ rfl))) (congrArg (Value.int .i64) (by omega)),(by omega),(by assumption),(by rw [← hev,Qru (k:=k) (by omega)]),rfl,hs.take 1⟩
  omega
 replace c2:=QQ2 c2
 refine QaJ (Qag (Qab (Qaa (Qac (V:=I6 ((hi-lo:Nat):Int)) rfl (Qaa (Qa5 (a:=((hi-lo:Nat):Int)) (b:=1) (c:=((hi-lo:Nat):Int)-1) rfl rfl (QbE (by omega) (by omega)) (Qaa (Qad (V:=I6 (((hi-lo:Nat):Int)-1)) rfl (Qae (Qan ?_))))))))))
 have hk0:k=0:=by omega
 subst hk0
 have hev1:Sort.heapPop ltInt lo (hi-lo) d1=Sort.heapSort ltInt d lo hi:=hev
 refine QaD (fun J μ J' w'=>∃ (Jo:Env) (q:Nat) (d2:Array Int),J'=upd (mix ([10]++sq 29 27) Jo J) 10 (I6 ((q:Int)-1))/\(q<=hi-lo)/\(d2.size=N)/\(Sort.heapPop ltInt lo q d2=Sort.heapSort ltInt d lo hi)/\μ=2*q/\Own w S w' [row (.slice a N c) (d2.toList.map (ic .u16)) 32 1]) ?_ ?_
 ·exact ⟨_,_,hi-lo,d1,Qal (Qap (ds:=([10]++sq 29 27)) (Agr.refl _ _)) rfl,(Nat.le_refl _),hz1,hev1,rfl,hs⟩
 rintro μ J' w6 ⟨Jo,q,d2,rfl,hk2,hz2,hev2,rfl,hs⟩
 refine Qag (Qag (Qab (Qaa (Qac (V:=I6 ((q:Int)-1)) rfl (Qaa (QcZ rfl rfl (Qae (Qam (t:=decide (0<=(q:Int)-1)) rfl (fun c7=>?_) (fun c7=>?_)))))))))
 ·
  replace c7:=QQ1 c7
  refine Qao (Qag (Qan (Qag (QaH HM [some 33,some 34,some 35,some 36,some 37,some 38,some 39,some 40,some 41,some 42,some 43,some 44,some 45,some 46,some 47,some 48,some 49,none,some 50,none] [] [0,0,0,0,0,24,0,0,0,384,960,1984,0,0,12288,28672,65475,131011,262143,524287] [pv (.slice a N c),pv (I6 (lo:Int)),pv (.slice a N c),pv (I6 (lo:Int)),pv (I6 ((q-1:Nat):Int)),pv (I6 ((lo+(q-1):Nat):Int)),pv (.slice a N c),pv (I6 (lo:Int)),pv (I6 ((q-1:Nat):Int)),pv (I6 ((lo+(q-1):Nat):Int)),pv (.pointer (some ⟨bkS (.slice a N c),ofS (.slice a N c)+((lo+(q-1):Nat):Int).toNat*1,none⟩)),pv (I7 (d2[lo+(q-1)]!)),pv (.slice a N c),pv (I6 (lo:Int)),pv (.pointer (some ⟨bkS (.slice a N c),ofS (.slice a N c)+(lo:Int).toNat*1,none⟩)),pv (I7 (d2[lo]!)),pv (.pointer (some ⟨bkS (.slice a N c),ofS (.slice a N c)+(lo:Int).toNat*1,none⟩)),pn,pv (.pointer (some ⟨bkS (.slice a N c),ofS (.slice a N c)+((lo+(q-1):Nat):Int).toNat*1,none⟩)),pn] (fun D J=>[cond (D 19) (row (.slice a N c) ((((d2.setIfInBounds lo (d2[lo+(q-1)]!)).setIfInBounds (lo+(q-1)) (d2[lo]!)).toList).map (ic .u16)) 32 1) (cond (D 17) (row (.slice a N c) (((d2.setIfInBounds lo (d2[lo+(q-1)]!)).toList).map (ic .u16)) 32 1) (row (.slice a N c) (d2.toList.map (ic .u16)) 32 1))]) [] (by kernel_rfl) hs ⟨?_,?_,?_,?_,?_,?_,?_,?_,?_,?_,?_,?_,?_,?_,?_,?_,?_,?_,?_,?_,trivial⟩ ?_))))
  ·exact oa [] fun D J w hs=>Qac (V:=.slice a N c) rfl (Zz hs)
  ·exact oa [] fun D J w hs=>Qac (V:=.int .i64 (lo:Int)) rfl (Zz hs)
  ·exact oa [] fun D J w hs=>Qac (V:=.slice a N c) rfl (Zz hs)
  ·exact oa [] fun D J w hs=>Qac (V:=.int .i64 (lo:Int)) rfl (Zz hs)
  ·exact oa [] fun D J w hs=>QaU (V:=.int .i64 ((q:Int)-1)) (V':=.int .i64 ((q-1:Nat):Int)) (Qac (V:=.int .i64 ((q:Int)-1)) rfl ⟨rfl,rfl⟩) (congrArg (Value.int .i64) (by omega)) (Zz hs)
  ·exact oa [3,4] fun D J w hs=>QaF (a:=(lo:Int)) (b:=((q-1:Nat):Int)) (c:=((lo+(q-1):Nat):Int)) rfl rfl (Qak (by omega) (by omega)) (Zz hs)
  ·exact oa [] fun D J w hs=>Qac (V:=.slice a N c) rfl (Zz hs)
  ·exact oa [] fun D J w hs=>Qac (V:=.int .i64 (lo:Int)) rfl (Zz hs)
  ·exact oa [] fun D J w hs=>QaU (V:=.int .i64 ((q:Int)-1)) (V':=.int .i64 ((q-1:Nat):Int)) (Qac (V:=.int .i64 ((q:Int)-1)) rfl ⟨rfl,rfl⟩) (congrArg (Value.int .i64) (by omega)) (Zz hs)
  ·exact oa [7,8] fun D J w hs=>QaF (a:=(lo:Int)) (b:=((q-1:Nat):Int)) (c:=((lo+(q-1):Nat):Int)) rfl rfl (Qak (by omega) (by omega)) (Zz hs)
  ·exact ob [6,9] [17,19] rfl rfl fun D J w hs=>Qax QaN Qar.1 (hs.rd 0 rfl) rfl rfl (by omega) (by simp only [QQ6,QQ9,QQ5,Go.Sort.size_swp];omega) (Zz hs)
  ·exact ob [10] [17,19] rfl rfl fun D J w hs=>QaW (j:=0) (V:=I7 (d2[lo+(q-1)]!)) (lo+(q-1)) Qar (hs.rd 0 rfl) (Qbo (by omega)) rfl rfl (by omega) (Zz hs)
  ·exact oa [] fun D J w hs=>Qac (V:=.slice a N c) rfl (Zz hs)
  ·exact oa [] fun D J w hs=>Qac (V:=.int .i64 (lo:Int)) rfl (Zz hs)
  ·exact ob [12,13] [17,19] rfl rfl fun D J w hs=>Qax QaN Qar.1 (hs.rd 0 rfl) rfl rfl (by omega) (by simp only [QQ6,QQ9,QQ5,Go.Sort.size_swp];omega) (Zz hs)
  ·exact ob [14] [17,19] rfl rfl fun D J w hs=>QaW (j:=0) (V:=I7 (d2[lo]!)) lo Qar (hs.rd 0 rfl) (Qbo (by omega)) rfl rfl (by omega) (Zz hs)
  ·exact ob [0,1] [17,19] rfl rfl fun D J w hs=>Qax QaN Qar.1 (hs.rd 0 rfl) rfl rfl (by omega) (by simp only [QQ6,QQ9,QQ5,Go.Sort.size_swp];omega) (Zz hs)
  ·exact ob [11,16] [19] rfl rfl fun D J w hs=>Qch (z:=d2[lo+(q-1)]!) lo Qar hs 0 rfl rfl (by omega) (by first|omega|(simp only [QQ5,Go.Sort.size_swp];omega)) rfl rfl rfl fun _ hs=>⟨trivial,hs⟩
  ·exact ob [2,5,17] [19] rfl rfl fun D J w hs=>Qax QaN Qar.1 (hs.rd 0 rfl) rfl rfl (by omega) (by simp only [QQ6,QQ9,QQ5,Go.Sort.size_swp];omega) (Zz hs)
  ·exact oa [15,17,18] fun D J w hs=>Qch (z:=d2[lo]!) (lo+(q-1)) Qar hs 0 rfl rfl (by omega) (by first|omega|(simp only [QQ5,Go.Sort.size_swp];omega)) rfl rfl rfl fun _ hs=>⟨trivial,hs⟩
  rintro J1 w10 J2 hJ hs
  replace hJ:J2=mix (sq 33 18) J1 _:=hJ
  replace hs:Own w S w10 [row (.slice a N c) ((((d2.setIfInBounds lo (d2[lo+(q-1)]!)).setIfInBounds (lo+(q-1)) (d2[lo]!)).toList).map (ic .u16)) 32 1]:=hs
  subst hJ
  refine Qab (Qaa (Qac (V:=.slice a N c) rfl (Qaa (Qac (V:=I6 0) rfl (Qaa (QaU (V:=I6 ((q:Int)-1)) (V':=I6 ((q-1:Nat):Int)) (Qac (V:=I6 ((q:Int)-1)) rfl ⟨rfl,rfl⟩) (congrArg (Value.int .i64) (by omega)) (Qaa (Qac (V:=I6 (lo:Int)) rfl (Qaa (Qbr (vs:=[.slice a N c,I6 0,I6 ((q-1:Nat):Int),I6 (lo:Int)]) (V:=fun _:Unit=>.tuple #[]) (R:=row (.slice a N c) (((d2.setIfInBounds lo (d2[lo+(q-1)]!)).setIfInBounds (lo+(q-1)) (d2[lo]!)).toList.map (ic .u16)) 32 1) (R':=fun _=>row (.slice a N c) ((Sort.siftDown ltInt (q-1) lo 0 ((d2.setIfInBounds lo (d2[lo+(q-1)]!)).setIfInBounds (lo+(q-1)) (d2[lo]!))).toList.map (ic .u16)) 32 1) (Lo:=fun _=>[]) (F:=fun _ _=>(Sort.siftDown ltInt (q-1) lo 0 ((d2.setIfInBounds lo (d2[lo+(q-1)]!)).setIfInBounds (lo+(q-1)) (d2[lo]!))).size=N) Qqj rfl rfl hs 0 rfl (fun S hS hlt=>QnO _ S a N c ((d2.setIfInBounds lo (d2[lo+(q-1)]!)).setIfInBounds (lo+(q-1)) (d2[lo]!)) (by first|assumption|(simp only [QQ5,Go.Sort.size_swp];omega)) hN 0 (q-1) lo (by omega) (by omega) hS hlt) fun _ w11 hs hz12=>(Qae (Qab (Qaa (Qac (V:=I6 ((q:Int)-1)) rfl (Qaa (Qa5 (a:=(q:Int)-1) (b:=1) (c:=((q:Int)-1)-1) rfl rfl (QbE (by omega) (by omega)) (Qaa (Qad (V:=I6 (((q:Int)-1)-1)) rfl (Qae ?_)))))))))))))))))))
  refine ⟨_,?_,_,q-1,Sort.siftDown ltInt (q-1) lo 0 ((d2.setIfInBounds lo (d2[lo+(q-1)]!)).setIfInBounds (lo+(q-1)) (d2[lo]!)),Qal (Qap (ds:=([10]++sq 29 27)) (by repeat (first|exact Agr.refl _ _|refine Agr.upd ?_ rfl|refine Agr.mix ?_ rfl))) (congrArg (Value.int .i64) (by omega)),(by omega),(by assumption),(by rw [← hev2,QrM (k:=q) (by omega)];rfl),rfl,hs.take 1⟩
  omega
 replace c7:=QQ2 c7
 refine QaJ ?_
 refine ⟨_,Qbf Tryz.results173,?_⟩
 have hk3:q=0:=by omega
 subst hk3
 have hX:d2=Sort.heapSort ltInt d lo hi:=hev2
 exact ⟨(),rfl,hX ▸ hs.take 1,hX ▸ (by first|assumption|(simp only [QQ5,Go.Sort.size_swp];omega))⟩
end Tt
end Go.Proofs
