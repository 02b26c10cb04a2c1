/- A part of a proof: what functions of the program compute, and plain facts on that. -/
import Derived.Test.YtbjbjboehjdcaaaGreatCutsIdleP3
set_option linter.unusedVariables false
set_option linter.unusedSimpArgs false
set_option maxHeartbeats 4000000
set_option maxRecDepth 100000
namespace Go.Proofs
open Go Go.Vx Go.RowKit
namespace Tt
theorem QoT (w:World) (o:Opn):Calls Tryz.prog 90 #[.agg (oc o).toArray] w (fun e w'=>e = .returned (.bool (QbA o))/\Own w no w' []):=by
 refine Qai (n:=16) Tryz.func90 rfl Tryz.ntmps90 rfl ?_
 have hs:=Own.start w
 refine Qag (Qab (Qaa (Qa4 (V:=.agg (oc o).toArray) (cs:=oc o) rfl rfl hs fun b1 w2 hs=>(Qaa (Qad (V:=.bool false) rfl (Qae (Qag (Qbq [some 3,some 4,some 5,some 6,some 7,some 8,some 9,some 10,some 11,some 12,some 13,some 14,some 15,some 2] [] [0,1,3,7,15,31,63,127,255,511,1023,2047,4095,8191] [pv (Pq b1 (0+2)),pv (.int .u8 o.kind),pv (.bool (decide (o.kind=1))),pv (.bool (decide (o.kind=1))),pg ((decide (o.kind=1)) == false) (Pq b1 (0+2)),pg ((decide (o.kind=1)) == false) (.int .u8 o.kind),pg ((decide (o.kind=1)) == false) (.bool (decide (o.kind=2))),pv (.bool ((decide (o.kind=1))||(decide (o.kind=2)))),pv (.bool ((decide (o.kind=1))||(decide (o.kind=2)))),pg (((decide (o.kind=1))||(decide (o.kind=2))) == false) (Pq b1 (0+2)),pg (((decide (o.kind=1))||(decide (o.kind=2))) == false) (.int .u8 o.kind),pg (((decide (o.kind=1))||(decide (o.kind=2))) == false) (.bool (decide (o.kind=4))),pv (.bool (((decide (o.kind=1))||(decide (o.kind=2)))||(decide (o.kind=4)))),pv (.bool (((decide (o.kind=1))||(decide (o.kind=2)))||(decide (o.kind=4))))] (fun _ _=>_) [13] (by kernel_rfl) hs ⟨?_,?_,?_,?_,?_,?_,?_,?_,?_,?_,?_,?_,?_,?_,trivial⟩ ?_))))))))
 ·exact oa [] fun D J w hs=>Qaf Qcc rfl (Zz hs)
 ·exact oa [0] fun D J w hs=>QaP (V:=.int .u8 o.kind) Qds hs 0 rfl rfl rfl (Zz hs)
 ·exact oa [1] fun D J w hs=>QaW rfl rfl (Zz hs)
 ·exact oa [2] fun D J w hs=>Qac (V:=.bool (decide (o.kind=1))) rfl (Zz hs)
 ·exact og [3] fun D J w hG hs=>Qaf Qcc rfl (Zz hs)
 ·exact oy [3,4] [4] fun D J w hG hs=>QaP (V:=.int .u8 o.kind) Qds hs 0 rfl rfl rfl (Zz hs)
 ·exact oy [3,5] [5] fun D J w hG hs=>QaW rfl rfl (Zz hs)
 ·exact oa [3,6] fun D J w hs=>Qb2 (h':=decide (o.kind=2)) rfl rfl rfl (Zz hs)
 ·exact oa [7] fun D J w hs=>Qac (V:=.bool ((decide (o.kind=1))||(decide (o.kind=2)))) rfl (Zz hs)
 ·exact og [8] fun D J w hG hs=>Qaf Qcc rfl (Zz hs)
 ·exact oy [8,9] [9] fun D J w hG hs=>QaP (V:=.int .u8 o.kind) Qds hs 0 rfl rfl rfl (Zz hs)
 ·exact oy [8,10] [10] fun D J w hG hs=>QaW rfl rfl (Zz hs)
 ·exact oa [8,11] fun D J w hs=>Qb2 (h':=decide (o.kind=4)) rfl rfl rfl (Zz hs)
 ·exact oa [12] fun D J w hs=>Qad (V:=.bool (((decide (o.kind=1))||(decide (o.kind=2)))||(decide (o.kind=4)))) rfl (Zz hs)
 rintro J1 w3 J2 hJ hs
 replace hJ:J2=upd (mix (sq 3 13++[2]) J1 _) 2 (.bool (((decide (o.kind=1))||(decide (o.kind=2)))||(decide (o.kind=4)))):=hJ
 subst hJ
 refine Qav ?_
 refine ⟨_,Qaq (V:=.bool (((decide (o.kind=1))||(decide (o.kind=2)))||(decide (o.kind=4)))) Tryz.results90 rfl,(Zr hs ?_)⟩
 rfl
theorem QhV (w:World) (o:Opn) (ho:QbR o.ctx):Calls Tryz.prog 41 #[.agg (oc o).toArray] w (fun e w'=>e = .returned (.int .u64 (QbG o))/\Own w no w' []):=by
 refine Qai (n:=7) Tryz.func41 rfl Tryz.ntmps41 rfl ?_
 have hs:=Own.start w
 refine Qag (Qab (Qaa (Qa4 (V:=.agg (oc o).toArray) (cs:=oc o) rfl rfl hs fun b1 w2 hs=>(Qaa (Qad (V:=.int .u64 0) rfl (Qae (Qag ?_)))))))
 have hb:=Qmv ho
 refine Qab (Qaa (Qaf QcD rfl (Qaa (QbT (vs:=vc o.ctx) Qbu hs 0 rfl rfl rfl rfl (Qaa (Qas (vs:=[.agg (vc o.ctx).toArray]) (V:=.int .u64 (vsum o.ctx)) Qvq rfl rfl ?hc hs fun w3 hs=>?_))))))
 case hc=>exact (Qrj _ o.ctx (by first|assumption|exact Qcx))
 refine Qaa (QaD (a:=vsum o.ctx) (b:=1) (c:=(vsum o.ctx)+1) rfl rfl (QdF (by omega) (by omega)) (Qaa (Qad (V:=.int .u64 ((vsum o.ctx)+1)) rfl (Qae (Qav ?_)))))
 refine ⟨_,Qaq (V:=.int .u64 ((vsum o.ctx)+1)) Tryz.results41 rfl,(Zr hs ?_)⟩
 rfl
theorem Qj1 (w:World) (o e:Opn) (he:QcZ e.dot):Calls Tryz.prog 46 #[.agg (oc o).toArray,.agg (oc e).toArray] w (fun r w'=>r = .returned (.bool (QaB o e))/\Own w no w' []):=by
 refine Qai (n:=40) Tryz.func46 rfl Tryz.ntmps46 rfl ?_
 have hs:=Own.start w
 refine Qag (Qab (Qaa (Qa4 (V:=.agg (oc o).toArray) (cs:=oc o) rfl rfl hs fun b1 w2 hs=>(Qaa (Qa4 (V:=.agg (oc e).toArray) (cs:=oc e) rfl rfl hs fun b3 w4 hs=>(Qaa (Qad (V:=.bool false) rfl (Qae (Qag (Qag (Qbq [some 5,some 6,some 7,some 8,some 9,some 10,some 11,some 12,some 13,some 14,some 15,some 16,some 17,some 18,some 19,some 20,some 21,some 22] [] [0,1,3,7,15,31,15,79,255,511,1023,2047,4095,2047,10239,32767,65535,131071] [pv (.agg (oc e).toArray),pv (.bool (QbA e)),pv (.bool (!(QbA e))),pv (.bool (!(QbA e))),pg ((!(QbA e)) == false) (Pq b1 (0+3)),pg ((!(QbA e)) == false) (I7 o.cart),pg ((!(QbA e)) == false) (Pq b3 (0+3)),pg ((!(QbA e)) == false) (I7 e.cart),pg ((!(QbA e)) == false) (.bool (!decide (o.cart=e.cart))),pv (.bool ((!(QbA e))||(!decide (o.cart=e.cart)))),pv (.bool ((!(QbA e))||(!decide (o.cart=e.cart)))),pg (((!(QbA e))||(!decide (o.cart=e.cart))) == false) (Pq b1 (0+7)),pg (((!(QbA e))||(!decide (o.cart=e.cart))) == false) (.agg (vc o.ctx).toArray),pg (((!(QbA e))||(!decide (o.cart=e.cart))) == false) (Pq b3 (0+0)),pg (((!(QbA e))||(!decide (o.cart=e.cart))) == false) (.agg (dc e.dot).toArray),pg (((!(QbA e))||(!decide (o.cart=e.cart))) == false) (.bool (Qbv o.ctx e.dot)),pg (((!(QbA e))||(!decide (o.cart=e.cart))) == false) (.bool (!(Qbv o.ctx e.dot))),pv (.bool (((!(QbA e))||(!decide (o.cart=e.cart)))||(!(Qbv o.ctx e.dot))))] (fun _ _=>_) [17] (by kernel_rfl) hs ⟨?_,?_,?_,?_,?_,?_,?_,?_,?_,?_,?_,?_,?_,?_,?_,?_,?_,?_,trivial⟩ ?_)))))))))))
 ·exact oa [] fun D J w hs=>QaO (cs:=oc e) QbB hs 1 rfl rfl rfl (Zz hs)
 ·exact oa [0] fun D J w hs=>Qas (vs:=[.agg (oc e).toArray]) (V:=.bool (QbA e)) Qvo rfl rfl (QoT _ e) hs fun _ hs=>Zz hs
 ·exact oa [1] fun D J w hs=>Qbx rfl (Zz hs)
 ·exact oa [2] fun D J w hs=>Qac (V:=.bool (!(QbA e))) rfl (Zz hs)
 ·exact og [3] fun D J w hG hs=>Qaf Qem rfl (Zz hs)
 ·exact oy [3,4] [4] fun D J w hG hs=>QaP (V:=.int .u16 o.cart) Qar hs 0 rfl rfl rfl (Zz hs)
 ·exact og [3] fun D J w hG hs=>Qaf Qem rfl (Zz hs)
 ·exact oy [3,6] [6] fun D J w hG hs=>QaP (V:=.int .u16 e.cart) Qar hs 1 rfl rfl rfl (Zz hs)
 ·exact oy [3,5,7] [5,7] fun D J w hG hs=>QcC rfl rfl (Zz hs)
 ·exact oa [3,8] fun D J w hs=>Qb2 (h':=!decide (o.cart=e.cart)) rfl rfl rfl (Zz hs)
 ·exact oa [9] fun D J w hs=>Qac (V:=.bool ((!(QbA e))||(!decide (o.cart=e.cart)))) rfl (Zz hs)
 ·exact og [10] fun D J w hG hs=>Qaf QcD rfl (Zz hs)
 ·exact oy [10,11] [11] fun D J w hG hs=>QbT (vs:=vc o.ctx) Qbu hs 0 rfl rfl rfl rfl (Zz hs)
 ·exact og [10] fun D J w hG hs=>Qaf Qbl rfl (Zz hs)
 ·exact oy [10,13] [13] fun D J w hG hs=>QbT (vs:=dc e.dot) QcE hs 1 rfl rfl rfl rfl (Zz hs)
 ·exact oy [10,12,14] [12,14] fun D J w hG hs=>Qas (vs:=[.agg (vc o.ctx).toArray,.agg (dc e.dot).toArray]) (V:=.bool (Qbv o.ctx e.dot)) QmZ rfl rfl (Qf0 _ o.ctx e.dot (by first|assumption|exact QcF (by omega) (by omega) (by omega) (by omega))) hs fun _ hs=>Zz hs
 ·exact oy [10,15] [15] fun D J w hG hs=>Qbx rfl (Zz hs)
 ·exact oa [10,16] fun D J w hs=>Qb2 (h':=!(Qbv o.ctx e.dot)) rfl rfl rfl (Zz hs)
 rintro J1 w7 J2 hJ hs
 replace hJ:J2=upd (mix (sq 5 18) J1 _) 22 (.bool (((!(QbA e))||(!decide (o.cart=e.cart)))||(!(Qbv o.ctx e.dot)))):=hJ
 subst hJ
 refine Qam (t:=((!(QbA e))||(!decide (o.cart=e.cart)))||(!(Qbv o.ctx e.dot))) rfl (fun c8=>?_) (fun c8=>?_)
 ·
  refine Qag (Qab (Qaa (Qad (V:=.bool false) rfl (Qae (Qav ?_)))))
  refine ⟨_,Qaq (V:=.bool false) Tryz.results46 rfl,(Zr hs ?_)⟩
  exact congrArg Value.bool (QrF c8).symm
 have c8r:=QfW c8
 replace c8:=QfV c8
 have c8rr:=QfW c8
 replace c8:=QfV c8
 replace c8:=Qbr c8
 replace c8rr:=Qbr c8rr
 replace c8rr:=QQ1 c8rr
 replace c8r:=Qbr c8r
 refine Qap (Qag (Qag (Qab (Qaa (Qaf Qcc rfl (Qaa (QaP (V:=.int .u8 o.kind) Qds hs 0 rfl rfl rfl (Qae (Qan (Qag (Qab (Qaa (QaW rfl rfl (Qaa (Qad (V:=.bool (decide (o.kind=5))) rfl (Qae (Qam (t:=decide (o.kind=5)) rfl (fun c9=>?_) (fun c9=>?_))))))))))))))))))
 ·
  replace c9:=QQ1 c9
  refine Qag (Qab (Qaa (Qad (V:=.bool true) rfl (Qae (Qav ?_)))))
  refine ⟨_,Qaq (V:=.bool true) Tryz.results46 rfl,(Zr hs ?_)⟩
  rw [Qhw c8 c8rr c8r]
  refine congrArg Value.bool ?_
  simp_all
 replace c9:=QQ2 c9
 refine Qag (Qag (Qab (Qaa (QaW rfl rfl (Qaa (Qad (V:=.bool (decide (o.kind=3))) rfl (Qae (Qam (t:=decide (o.kind=3)) rfl (fun c10=>?_) (fun c10=>?_)))))))))
 ·
  replace c10:=QQ1 c10
  refine Qap (QcB (congrArg Value.bool (QQ3 c10)) ?_)
  refine Qag (Qbq [some 30,some 31,some 32,some 33,some 34,some 35,some 36,some 37,some 38,some 39,some 4] [] [0,1,3,7,15,31,15,79,255,511,1023] [pv (Pq b3 (0+2)),pv (.int .u8 e.kind),pv (.bool (!decide (e.kind=4))),pv (.bool (!decide (e.kind=4))),pg ((!decide (e.kind=4)) == true) (Pq b1 (0+4)),pg ((!decide (e.kind=4)) == true) (I7 o.item),pg ((!decide (e.kind=4)) == true) (Pq b3 (0+4)),pg ((!decide (e.kind=4)) == true) (I7 e.item),pg ((!decide (e.kind=4)) == true) (.bool (decide (o.item=e.item))),pv (.bool ((!decide (e.kind=4))&&(decide (o.item=e.item)))),pv (.bool ((!decide (e.kind=4))&&(decide (o.item=e.item))))] (fun _ _=>_) [10] (by kernel_rfl) hs ⟨?_,?_,?_,?_,?_,?_,?_,?_,?_,?_,?_,trivial⟩ ?_)
  ·exact oa [] fun D J w hs=>Qaf Qcc rfl (Zz hs)
  ·exact oa [0] fun D J w hs=>QaP (V:=.int .u8 e.kind) Qds hs 1 rfl rfl rfl (Zz hs)
  ·exact oa [1] fun D J w hs=>QcC rfl rfl (Zz hs)
  ·exact oa [2] fun D J w hs=>Qac (V:=.bool (!decide (e.kind=4))) rfl (Zz hs)
  ·exact og [3] fun D J w hG hs=>Qaf Qdh rfl (Zz hs)
  ·exact oy [3,4] [4] fun D J w hG hs=>QaP (V:=.int .u16 o.item) Qar hs 0 rfl rfl rfl (Zz hs)
  ·exact og [3] fun D J w hG hs=>Qaf Qdh rfl (Zz hs)
  ·exact oy [3,6] [6] fun D J w hG hs=>QaP (V:=.int .u16 e.item) Qar hs 1 rfl rfl rfl (Zz hs)
  ·exact oy [3,5,7] [5,7] fun D J w hG hs=>QaW rfl rfl (Zz hs)
  ·exact oa [3,8] fun D J w hs=>Qbg (h':=decide (o.item=e.item)) rfl rfl rfl (Zz hs)
  ·exact oa [9] fun D J w hs=>Qad (V:=.bool ((!decide (e.kind=4))&&(decide (o.item=e.item)))) rfl (Zz hs)
  rintro J1 w11 J2 hJ hs
  replace hJ:J2=upd (mix (sq 30 10++[4]) J1 _) 4 (.bool ((!decide (e.kind=4))&&(decide (o.item=e.item)))):=hJ
  subst hJ
  refine Qav ?_
  refine ⟨_,Qaq (V:=.bool ((!decide (e.kind=4))&&(decide (o.item=e.item)))) Tryz.results46 rfl,(Zr hs ?_)⟩
  rw [Qhw c8 c8rr c8r]
  refine congrArg Value.bool ?_
  simp_all
 replace c10:=QQ2 c10
 refine Qab (Qaa (QaW rfl rfl (Qaa (Qad (V:=.bool (decide (o.kind=2))) rfl (Qae (Qam (t:=decide (o.kind=2)) rfl (fun c12=>?_) (fun c12=>?_)))))))
 ·
  replace c12:=QQ1 c12
  refine Qag (Qbq [some 30,some 31,some 32,some 33,some 34,some 35,some 36,some 37,some 38,some 39,some 4] [] [0,1,3,7,15,31,15,79,255,511,1023] [pv (Pq b3 (0+2)),pv (.int .u8 e.kind),pv (.bool (!decide (e.kind=4))),pv (.bool (!decide (e.kind=4))),pg ((!decide (e.kind=4)) == true) (Pq b1 (0+4)),pg ((!decide (e.kind=4)) == true) (I7 o.item),pg ((!decide (e.kind=4)) == true) (Pq b3 (0+4)),pg ((!decide (e.kind=4)) == true) (I7 e.item),pg ((!decide (e.kind=4)) == true) (.bool (decide (o.item=e.item))),pv (.bool ((!decide (e.kind=4))&&(decide (o.item=e.item)))),pv (.bool ((!decide (e.kind=4))&&(decide (o.item=e.item))))] (fun _ _=>_) [10] (by kernel_rfl) hs ⟨?_,?_,?_,?_,?_,?_,?_,?_,?_,?_,?_,trivial⟩ ?_)
  ·exact oa [] fun D J w hs=>Qaf Qcc rfl (Zz hs)
  ·exact oa [0] fun D J w hs=>QaP (V:=.int .u8 e.kind) Qds hs 1 rfl rfl rfl (Zz hs)
  ·exact oa [1] fun D J w hs=>QcC rfl rfl (Zz hs)
  ·exact oa [2] fun D J w hs=>Qac (V:=.bool (!decide (e.kind=4))) rfl (Zz hs)
  ·exact og [3] fun D J w hG hs=>Qaf Qdh rfl (Zz hs)
  ·exact oy [3,4] [4] fun D J w hG hs=>QaP (V:=.int .u16 o.item) Qar hs 0 rfl rfl rfl (Zz hs)
  ·exact og [3] fun D J w hG hs=>Qaf Qdh rfl (Zz hs)
  ·exact oy [3,6] [6] fun D J w hG hs=>QaP (V:=.int .u16 e.item) Qar hs 1 rfl rfl rfl (Zz hs)
  ·exact oy [3,5,7] [5,7] fun D J w hG hs=>QaW rfl rfl (Zz hs)
  ·exact oa [3,8] fun D J w hs=>Qbg (h':=decide (o.item=e.item)) rfl rfl rfl (Zz hs)
  ·exact oa [9] fun D J w hs=>Qad (V:=.bool ((!decide (e.kind=4))&&(decide (o.item=e.item)))) rfl (Zz hs)
  rintro J1 w13 J2 hJ hs
  replace hJ:J2=upd (mix (sq 30 10++[4]) J1 _) 4 (.bool ((!decide (e.kind=4))&&(decide (o.item=e.item)))):=hJ
  subst hJ
  refine Qav ?_
  refine ⟨_,Qaq (V:=.bool ((!decide (e.kind=4))&&(decide (o.item=e.item)))) Tryz.results46 rfl,(Zr hs ?_)⟩
  rw [Qhw c8 c8rr c8r]
  refine congrArg Value.bool ?_
  simp_all
 replace c12:=QQ2 c12
 refine Qap (Qag (Qab (Qaa (Qad (V:=.bool false) rfl (Qae (Qav ?_))))))
 refine ⟨_,Qaq (V:=.bool false) Tryz.results46 rfl,(Zr hs ?_)⟩
 rw [Qhw c8 c8rr c8r]
 refine congrArg Value.bool ?_
 simp_all
theorem Qn7 (w:World) (o:Opn) (ho:Qb8 o):Calls Tryz.prog 151 #[.agg (oc o).toArray] w (fun e w'=>e = .returned (.bool (Qb4 o))/\Own w no w' []):=by
 refine Qai (n:=28) Tryz.func151 rfl Tryz.ntmps151 rfl ?_
 have hs:=Own.start w
 refine Qag (Qab (Qaa (Qa4 (V:=.agg (oc o).toArray) (cs:=oc o) rfl rfl hs fun b1 w2 hs=>(Qaa (Qad (V:=.bool false) rfl (Qae (Qag (Qag (Qab (Qaa (Qaf Qcc rfl (Qaa (QaP (V:=.int .u8 o.kind) Qds hs 0 rfl rfl rfl (Qae (Qan (Qag (Qab (Qaa (QaW rfl rfl (Qaa (Qad (V:=.bool (decide (o.kind=1))) rfl (Qae (Qam (t:=decide (o.kind=1)) rfl (fun c3=>?_) (fun c3=>?_))))))))))))))))))))))))
 ·
  replace c3:=QQ1 c3
  refine Qag (Qab (Qaa (Qaf Qdj rfl (Qaa (QaP (V:=I7 o.qty) Qar hs 0 rfl rfl rfl (Qaa (QbU rfl rfl (Qaa (Qad (V:=.bool (decide (0<o.qty))) rfl (Qae (Qav ?_)))))))))))
  refine ⟨_,Qaq (V:=.bool (decide (0<o.qty))) Tryz.results151 rfl,(Zr hs (congrArg Value.bool ?_))⟩
  unfold Qb4
  have ⟨_,_,_,_,⟨hq1,hq2⟩,_,_⟩:=ho
  simp_all
  try omega
 replace c3:=QQ2 c3
 refine Qag (Qab (Qaa (QaW rfl rfl (Qaa (Qad (V:=.bool (decide (o.kind=2))) rfl (Qae (Qam (t:=decide (o.kind=2)) rfl (fun c4=>?_) (fun c4=>?_))))))))
 ·
  replace c4:=QQ1 c4
  refine Qag (Qab (Qaa (Qad (V:=.bool true) rfl (Qae (Qav ?_)))))
  refine ⟨_,Qaq (V:=.bool true) Tryz.results151 rfl,(Zr hs (congrArg Value.bool ?_))⟩
  unfold Qb4
  have ⟨_,_,_,_,⟨hq1,hq2⟩,_,_⟩:=ho
  simp_all
  try omega
 replace c4:=QQ2 c4
 refine Qag (Qab (Qaa (QaW rfl rfl (Qaa (Qad (V:=.bool (decide (o.kind=3))) rfl (Qae (Qam (t:=decide (o.kind=3)) rfl (fun c5=>?_) (fun c5=>?_))))))))
 ·
  replace c5:=QQ1 c5
  refine Qag (Qab (Qaa (Qaf Qdj rfl (Qaa (QaP (V:=I7 o.qty) Qar hs 0 rfl rfl rfl (Qaa (QaW rfl rfl (Qaa (Qad (V:=.bool (decide (o.qty=0))) rfl (Qae (Qav ?_)))))))))))
  refine ⟨_,Qaq (V:=.bool (decide (o.qty=0))) Tryz.results151 rfl,(Zr hs (congrArg Value.bool ?_))⟩
  unfold Qb4
  have ⟨_,_,_,_,⟨hq1,hq2⟩,_,_⟩:=ho
  simp_all
  try omega
 replace c5:=QQ2 c5
 refine Qag (Qag (Qab (Qaa (QaW rfl rfl (Qaa (Qad (V:=.bool (decide (o.kind=4))) rfl (Qae (Qam (t:=decide (o.kind=4)) rfl (fun c6=>?_) (fun c6=>?_)))))))))
 ·
  replace c6:=QQ1 c6
  refine Qap (QcB (congrArg Value.bool (QQ3 c6)) ?_)
  refine Qag (Qbq [some 20,some 21,some 22,some 23,some 24,some 25,some 26,some 27,some 2] [] [0,1,3,7,15,31,63,127,255] [pv (Pq b1 (0+4)),pv (I7 o.item),pv (.bool (decide (o.item=0))),pv (.bool (decide (o.item=0))),pg ((decide (o.item=0)) == true) (Pq b1 (0+5)),pg ((decide (o.item=0)) == true) (I7 o.qty),pg ((decide (o.item=0)) == true) (.bool (decide (o.qty=0))),pv (.bool ((decide (o.item=0))&&(decide (o.qty=0)))),pv (.bool ((decide (o.item=0))&&(decide (o.qty=0))))] (fun _ _=>_) [8] (by kernel_rfl) hs ⟨?_,?_,?_,?_,?_,?_,?_,?_,?_,trivial⟩ ?_)
  ·exact oa [] fun D J w hs=>Qaf Qdh rfl (Zz hs)
  ·exact oa [0] fun D J w hs=>QaP (V:=.int .u16 o.item) Qar hs 0 rfl rfl rfl (Zz hs)
  ·exact oa [1] fun D J w hs=>QaW rfl rfl (Zz hs)
  ·exact oa [2] fun D J w hs=>Qac (V:=.bool (decide (o.item=0))) rfl (Zz hs)
  ·exact og [3] fun D J w hG hs=>Qaf Qdj rfl (Zz hs)
  ·exact oy [3,4] [4] fun D J w hG hs=>QaP (V:=.int .u16 o.qty) Qar hs 0 rfl rfl rfl (Zz hs)
  ·exact oy [3,5] [5] fun D J w hG hs=>QaW rfl rfl (Zz hs)
  ·exact oa [3,6] fun D J w hs=>Qbg (h':=decide (o.qty=0)) rfl rfl rfl (Zz hs)
  ·exact oa [7] fun D J w hs=>Qad (V:=.bool ((decide (o.item=0))&&(decide (o.qty=0)))) rfl (Zz hs)
  rintro J1 w7 J2 hJ hs
  replace hJ:J2=upd (mix (sq 20 8++[2]) J1 _) 2 (.bool ((decide (o.item=0))&&(decide (o.qty=0)))):=hJ
  subst hJ
  refine Qav ?_
  refine ⟨_,Qaq (V:=.bool ((decide (o.item=0))&&(decide (o.qty=0)))) Tryz.results151 rfl,(Zr hs (congrArg Value.bool ?_))⟩
  unfold Qb4
  have ⟨_,_,_,_,⟨hq1,hq2⟩,_,_⟩:=ho
  simp_all
  try omega
 replace c6:=QQ2 c6
 refine Qab (Qaa (QaW rfl rfl (Qaa (Qad (V:=.bool (decide (o.kind=5))) rfl (Qae (Qam (t:=decide (o.kind=5)) rfl (fun c8=>?_) (fun c8=>?_)))))))
 ·
  replace c8:=QQ1 c8
  refine Qag (Qbq [some 20,some 21,some 22,some 23,some 24,some 25,some 26,some 27,some 2] [] [0,1,3,7,15,31,63,127,255] [pv (Pq b1 (0+4)),pv (I7 o.item),pv (.bool (decide (o.item=0))),pv (.bool (decide (o.item=0))),pg ((decide (o.item=0)) == true) (Pq b1 (0+5)),pg ((decide (o.item=0)) == true) (I7 o.qty),pg ((decide (o.item=0)) == true) (.bool (decide (o.qty=0))),pv (.bool ((decide (o.item=0))&&(decide (o.qty=0)))),pv (.bool ((decide (o.item=0))&&(decide (o.qty=0))))] (fun _ _=>_) [8] (by kernel_rfl) hs ⟨?_,?_,?_,?_,?_,?_,?_,?_,?_,trivial⟩ ?_)
  ·exact oa [] fun D J w hs=>Qaf Qdh rfl (Zz hs)
  ·exact oa [0] fun D J w hs=>QaP (V:=.int .u16 o.item) Qar hs 0 rfl rfl rfl (Zz hs)
  ·exact oa [1] fun D J w hs=>QaW rfl rfl (Zz hs)
  ·exact oa [2] fun D J w hs=>Qac (V:=.bool (decide (o.item=0))) rfl (Zz hs)
  ·exact og [3] fun D J w hG hs=>Qaf Qdj rfl (Zz hs)
  ·exact oy [3,4] [4] fun D J w hG hs=>QaP (V:=.int .u16 o.qty) Qar hs 0 rfl rfl rfl (Zz hs)
  ·exact oy [3,5] [5] fun D J w hG hs=>QaW rfl rfl (Zz hs)
  ·exact oa [3,6] fun D J w hs=>Qbg (h':=decide (o.qty=0)) rfl rfl rfl (Zz hs)
  ·exact oa [7] fun D J w hs=>Qad (V:=.bool ((decide (o.item=0))&&(decide (o.qty=0)))) rfl (Zz hs)
  rintro J1 w9 J2 hJ hs
  replace hJ:J2=upd (mix (sq 20 8++[2]) J1 _) 2 (.bool ((decide (o.item=0))&&(decide (o.qty=0)))):=hJ
  subst hJ
  refine Qav ?_
  refine ⟨_,Qaq (V:=.bool ((decide (o.item=0))&&(decide (o.qty=0)))) Tryz.results151 rfl,(Zr hs (congrArg Value.bool ?_))⟩
  unfold Qb4
  have ⟨_,_,_,_,⟨hq1,hq2⟩,_,_⟩:=ho
  simp_all
  try omega
 replace c8:=QQ2 c8
 refine Qap (Qag (Qab (Qaa (Qad (V:=.bool false) rfl (Qae (Qav ?_))))))
 refine ⟨_,Qaq (V:=.bool false) Tryz.results151 rfl,(Zr hs (congrArg Value.bool ?_))⟩
 unfold Qb4
 have ⟨_,_,_,_,⟨hq1,hq2⟩,_,_⟩:=ho
 simp_all
 try omega
theorem Qox (w:World) (o:Opn) (ho:Qb8 o):Calls Tryz.prog 152 #[.agg (oc o).toArray] w (fun e w'=>e = .returned (.bool (Qb4 o))/\Own w no w' []):=by
 refine Qai (n:=28) Tryz.func152 rfl Tryz.ntmps152 rfl ?_
 have hs:=Own.start w
 refine Qag (Qab (Qaa (Qa4 (V:=.agg (oc o).toArray) (cs:=oc o) rfl rfl hs fun b1 w2 hs=>(Qaa (Qad (V:=.bool false) rfl (Qae (Qag (Qag (Qab (Qaa (Qaf Qcc rfl (Qaa (QaP (V:=.int .u8 o.kind) Qds hs 0 rfl rfl rfl (Qae (Qan (Qag (Qab (Qaa (QaW rfl rfl (Qaa (Qad (V:=.bool (decide (o.kind=1))) rfl (Qae (Qam (t:=decide (o.kind=1)) rfl (fun c3=>?_) (fun c3=>?_))))))))))))))))))))))))
 ·
  replace c3:=QQ1 c3
  refine Qag (Qab (Qaa (Qaf Qdj rfl (Qaa (QaP (V:=I7 o.qty) Qar hs 0 rfl rfl rfl (Qaa (QcR rfl rfl (Qaa (Qad (V:=.bool (decide (1<=o.qty))) rfl (Qae (Qav ?_)))))))))))
  refine ⟨_,Qaq (V:=.bool (decide (1<=o.qty))) Tryz.results152 rfl,(Zr hs (congrArg Value.bool ?_))⟩
  unfold Qb4
  have ⟨_,_,_,_,⟨hq1,hq2⟩,_,_⟩:=ho
  simp_all
  try omega
 replace c3:=QQ2 c3
 refine Qag (Qab (Qaa (QaW rfl rfl (Qaa (Qad (V:=.bool (decide (o.kind=2))) rfl (Qae (Qam (t:=decide (o.kind=2)) rfl (fun c4=>?_) (fun c4=>?_))))))))
 ·
  replace c4:=QQ1 c4
  refine Qag (Qab (Qaa (Qad (V:=.bool true) rfl (Qae (Qav ?_)))))
  refine ⟨_,Qaq (V:=.bool true) Tryz.results152 rfl,(Zr hs (congrArg Value.bool ?_))⟩
  unfold Qb4
  have ⟨_,_,_,_,⟨hq1,hq2⟩,_,_⟩:=ho
  simp_all
  try omega
 replace c4:=QQ2 c4
 refine Qag (Qab (Qaa (QaW rfl rfl (Qaa (Qad (V:=.bool (decide (o.kind=3))) rfl (Qae (Qam (t:=decide (o.kind=3)) rfl (fun c5=>?_) (fun c5=>?_))))))))
 ·
  replace c5:=QQ1 c5
  refine Qag (Qab (Qaa (Qaf Qdj rfl (Qaa (QaP (V:=I7 o.qty) Qar hs 0 rfl rfl rfl (Qaa (QaW rfl rfl (Qaa (Qad (V:=.bool (decide (o.qty=0))) rfl (Qae (Qav ?_)))))))))))
  refine ⟨_,Qaq (V:=.bool (decide (o.qty=0))) Tryz.results152 rfl,(Zr hs (congrArg Value.bool ?_))⟩
  unfold Qb4
  have ⟨_,_,_,_,⟨hq1,hq2⟩,_,_⟩:=ho
  simp_all
  try omega
 replace c5:=QQ2 c5
 refine Qag (Qag (Qab (Qaa (QaW rfl rfl (Qaa (Qad (V:=.bool (decide (o.kind=4))) rfl (Qae (Qam (t:=decide (o.kind=4)) rfl (fun c6=>?_) (fun c6=>?_)))))))))
 ·
  replace c6:=QQ1 c6
  refine Qap (QcB (congrArg Value.bool (QQ3 c6)) ?_)
  refine Qag (Qbq [some 20,some 21,some 22,some 23,some 24,some 25,some 26,some 27,some 2] [] [0,1,3,7,15,31,63,127,255] [pv (Pq b1 (0+4)),pv (I7 o.item),pv (.bool (decide (o.item=0))),pv (.bool (decide (o.item=0))),pg ((decide (o.item=0)) == true) (Pq b1 (0+5)),pg ((decide (o.item=0)) == true) (I7 o.qty),pg ((decide (o.item=0)) == true) (.bool (decide (o.qty=0))),pv (.bool ((decide (o.item=0))&&(decide (o.qty=0)))),pv (.bool ((decide (o.item=0))&&(decide (o.qty=0))))] (fun _ _=>_) [8] (by kernel_rfl) hs ⟨?_,?_,?_,?_,?_,?_,?_,?_,?_,trivial⟩ ?_)
  ·exact oa [] fun D J w hs=>Qaf Qdh rfl (Zz hs)
  ·exact oa [0] fun D J w hs=>QaP (V:=.int .u16 o.item) Qar hs 0 rfl rfl rfl (Zz hs)
  ·exact oa [1] fun D J w hs=>QaW rfl rfl (Zz hs)
  ·exact oa [2] fun D J w hs=>Qac (V:=.bool (decide (o.item=0))) rfl (Zz hs)
  ·exact og [3] fun D J w hG hs=>Qaf Qdj rfl (Zz hs)
  ·exact oy [3,4] [4] fun D J w hG hs=>QaP (V:=.int .u16 o.qty) Qar hs 0 rfl rfl rfl (Zz hs)
  ·exact oy [3,5] [5] fun D J w hG hs=>QaW rfl rfl (Zz hs)
  ·exact oa [3,6] fun D J w hs=>Qbg (h':=decide (o.qty=0)) rfl rfl rfl (Zz hs)
  ·exact oa [7] fun D J w hs=>Qad (V:=.bool ((decide (o.item=0))&&(decide (o.qty=0)))) rfl (Zz hs)
  rintro J1 w7 J2 hJ hs
  replace hJ:J2=upd (mix (sq 20 8++[2]) J1 _) 2 (.bool ((decide (o.item=0))&&(decide (o.qty=0)))):=hJ
  subst hJ
  refine Qav ?_
  refine ⟨_,Qaq (V:=.bool ((decide (o.item=0))&&(decide (o.qty=0)))) Tryz.results152 rfl,(Zr hs (congrArg Value.bool ?_))⟩
  unfold Qb4
  have ⟨_,_,_,_,⟨hq1,hq2⟩,_,_⟩:=ho
  simp_all
  try omega
 replace c6:=QQ2 c6
 refine Qab (Qaa (QaW rfl rfl (Qaa (Qad (V:=.bool (decide (o.kind=5))) rfl (Qae (Qam (t:=decide (o.kind=5)) rfl (fun c8=>?_) (fun c8=>?_)))))))
 ·
  replace c8:=QQ1 c8
  refine Qag (Qbq [some 20,some 21,some 22,some 23,some 24,some 25,some 26,some 27,some 2] [] [0,1,3,7,15,31,63,127,255] [pv (Pq b1 (0+4)),pv (I7 o.item),pv (.bool (decide (o.item=0))),pv (.bool (decide (o.item=0))),pg ((decide (o.item=0)) == true) (Pq b1 (0+5)),pg ((decide (o.item=0)) == true) (I7 o.qty),pg ((decide (o.item=0)) == true) (.bool (decide (o.qty=0))),pv (.bool ((decide (o.item=0))&&(decide (o.qty=0)))),pv (.bool ((decide (o.item=0))&&(decide (o.qty=0))))] (fun _ _=>_) [8] (by kernel_rfl) hs ⟨?_,?_,?_,?_,?_,?_,?_,?_,?_,trivial⟩ ?_)
  ·exact oa [] fun D J w hs=>Qaf Qdh rfl (Zz hs)
  ·exact oa [0] fun D J w hs=>QaP (V:=.int .u16 o.item) Qar hs 0 rfl rfl rfl (Zz hs)
  ·exact oa [1] fun D J w hs=>QaW rfl rfl (Zz hs)
  ·exact oa [2] fun D J w hs=>Qac (V:=.bool (decide (o.item=0))) rfl (Zz hs)
  ·exact og [3] fun D J w hG hs=>Qaf Qdj rfl (Zz hs)
  ·exact oy [3,4] [4] fun D J w hG hs=>QaP (V:=.int .u16 o.qty) Qar hs 0 rfl rfl rfl (Zz hs)
  ·exact oy [3,5] [5] fun D J w hG hs=>QaW rfl rfl (Zz hs)
  ·exact oa [3,6] fun D J w hs=>Qbg (h':=decide (o.qty=0)) rfl rfl rfl (Zz hs)
  ·exact oa [7] fun D J w hs=>Qad (V:=.bool ((decide (o.item=0))&&(decide (o.qty=0)))) rfl (Zz hs)
  rintro J1 w9 J2 hJ hs
  replace hJ:J2=upd (mix (sq 20 8++[2]) J1 _) 2 (.bool ((decide (o.item=0))&&(decide (o.qty=0)))):=hJ
  subst hJ
  refine Qav ?_
  refine ⟨_,Qaq (V:=.bool ((decide (o.item=0))&&(decide (o.qty=0)))) Tryz.results152 rfl,(Zr hs (congrArg Value.bool ?_))⟩
  unfold Qb4
  have ⟨_,_,_,_,⟨hq1,hq2⟩,_,_⟩:=ho
  simp_all
  try omega
 replace c8:=QQ2 c8
 refine Qap (Qag (Qab (Qaa (Qad (V:=.bool false) rfl (Qae (Qav ?_))))))
 refine ⟨_,Qaq (V:=.bool false) Tryz.results152 rfl,(Zr hs (congrArg Value.bool ?_))⟩
 unfold Qb4
 have ⟨_,_,_,_,⟨hq1,hq2⟩,_,_⟩:=ho
 simp_all
 try omega
theorem Qig (w:World) (o:Opn) (n:Int) (hO:Qb8 o):Calls Tryz.prog 103 #[.agg (oc o).toArray,.int .i64 n] w (fun e w'=>e = .returned (.bool (Qa7 o n))/\Own w no w' []):=by
 refine Qai (n:=50) Tryz.func103 rfl Tryz.ntmps103 rfl ?_
 have hs:=Own.start w
 have ⟨⟨⟨hr1,hr2⟩,hr3,hr4⟩,_,_,_,⟨hq1,hq2⟩,_,hctx⟩:=hO
 refine Qag (Qab (Qaa (Qa4 (V:=.agg (oc o).toArray) (cs:=oc o) rfl rfl hs fun b1 w2 hs=>(Qaa (Qad (V:=.bool false) rfl (Qae (Qag (Qag (Qbq [some 6,some 7,some 8,some 9,some 10,some 11,some 12,some 13,some 14,some 15,some 16,some 17,some 18,some 19,some 20,some 21,some 22,some 23,some 24,some 25,some 26,some 27,some 28] [] [0,1,0,7,15,31,63,127,255,511,63,2047,4095,8191,16383,32767,65535,131071,262143,524287,1048575,2097151,4194303] [pv (Pq b1 (0+7)),pv (.agg (vc o.ctx).toArray),pv (I6 n),pv (.bool (QaQ o.ctx n)),pv (.bool (!(QaQ o.ctx n))),pv (.bool (!(QaQ o.ctx n))),pg ((!(QaQ o.ctx n)) == false) (Pq b1 (0+0)),pg ((!(QaQ o.ctx n)) == false) (Pq b1 (0+0+0)),pg ((!(QaQ o.ctx n)) == false) (.int .u8 o.dot.rep),pg ((!(QaQ o.ctx n)) == false) (I6 o.dot.rep),pg ((!(QaQ o.ctx n)) == false) (I6 n),pg ((!(QaQ o.ctx n)) == false) (.bool (decide (n<=o.dot.rep))),pv (.bool ((!(QaQ o.ctx n))||(decide (n<=o.dot.rep)))),pv (.bool ((!(QaQ o.ctx n))||(decide (n<=o.dot.rep)))),pg (((!(QaQ o.ctx n))||(decide (n<=o.dot.rep))) == false) (Pq b1 (0+6)),pg (((!(QaQ o.ctx n))||(decide (n<=o.dot.rep))) == false) (.int .u32 o.tick),pg (((!(QaQ o.ctx n))||(decide (n<=o.dot.rep))) == false) (.bool (decide (1073741824<o.tick))),pv (.bool (((!(QaQ o.ctx n))||(decide (n<=o.dot.rep)))||(decide (1073741824<o.tick)))),pv (.bool (((!(QaQ o.ctx n))||(decide (n<=o.dot.rep)))||(decide (1073741824<o.tick)))),pg ((((!(QaQ o.ctx n))||(decide (n<=o.dot.rep)))||(decide (1073741824<o.tick))) == false) (.agg (oc o).toArray),pg ((((!(QaQ o.ctx n))||(decide (n<=o.dot.rep)))||(decide (1073741824<o.tick))) == false) (.bool (Qb4 o)),pg ((((!(QaQ o.ctx n))||(decide (n<=o.dot.rep)))||(decide (1073741824<o.tick))) == false) (.bool (!(Qb4 o))),pv (.bool ((((!(QaQ o.ctx n))||(decide (n<=o.dot.rep)))||(decide (1073741824<o.tick)))||(!(Qb4 o))))] (fun _ _=>_) [22] (by kernel_rfl) hs ⟨?_,?_,?_,?_,?_,?_,?_,?_,?_,?_,?_,?_,?_,?_,?_,?_,?_,?_,?_,?_,?_,?_,?_,trivial⟩ ?_)))))))))
 ·exact oa [] fun D J w hs=>Qaf QcD rfl (Zz hs)
 ·exact oa [0] fun D J w hs=>QbT (vs:=vc o.ctx) Qbu hs 0 rfl rfl rfl rfl (Zz hs)
 ·exact oa [] fun D J w hs=>Qac (V:=.int .i64 n) rfl (Zz hs)
 ·exact oa [1,2] fun D J w hs=>Qas (vs:=[.agg (vc o.ctx).toArray,.int .i64 n]) (V:=.bool (QaQ o.ctx n)) Qqu rfl rfl (Qgj _ o.ctx n (by first|assumption|exact Qcx)) hs fun _ hs=>Zz hs
 ·exact oa [3] fun D J w hs=>Qbx rfl (Zz hs)
 ·exact oa [4] fun D J w hs=>Qac (V:=.bool (!(QaQ o.ctx n))) rfl (Zz hs)
 ·exact og [5] fun D J w hG hs=>Qaf Qbl rfl (Zz hs)
 ·exact oy [5,6] [6] fun D J w hG hs=>Qaf QbV rfl (Zz hs)
 ·exact oy [5,7] [7] fun D J w hG hs=>QaP (V:=.int .u8 o.dot.rep) Qds hs 0 rfl rfl rfl (Zz hs)
 ·exact oy [5,8] [8] fun D J w hG hs=>Qcg QuN QhH rfl (QbE (by omega) (by omega)) (Zz hs)
 ·exact og [5] fun D J w hG hs=>Qac (V:=.int .i64 n) rfl (Zz hs)
 ·exact oy [5,9,10] [9,10] fun D J w hG hs=>QcR rfl rfl (Zz hs)
 ·exact oa [5,11] fun D J w hs=>Qb2 (h':=decide (n<=o.dot.rep)) rfl rfl rfl (Zz hs)
 ·exact oa [12] fun D J w hs=>Qac (V:=.bool ((!(QaQ o.ctx n))||(decide (n<=o.dot.rep)))) rfl (Zz hs)
 ·exact og [13] fun D J w hG hs=>Qaf Qhn rfl (Zz hs)
 ·exact oy [13,14] [14] fun D J w hG hs=>QaP (V:=.int .u32 o.tick) QaN hs 0 rfl rfl rfl (Zz hs)
 ·exact oy [13,15] [15] fun D J w hG hs=>QbU rfl rfl (Zz hs)
 ·exact oa [13,16] fun D J w hs=>Qb2 (h':=decide (1073741824<o.tick)) rfl rfl rfl (Zz hs)
 ·exact oa [17] fun D J w hs=>Qac (V:=.bool (((!(QaQ o.ctx n))||(decide (n<=o.dot.rep)))||(decide (1073741824<o.tick)))) rfl (Zz hs)
 ·exact og [18] fun D J w hG hs=>QaO (cs:=oc o) QbB hs 0 rfl rfl rfl (Zz hs)
 ·exact oy [18,19] [19] fun D J w hG hs=>Qas (vs:=[.agg (oc o).toArray]) (V:=.bool (Qb4 o)) QtA rfl rfl (Qn7 _ o (by assumption)) hs fun _ hs=>Zz hs
 ·exact oy [18,20] [20] fun D J w hG hs=>Qbx rfl (Zz hs)
 ·exact oa [18,21] fun D J w hs=>Qb2 (h':=!(Qb4 o)) rfl rfl rfl (Zz hs)
 rintro J1 w5 J2 hJ hs
 replace hJ:J2=upd (mix (sq 6 23) J1 _) 28 (.bool ((((!(QaQ o.ctx n))||(decide (n<=o.dot.rep)))||(decide (1073741824<o.tick)))||(!(Qb4 o)))):=hJ
 subst hJ
 refine Qam (t:=(((!(QaQ o.ctx n))||(decide (n<=o.dot.rep)))||(decide (1073741824<o.tick)))||(!(Qb4 o))) rfl (fun c6=>?_) (fun c6=>?_)
 ·
  refine Qag (Qab (Qaa (Qad (V:=.bool false) rfl (Qae (Qav ?_)))))
  refine ⟨_,Qaq (V:=.bool false) Tryz.results103 rfl,(Zr hs ?_)⟩
  exact congrArg Value.bool (Qob c6).symm
 have c6r:=QfW c6
 replace c6:=QfV c6
 have c6rr:=QfW c6
 replace c6:=QfV c6
 have c6rrr:=QfW c6
 replace c6:=QfV c6
 replace c6:=Qbr c6
 replace c6rrr:=QQ2 c6rrr
 replace c6rr:=QQ2 c6rr
 replace c6r:=Qbr c6r
 refine Qap (Qag (Qab (Qaa (Qaf Qbl rfl (Qaa (QbT (vs:=dc o.dot) QcE hs 0 rfl rfl rfl rfl (Qaa (QaL (cs:=dc (⟨0,0⟩:Dot)) Quf rfl hs fun b7 w8 hs=>(Qaa (QcG (V:=.agg (dc o.dot).toArray) (vs:=dc o.dot) (cs':=dc o.dot) QcE.1 hs 1 rfl rfl rfl rfl rfl (QQ8 rfl) (Qsw _) (Qaz rfl) fun w9 hs=>(Qae (Qag ?_))))))))))))
 have hnn:=Qhb c6
 refine QaH HM [some 31,some 32,some 33,some 34,some 35,some 36,some 37,some 38,some 39,some 40,some 41,some 42,some 43,some 44,some 45,some 46,some 47,some 48,some 49,some 4] [] [0,1,3,7,15,31,63,127,255,511,1023,511,4095,8191,511,16895,49663,131071,262143,524287] [pv (Pq b7 (0+1)),pv (.int .u32 o.dot.seq),pv (.bool (decide (1<=o.dot.seq))),pv (.bool (decide (1<=o.dot.seq))),pg ((decide (1<=o.dot.seq)) == true) (Pq b7 (0+1)),pg ((decide (1<=o.dot.seq)) == true) (.int .u32 o.dot.seq),pg ((decide (1<=o.dot.seq)) == true) (.bool (decide (o.dot.seq<=1048576))),pv (.bool ((decide (1<=o.dot.seq))&&(decide (o.dot.seq<=1048576)))),pv (.bool ((decide (1<=o.dot.seq))&&(decide (o.dot.seq<=1048576)))),pg (((decide (1<=o.dot.seq))&&(decide (o.dot.seq<=1048576))) == true) (Pq b7 (0+0)),pg (((decide (1<=o.dot.seq))&&(decide (o.dot.seq<=1048576))) == true) (.int .u8 o.dot.rep),pg (((decide (1<=o.dot.seq))&&(decide (o.dot.seq<=1048576))) == true) (Pq b1 (0+7)),pg (((decide (1<=o.dot.seq))&&(decide (o.dot.seq<=1048576))) == true) (.pointer (some ⟨b1,0+7+o.dot.rep.toNat,none⟩)),pg (((decide (1<=o.dot.seq))&&(decide (o.dot.seq<=1048576))) == true) (.int .u32 (vat o.ctx o.dot.rep.toNat)),pg (((decide (1<=o.dot.seq))&&(decide (o.dot.seq<=1048576))) == true) (Pq b7 (0+1)),pg (((decide (1<=o.dot.seq))&&(decide (o.dot.seq<=1048576))) == true) (.int .u32 o.dot.seq),pg (((decide (1<=o.dot.seq))&&(decide (o.dot.seq<=1048576))) == true) (.int .u32 (o.dot.seq-1)),pg (((decide (1<=o.dot.seq))&&(decide (o.dot.seq<=1048576))) == true) (.bool (decide (vat o.ctx o.dot.rep.toNat=o.dot.seq-1))),pv (.bool (((decide (1<=o.dot.seq))&&(decide (o.dot.seq<=1048576)))&&(decide (vat o.ctx o.dot.rep.toNat=o.dot.seq-1)))),pv (.bool (((decide (1<=o.dot.seq))&&(decide (o.dot.seq<=1048576)))&&(decide (vat o.ctx o.dot.rep.toNat=o.dot.seq-1))))] (fun _ _=>_) [19] (by kernel_rfl) hs ⟨?_,?_,?_,?_,?_,?_,?_,?_,?_,?_,?_,?_,?_,?_,?_,?_,?_,?_,?_,?_,trivial⟩ ?_
 ·exact oa [] fun D J w hs=>Qaf QbX rfl (Zz hs)
 ·exact oa [0] fun D J w hs=>QaP (V:=.int .u32 o.dot.seq) QaN hs 1 rfl rfl rfl (Zz hs)
 ·exact oa [1] fun D J w hs=>QcR rfl rfl (Zz hs)
 ·exact oa [2] fun D J w hs=>Qac (V:=.bool (decide (1<=o.dot.seq))) rfl (Zz hs)
 ·exact og [3] fun D J w hG hs=>Qaf QbX rfl (Zz hs)
 ·exact oy [3,4] [4] fun D J w hG hs=>QaP (V:=.int .u32 o.dot.seq) QaN hs 1 rfl rfl rfl (Zz hs)
 ·exact oy [3,5] [5] fun D J w hG hs=>QdS rfl rfl (Zz hs)
 ·exact oa [3,6] fun D J w hs=>Qbg (h':=decide (o.dot.seq<=1048576)) rfl rfl rfl (Zz hs)
 ·exact oa [7] fun D J w hs=>Qac (V:=.bool ((decide (1<=o.dot.seq))&&(decide (o.dot.seq<=1048576)))) rfl (Zz hs)
 ·refine og [8] fun D J w hG hs=>?_
  have hg9:=QbY (eq_of_beq hG)
  have hgd:=QQ1 hg9
  exact Qaf QbV rfl (Zz hs)
 ·refine oy [8,9] [9] fun D J w hG hs=>?_
  have hg9:=QbY (eq_of_beq hG)
  have hgd:=QQ1 hg9
  exact QaP (V:=.int .u8 o.dot.rep) Qds hs 1 rfl rfl rfl (Zz hs)
 ·refine og [8] fun D J w hG hs=>?_
  have hg9:=QbY (eq_of_beq hG)
  have hgd:=QQ1 hg9
  exact Qaf QcD rfl (Zz hs)
 ·refine oy [8,10,11] [10,11] fun D J w hG hs=>?_
  have hg9:=QbY (eq_of_beq hG)
  have hgd:=QQ1 hg9
  exact Qbo QdH QaN.1 rfl rfl (by omega) (by omega) (Zz hs)
 ·refine oy [8,12] [12] fun D J w hG hs=>?_
  have hg9:=QbY (eq_of_beq hG)
  have hgd:=QQ1 hg9
  exact QaP (V:=.int .u32 (vat o.ctx o.dot.rep.toNat)) QaN hs 0 rfl rfl (Qpw (by omega) (by omega)) (Zz hs)
 ·refine og [8] fun D J w hG hs=>?_
  have hg9:=QbY (eq_of_beq hG)
  have hgd:=QQ1 hg9
  exact Qaf QbX rfl (Zz hs)
 ·refine oy [8,14] [14] fun D J w hG hs=>?_
  have hg9:=QbY (eq_of_beq hG)
  have hgd:=QQ1 hg9
  exact QaP (V:=.int .u32 o.dot.seq) QaN hs 1 rfl rfl rfl (Zz hs)
 ·refine oy [8,15] [15] fun D J w hG hs=>?_
  have hg9:=QbY (eq_of_beq hG)
  have hgd:=QQ1 hg9
  exact Qa3 (a:=o.dot.seq) (b:=1) (c:=o.dot.seq-1) rfl rfl (Qgt (by omega) (by omega)) (Zz hs)
 ·refine oy [8,13,16] [13,16] fun D J w hG hs=>?_
  have hg9:=QbY (eq_of_beq hG)
  have hgd:=QQ1 hg9
  exact QaW rfl rfl (Zz hs)
 ·exact oa [8,17] fun D J w hs=>Qbg (h':=decide (vat o.ctx o.dot.rep.toNat=o.dot.seq-1)) rfl rfl rfl (Zz hs)
 ·exact oa [18] fun D J w hs=>Qad (V:=.bool (((decide (1<=o.dot.seq))&&(decide (o.dot.seq<=1048576)))&&(decide (vat o.ctx o.dot.rep.toNat=o.dot.seq-1)))) rfl (Zz hs)
 rintro J1 w10 J2 hJ hs
 replace hJ:J2=upd (mix (sq 31 19++[4]) J1 _) 4 (.bool (((decide (1<=o.dot.seq))&&(decide (o.dot.seq<=1048576)))&&(decide (vat o.ctx o.dot.rep.toNat=o.dot.seq-1)))):=hJ
 subst hJ
 refine Qav ?_
 refine ⟨_,Qaq (V:=.bool (((decide (1<=o.dot.seq))&&(decide (o.dot.seq<=1048576)))&&(decide (vat o.ctx o.dot.rep.toNat=o.dot.seq-1)))) Tryz.results103 rfl,(Zr hs ?_)⟩
 exact congrArg Value.bool (QoB c6 c6rrr c6rr c6r).symm
theorem Qk1 (w:World) (o:Opn) (n:Int) (hO:Qb8 o):Calls Tryz.prog 105 #[.agg (oc o).toArray,.int .i64 n] w (fun e w'=>e = .returned (.bool (Qa7 o n))/\Own w no w' []):=by
 refine Qai (n:=52) Tryz.func105 rfl Tryz.ntmps105 rfl ?_
 have hs:=Own.start w
 have ⟨⟨⟨hr1,hr2⟩,hr3,hr4⟩,_,_,_,⟨hq1,hq2⟩,_,hctx⟩:=hO
 refine Qag (Qab (Qaa (Qa4 (V:=.agg (oc o).toArray) (cs:=oc o) rfl rfl hs fun b1 w2 hs=>(Qaa (Qad (V:=.bool false) rfl (Qae (Qag (Qag (Qbq [some 5,some 6,some 7,some 8,some 9,some 10,some 11,some 12,some 13,some 14,some 15,some 16,some 17,some 18,some 19,some 20,some 21,some 22,some 23,some 24,some 25,some 26,some 27,some 28,some 29,some 30,some 31] [] [0,1,3,7,15,31,63,127,255,511,1023,127,4095,8191,16383,32767,65535,131071,262143,524287,1048575,2097151,4194303,2097151,16777215,33554431,67108863] [pv (I6 n),pv (.bool (decide (n<1))),pv (.bool (decide (n<1))),pg ((decide (n<1)) == false) (I6 n),pg ((decide (n<1)) == false) (.bool (decide (16<n))),pv (.bool ((decide (n<1))||(decide (16<n)))),pv (.bool ((decide (n<1))||(decide (16<n)))),pg (((decide (n<1))||(decide (16<n))) == false) (Pq b1 (0+0)),pg (((decide (n<1))||(decide (16<n))) == false) (Pq b1 (0+0+0)),pg (((decide (n<1))||(decide (16<n))) == false) (.int .u8 o.dot.rep),pg (((decide (n<1))||(decide (16<n))) == false) (I6 o.dot.rep),pg (((decide (n<1))||(decide (16<n))) == false) (I6 n),pg (((decide (n<1))||(decide (16<n))) == false) (.bool (decide (n<=o.dot.rep))),pv (.bool (((decide (n<1))||(decide (16<n)))||(decide (n<=o.dot.rep)))),pv (.bool (((decide (n<1))||(decide (16<n)))||(decide (n<=o.dot.rep)))),pg ((((decide (n<1))||(decide (16<n)))||(decide (n<=o.dot.rep))) == false) (Pq b1 (0+0)),pg ((((decide (n<1))||(decide (16<n)))||(decide (n<=o.dot.rep))) == false) (.agg (dc o.dot).toArray),pg ((((decide (n<1))||(decide (16<n)))||(decide (n<=o.dot.rep))) == false) (.bool (QbJ o.dot)),pg ((((decide (n<1))||(decide (16<n)))||(decide (n<=o.dot.rep))) == false) (.bool (!(QbJ o.dot))),pv (.bool ((((decide (n<1))||(decide (16<n)))||(decide (n<=o.dot.rep)))||(!(QbJ o.dot)))),pv (.bool ((((decide (n<1))||(decide (16<n)))||(decide (n<=o.dot.rep)))||(!(QbJ o.dot)))),pg (((((decide (n<1))||(decide (16<n)))||(decide (n<=o.dot.rep)))||(!(QbJ o.dot))) == false) (Pq b1 (0+7)),pg (((((decide (n<1))||(decide (16<n)))||(decide (n<=o.dot.rep)))||(!(QbJ o.dot))) == false) (.agg (vc o.ctx).toArray),pg (((((decide (n<1))||(decide (16<n)))||(decide (n<=o.dot.rep)))||(!(QbJ o.dot))) == false) (I6 n),pg (((((decide (n<1))||(decide (16<n)))||(decide (n<=o.dot.rep)))||(!(QbJ o.dot))) == false) (.bool (QaQ o.ctx n)),pg (((((decide (n<1))||(decide (16<n)))||(decide (n<=o.dot.rep)))||(!(QbJ o.dot))) == false) (.bool (!(QaQ o.ctx n))),pv (.bool (((((decide (n<1))||(decide (16<n)))||(decide (n<=o.dot.rep)))||(!(QbJ o.dot)))||(!(QaQ o.ctx n))))] (fun _ _=>_) [26] (by kernel_rfl) hs ⟨?_,?_,?_,?_,?_,?_,?_,?_,?_,?_,?_,?_,?_,?_,?_,?_,?_,?_,?_,?_,?_,?_,?_,?_,?_,?_,?_,trivial⟩ ?_)))))))))
 ·exact oa [] fun D J w hs=>Qac (V:=.int .i64 n) rfl (Zz hs)
 ·exact oa [0] fun D J w hs=>Qa2 rfl rfl (Zz hs)
 ·exact oa [1] fun D J w hs=>Qac (V:=.bool (decide (n<1))) rfl (Zz hs)
 ·exact og [2] fun D J w hG hs=>Qac (V:=.int .i64 n) rfl (Zz hs)
 ·exact oy [2,3] [3] fun D J w hG hs=>QbU rfl rfl (Zz hs)
 ·exact oa [2,4] fun D J w hs=>Qb2 (h':=decide (16<n)) rfl rfl rfl (Zz hs)
 ·exact oa [5] fun D J w hs=>Qac (V:=.bool ((decide (n<1))||(decide (16<n)))) rfl (Zz hs)
 ·exact og [6] fun D J w hG hs=>Qaf Qbl rfl (Zz hs)
 ·exact oy [6,7] [7] fun D J w hG hs=>Qaf QbV rfl (Zz hs)
 ·exact oy [6,8] [8] fun D J w hG hs=>QaP (V:=.int .u8 o.dot.rep) Qds hs 0 rfl rfl rfl (Zz hs)
 ·exact oy [6,9] [9] fun D J w hG hs=>Qcg QuN QhH rfl (QbE (by omega) (by omega)) (Zz hs)
 ·exact og [6] fun D J w hG hs=>Qac (V:=.int .i64 n) rfl (Zz hs)
 ·exact oy [6,10,11] [10,11] fun D J w hG hs=>QcR rfl rfl (Zz hs)
 ·exact oa [6,12] fun D J w hs=>Qb2 (h':=decide (n<=o.dot.rep)) rfl rfl rfl (Zz hs)
 ·exact oa [13] fun D J w hs=>Qac (V:=.bool (((decide (n<1))||(decide (16<n)))||(decide (n<=o.dot.rep)))) rfl (Zz hs)
 ·exact og [14] fun D J w hG hs=>Qaf Qbl rfl (Zz hs)
 ·exact oy [14,15] [15] fun D J w hG hs=>QbT (vs:=dc o.dot) QcE hs 0 rfl rfl rfl rfl (Zz hs)
 ·exact oy [14,16] [16] fun D J w hG hs=>Qas (vs:=[.agg (dc o.dot).toArray]) (V:=.bool (QbJ o.dot)) QlB rfl rfl (QiX _ o.dot) hs fun _ hs=>Zz hs
 ·exact oy [14,17] [17] fun D J w hG hs=>Qbx rfl (Zz hs)
 ·exact oa [14,18] fun D J w hs=>Qb2 (h':=!(QbJ o.dot)) rfl rfl rfl (Zz hs)
 ·exact oa [19] fun D J w hs=>Qac (V:=.bool ((((decide (n<1))||(decide (16<n)))||(decide (n<=o.dot.rep)))||(!(QbJ o.dot)))) rfl (Zz hs)
 ·exact og [20] fun D J w hG hs=>Qaf QcD rfl (Zz hs)
 ·exact oy [20,21] [21] fun D J w hG hs=>QbT (vs:=vc o.ctx) Qbu hs 0 rfl rfl rfl rfl (Zz hs)
 ·exact og [20] fun D J w hG hs=>Qac (V:=.int .i64 n) rfl (Zz hs)
 ·exact oy [20,22,23] [22,23] fun D J w hG hs=>Qas (vs:=[.agg (vc o.ctx).toArray,.int .i64 n]) (V:=.bool (QaQ o.ctx n)) Qvs rfl rfl (Qls _ o.ctx n (by first|assumption|exact Qcx)) hs fun _ hs=>Zz hs
 ·exact oy [20,24] [24] fun D J w hG hs=>Qbx rfl (Zz hs)
 ·exact oa [20,25] fun D J w hs=>Qb2 (h':=!(QaQ o.ctx n)) rfl rfl rfl (Zz hs)
 rintro J1 w5 J2 hJ hs
 replace hJ:J2=upd (mix (sq 5 27) J1 _) 31 (.bool (((((decide (n<1))||(decide (16<n)))||(decide (n<=o.dot.rep)))||(!(QbJ o.dot)))||(!(QaQ o.ctx n)))):=hJ
 subst hJ
 refine Qam (t:=((((decide (n<1))||(decide (16<n)))||(decide (n<=o.dot.rep)))||(!(QbJ o.dot)))||(!(QaQ o.ctx n))) rfl (fun c6=>?_) (fun c6=>?_)
 ·
  refine Qag (Qab (Qaa (Qad (V:=.bool false) rfl (Qae (Qav ?_)))))
  refine ⟨_,Qaq (V:=.bool false) Tryz.results105 rfl,(Zr hs ?_)⟩
  exact congrArg Value.bool (QlY c6).symm
 have c6r:=QfW c6
 replace c6:=QfV c6
 have c6rr:=QfW c6
 replace c6:=QfV c6
 have c6rrr:=QfW c6
 replace c6:=QfV c6
 have c6rrrr:=QfW c6
 replace c6:=QfV c6
 replace c6:=QQ2 c6
 replace c6rrrr:=QQ2 c6rrrr
 replace c6rrr:=QQ2 c6rrr
 replace c6rr:=Qbr c6rr
 replace c6r:=Qbr c6r
 refine Qap (Qag ?_)
 have hnn:=Qhb c6r
 have hdd:=QaM c6rr
 refine QaH HM [some 32,some 33,some 34,some 35,some 36,some 37,some 38,some 39,some 40,some 41,some 42,some 43,some 44,some 45,some 46,some 47,some 48,some 49,some 50,some 51,some 4] [] [0,1,3,0,15,31,0,64,192,448,1023,2047,4095,8191,16383,32767,65535,131071,262143,524287,1048575] [pv (Pq b1 (0+0)),pv (Pq b1 (0+0+0)),pv (.int .u8 o.dot.rep),pv (Pq b1 (0+7)),pv (.pointer (some ⟨b1,0+7+o.dot.rep.toNat,none⟩)),pv (.int .u32 (vat o.ctx o.dot.rep.toNat)),pv (Pq b1 (0+0)),pv (Pq b1 (0+0+1)),pv (.int .u32 o.dot.seq),pv (.int .u32 (o.dot.seq-1)),pv (.bool (decide (vat o.ctx o.dot.rep.toNat=o.dot.seq-1))),pv (.bool (decide (vat o.ctx o.dot.rep.toNat=o.dot.seq-1))),pg ((decide (vat o.ctx o.dot.rep.toNat=o.dot.seq-1)) == true) (Pq b1 (0+6)),pg ((decide (vat o.ctx o.dot.rep.toNat=o.dot.seq-1)) == true) (.int .u32 o.tick),pg ((decide (vat o.ctx o.dot.rep.toNat=o.dot.seq-1)) == true) (.bool (decide (o.tick<=1073741824))),pv (.bool ((decide (vat o.ctx o.dot.rep.toNat=o.dot.seq-1))&&(decide (o.tick<=1073741824)))),pv (.bool ((decide (vat o.ctx o.dot.rep.toNat=o.dot.seq-1))&&(decide (o.tick<=1073741824)))),pg (((decide (vat o.ctx o.dot.rep.toNat=o.dot.seq-1))&&(decide (o.tick<=1073741824))) == true) (.agg (oc o).toArray),pg (((decide (vat o.ctx o.dot.rep.toNat=o.dot.seq-1))&&(decide (o.tick<=1073741824))) == true) (.bool (Qb4 o)),pv (.bool (((decide (vat o.ctx o.dot.rep.toNat=o.dot.seq-1))&&(decide (o.tick<=1073741824)))&&(Qb4 o))),pv (.bool (((decide (vat o.ctx o.dot.rep.toNat=o.dot.seq-1))&&(decide (o.tick<=1073741824)))&&(Qb4 o)))] (fun _ _=>_) [20] (by kernel_rfl) hs ⟨?_,?_,?_,?_,?_,?_,?_,?_,?_,?_,?_,?_,?_,?_,?_,?_,?_,?_,?_,?_,?_,trivial⟩ ?_
 ·exact oa [] fun D J w hs=>Qaf Qbl rfl (Zz hs)
 ·exact oa [0] fun D J w hs=>Qaf QbV rfl (Zz hs)
 ·exact oa [1] fun D J w hs=>QaP (V:=.int .u8 o.dot.rep) Qds hs 0 rfl rfl rfl (Zz hs)
 ·exact oa [] fun D J w hs=>Qaf QcD rfl (Zz hs)
 ·exact oa [2,3] fun D J w hs=>Qbo QdH QaN.1 rfl rfl (by omega) (by omega) (Zz hs)
 ·exact oa [4] fun D J w hs=>QaP (V:=.int .u32 (vat o.ctx o.dot.rep.toNat)) QaN hs 0 rfl rfl (Qpw (by omega) (by omega)) (Zz hs)
 ·exact oa [] fun D J w hs=>Qaf Qbl rfl (Zz hs)
 ·exact oa [6] fun D J w hs=>Qaf QbX rfl (Zz hs)
 ·exact oa [7] fun D J w hs=>QaP (V:=.int .u32 o.dot.seq) QaN hs 0 rfl rfl rfl (Zz hs)
 ·exact oa [8] fun D J w hs=>Qa3 (a:=o.dot.seq) (b:=1) (c:=o.dot.seq-1) rfl rfl (Qgt (by omega) (by omega)) (Zz hs)
 ·exact oa [5,9] fun D J w hs=>QaW rfl rfl (Zz hs)
 ·exact oa [10] fun D J w hs=>Qac (V:=.bool (decide (vat o.ctx o.dot.rep.toNat=o.dot.seq-1))) rfl (Zz hs)
 ·exact og [11] fun D J w hG hs=>Qaf Qhn rfl (Zz hs)
 ·exact oy [11,12] [12] fun D J w hG hs=>QaP (V:=.int .u32 o.tick) QaN hs 0 rfl rfl rfl (Zz hs)
 ·exact oy [11,13] [13] fun D J w hG hs=>QdS rfl rfl (Zz hs)
 ·exact oa [11,14] fun D J w hs=>Qbg (h':=decide (o.tick<=1073741824)) rfl rfl rfl (Zz hs)
 ·exact oa [15] fun D J w hs=>Qac (V:=.bool ((decide (vat o.ctx o.dot.rep.toNat=o.dot.seq-1))&&(decide (o.tick<=1073741824)))) rfl (Zz hs)
 ·exact og [16] fun D J w hG hs=>QaO (cs:=oc o) QbB hs 0 rfl rfl rfl (Zz hs)
 ·exact oy [16,17] [17] fun D J w hG hs=>Qas (vs:=[.agg (oc o).toArray]) (V:=.bool (Qb4 o)) Qr1 rfl rfl (Qox _ o (by assumption)) hs fun _ hs=>Zz hs
 ·exact oa [16,18] fun D J w hs=>Qbg (h':=Qb4 o) rfl rfl rfl (Zz hs)
 ·exact oa [19] fun D J w hs=>Qad (V:=.bool (((decide (vat o.ctx o.dot.rep.toNat=o.dot.seq-1))&&(decide (o.tick<=1073741824)))&&(Qb4 o))) rfl (Zz hs)
 rintro J1 w8 J2 hJ hs
 replace hJ:J2=upd (mix (sq 32 20++[4]) J1 _) 4 (.bool (((decide (vat o.ctx o.dot.rep.toNat=o.dot.seq-1))&&(decide (o.tick<=1073741824)))&&(Qb4 o))):=hJ
 subst hJ
 refine Qav ?_
 refine ⟨_,Qaq (V:=.bool (((decide (vat o.ctx o.dot.rep.toNat=o.dot.seq-1))&&(decide (o.tick<=1073741824)))&&(Qb4 o))) Tryz.results105 rfl,(Zr hs ?_)⟩
 exact congrArg Value.bool (QlQ c6rrr c6rr c6r).symm
theorem QlM (w:World) (known:Vec) (o:Opn) (hO:Qb8 o):Calls Tryz.prog 115 #[.agg (vc known).toArray,.agg (oc o).toArray] w (fun e w'=>e = .returned (.int .i64 (QbD known o))/\Own w no w' []):=by
 refine Qai (n:=20) Tryz.func115 rfl Tryz.ntmps115 rfl ?_
 have hs:=Own.start w
 have hdo:=hO.1
 refine Qag (Qab (Qaa (Qa4 (V:=.agg (vc known).toArray) (cs:=vc known) rfl rfl hs fun b1 w2 hs=>(Qaa (Qa4 (V:=.agg (oc o).toArray) (cs:=oc o) rfl rfl hs fun b3 w4 hs=>(Qaa (Qad (V:=I6 0) rfl (Qae (Qag (Qan (Qag (Qab (Qaa (QaO (cs:=oc o) QbB hs 1 rfl rfl rfl (Qaa (Qas (vs:=[.agg (oc o).toArray,I6 16]) (V:=.bool (Qa7 o 16)) Qps rfl rfl ?hc hs fun w5 hs=>?_))))))))))))))))
 case hc=>exact (Qig _ o 16 (by assumption))
 refine Qaa (Qbx rfl (Qaa (Qad (V:=.bool (!(Qa7 o 16))) rfl (Qae (Qam (t:=!(Qa7 o 16)) rfl (fun c6=>?_) (fun c6=>?_))))))
 ·
  replace c6:=Qby c6
  refine Qag (Qab (Qaa (Qad (V:=I6 2) rfl (Qae (Qav ?_)))))
  refine ⟨_,Qaq (V:=I6 2) Tryz.results115 rfl,(Zr hs (congrArg (Value.int IntKind.i64) ?_))⟩
  unfold QbD
  rw [← Qb9]
  simp_all
 replace c6:=Qbr c6
 refine Qag (Qab (Qaa (QaO (cs:=vc known) Qbu hs 0 rfl rfl rfl (Qaa (Qaf Qbl rfl (Qaa (QbT (vs:=dc o.dot) QcE hs 1 rfl rfl rfl rfl (Qaa (Qas (vs:=[.agg (vc known).toArray,.agg (dc o.dot).toArray]) (V:=.bool (Qbv known o.dot)) QmZ rfl rfl ?hc hs fun w7 hs=>?_)))))))))
 case hc=>exact (Qf0 _ known o.dot (by first|assumption|exact QcF (by omega) (by omega) (by omega) (by omega)))
 refine Qaa (Qad (V:=.bool (Qbv known o.dot)) rfl (Qae (Qam (t:=Qbv known o.dot) rfl (fun c8=>?_) (fun c8=>?_))))
 ·
  refine Qag (Qab (Qaa (Qad (V:=I6 8) rfl (Qae (Qav ?_)))))
  refine ⟨_,Qaq (V:=I6 8) Tryz.results115 rfl,(Zr hs (congrArg (Value.int IntKind.i64) ?_))⟩
  unfold QbD
  rw [← Qb9]
  simp_all
 refine Qag (Qab (Qaa (Qaf QcD rfl (Qaa (QbT (vs:=vc o.ctx) Qbu hs 1 rfl rfl rfl rfl (Qaa (QaO (cs:=vc known) Qbu hs 0 rfl rfl rfl (Qaa (Qas (vs:=[.agg (vc o.ctx).toArray,.agg (vc known).toArray]) (V:=.bool (vle o.ctx known)) Qot rfl rfl ?hc hs fun w9 hs=>?_)))))))))
 case hc=>exact (QeD _ o.ctx known)
 refine Qaa (Qbx rfl (Qaa (Qad (V:=.bool (!(vle o.ctx known))) rfl (Qae (Qam (t:=!(vle o.ctx known)) rfl (fun c10=>?_) (fun c10=>?_))))))
 ·
  replace c10:=Qby c10
  refine Qag (Qab (Qaa (Qad (V:=I6 9) rfl (Qae (Qav ?_)))))
  refine ⟨_,Qaq (V:=I6 9) Tryz.results115 rfl,(Zr hs (congrArg (Value.int IntKind.i64) ?_))⟩
  unfold QbD
  rw [← Qb9]
  simp_all
 replace c10:=Qbr c10
 refine Qap (Qag (Qab (Qaa (Qad (V:=I6 0) rfl (Qae (Qav ?_))))))
 refine ⟨_,Qaq (V:=I6 0) Tryz.results115 rfl,(Zr hs (congrArg (Value.int IntKind.i64) ?_))⟩
 unfold QbD
 rw [← Qb9]
 simp_all
theorem QmA (w:World) (known:Vec) (o:Opn) (hO:Qb8 o):Calls Tryz.prog 111 #[.agg (vc known).toArray,.agg (oc o).toArray] w (fun e w'=>e = .returned (.int .i64 (QbD known o))/\Own w no w' []):=by
 refine Qai (n:=20) Tryz.func111 rfl Tryz.ntmps111 rfl ?_
 have hs:=Own.start w
 have hdo:=hO.1
 refine Qag (Qab (Qaa (Qa4 (V:=.agg (vc known).toArray) (cs:=vc known) rfl rfl hs fun b1 w2 hs=>(Qaa (Qa4 (V:=.agg (oc o).toArray) (cs:=oc o) rfl rfl hs fun b3 w4 hs=>(Qaa (Qad (V:=I6 0) rfl (Qae (Qag (Qan (Qag (Qab (Qaa (QaO (cs:=oc o) QbB hs 1 rfl rfl rfl (Qaa (Qas (vs:=[.agg (oc o).toArray,I6 16]) (V:=.bool (Qa7 o 16)) Qta rfl rfl ?hc hs fun w5 hs=>?_))))))))))))))))
 case hc=>exact (Qk1 _ o 16 (by assumption))
 refine Qaa (Qbx rfl (Qaa (Qad (V:=.bool (!(Qa7 o 16))) rfl (Qae (Qam (t:=!(Qa7 o 16)) rfl (fun c6=>?_) (fun c6=>?_))))))
 ·
  replace c6:=Qby c6
  refine Qag (Qab (Qaa (Qad (V:=I6 2) rfl (Qae (Qav ?_)))))
  refine ⟨_,Qaq (V:=I6 2) Tryz.results111 rfl,(Zr hs (congrArg (Value.int IntKind.i64) ?_))⟩
  unfold QbD
  rw [← Qb9]
  simp_all
 replace c6:=Qbr c6
 refine Qag (Qab (Qaa (QaO (cs:=vc known) Qbu hs 0 rfl rfl rfl (Qaa (Qaf Qbl rfl (Qaa (QbT (vs:=dc o.dot) QcE hs 1 rfl rfl rfl rfl (Qaa (Qas (vs:=[.agg (vc known).toArray,.agg (dc o.dot).toArray]) (V:=.bool (Qbv known o.dot)) QlT rfl rfl ?hc hs fun w7 hs=>?_)))))))))
 case hc=>exact (QfZ _ known o.dot (by first|assumption|exact QcF (by omega) (by omega) (by omega) (by omega)))
 refine Qaa (Qad (V:=.bool (Qbv known o.dot)) rfl (Qae (Qam (t:=Qbv known o.dot) rfl (fun c8=>?_) (fun c8=>?_))))
 ·
  refine Qag (Qab (Qaa (Qad (V:=I6 8) rfl (Qae (Qav ?_)))))
  refine ⟨_,Qaq (V:=I6 8) Tryz.results111 rfl,(Zr hs (congrArg (Value.int IntKind.i64) ?_))⟩
  unfold QbD
  rw [← Qb9]
  simp_all
 refine Qag (Qab (Qaa (Qaf QcD rfl (Qaa (QbT (vs:=vc o.ctx) Qbu hs 1 rfl rfl rfl rfl (Qaa (QaO (cs:=vc known) Qbu hs 0 rfl rfl rfl (Qaa (Qas (vs:=[.agg (vc o.ctx).toArray,.agg (vc known).toArray]) (V:=.bool (vle o.ctx known)) QsO rfl rfl ?hc hs fun w9 hs=>?_)))))))))
 case hc=>exact (QhN _ o.ctx known)
 refine Qaa (Qbx rfl (Qaa (Qad (V:=.bool (!(vle o.ctx known))) rfl (Qae (Qam (t:=!(vle o.ctx known)) rfl (fun c10=>?_) (fun c10=>?_))))))
 ·
  replace c10:=Qby c10
  refine Qag (Qab (Qaa (Qad (V:=I6 9) rfl (Qae (Qav ?_)))))
  refine ⟨_,Qaq (V:=I6 9) Tryz.results111 rfl,(Zr hs (congrArg (Value.int IntKind.i64) ?_))⟩
  unfold QbD
  rw [← Qb9]
  simp_all
 replace c10:=Qbr c10
 refine Qap (Qag (Qab (Qaa (Qad (V:=I6 0) rfl (Qae (Qav ?_))))))
 refine ⟨_,Qaq (V:=I6 0) Tryz.results111 rfl,(Zr hs (congrArg (Value.int IntKind.i64) ?_))⟩
 unfold QbD
 rw [← Qb9]
 simp_all
end Tt
end Go.Proofs
namespace Go.Proofs
open Go Go.Vx Go.RowKit
namespace Tt
theorem Qmn (w:World) (p:Pst) (a1:Option Addr) (c1:Nat) (a2:Option Addr) (c2:Nat) (a3:Option Addr) (c3:Nat) (hok:QeV p) (hle:p.base.ents.length<=400) (hlt:p.base.ticks.length<=400) (hlo:p.ops.length<=400) (hr1:Rd w (.slice a1 p.base.ents.length c1) 7 (p.base.ents.map cec)) (hr2:Rd w (.slice a2 p.base.ticks.length c2) 2 (p.base.ticks.map lsc)) (hr3:Rd w (.slice a3 p.ops.length c3) 23 (p.ops.map oc)):Calls Tryz.prog 59 #[.agg (((vc p.base.known)++[(.slice a1 p.base.ents.length c1:Value),(.slice a2 p.base.ticks.length c2:Value) ])++[(.slice a3 p.ops.length c3:Value) ]++(vc p.known)).toArray] w (fun e w'=>e = .returned (.bool (Qcu p))/\Own w no w' []):=by
 refine Qai (n:=45) Tryz.func59 rfl Tryz.ntmps59 rfl ?_
 have hs:=Own.start w
 have ⟨hokb,hoko,hokk⟩:=hok
 have hn3:=hr3.sml
 refine Qag (Qab (Qaa (Qa4 (V:=.agg (((vc p.base.known)++[(.slice a1 p.base.ents.length c1:Value),(.slice a2 p.base.ticks.length c2:Value) ])++[(.slice a3 p.ops.length c3:Value) ]++(vc p.known)).toArray) (cs:=((vc p.base.known)++[(.slice a1 p.base.ents.length c1:Value),(.slice a2 p.base.ticks.length c2:Value) ])++[(.slice a3 p.ops.length c3:Value) ]++(vc p.known)) rfl rfl hs fun b1 w2 hs=>(Qaa (Qad (V:=.bool false) rfl (Qae (Qag (Qab (Qaa (Qgh rfl hs dv uv fun mr3 w4 hs=>(Qaa (Qad (V:=.map (some mr3)) rfl (Qae (Qag (Qag (Qab (Qaa (Qaf Qhk rfl (Qaa (QaP (V:=.slice a3 p.ops.length c3) QiM hs 0 rfl rfl rfl (Qaa (Qa0 (n:=p.ops.length) Qco (Rd.own' hr3 hs) (by simp) rfl (Qaa (Qac (V:=I6 0) rfl (Qae (Qan (QaC (fun J μ J' w'=>∃ (Jo:Env) (k:Nat) (sm:List (Dot × Unit)),J'=upd (mix ([2,5,6,7]++sq 12 30) Jo J) 12 (I6 (k:Int))/\(k<=p.ops.length)/\(∀ j:Nat,j<k->Qku p.base.known p.ops j=false)/\(sm=Qiz (p.ops.take k))/\μ=p.ops.length-k/\Own w no w' [blk b1 (((vc p.base.known)++[(.slice a1 p.base.ents.length c1:Value),(.slice a2 p.base.ticks.length c2:Value) ])++[(.slice a3 p.ops.length c3:Value) ]++(vc p.known)) 43,QgC mr3 dv uv sm]) ?_ ?_)))))))))))))))))))))))))))
 ·exact ⟨_,_,0,[],Qak (Qao (ds:=([2,5,6,7]++sq 12 30)) (Agr.refl _ _)) rfl,(by omega),(fun j hj=>absurd hj (Nat.not_lt_zero j)),rfl,rfl,hs⟩
 rintro μ J' w5 ⟨Jo,k,sm,rfl,hk,hbo,hsm,rfl,hs⟩
 refine Qag (Qab (Qaa (Qa2 rfl rfl (Qae (Qag (Qam (t:=decide ((k:Int)<((p.ops.length:Nat):Int))) rfl (fun c6=>?_) (fun c6=>?_)))))))
 ·
  replace c6:=QQ1 c6
  refine Qap (Qag (Qan (Qag (Qab (Qaa (Qaw Qco QbB.1 (Rd.own' hr3 hs) rfl rfl (by omega) (by rw [QQ6];omega) (Qaa (Qbc (j:=0) (vs:=oc (gd p.ops k)) k QbB (Rd.own' hr3 hs) (Qa9 (by omega)) rfl rfl rfl (by omega) (Qaa (QaL (cs:=oc (⟨(⟨0,0⟩:Dot),0,0,0,0,0,vzero⟩:Opn)) Qin rfl hs fun b7 w8 hs=>(Qaa (QcG (V:=.agg (oc (gd p.ops k)).toArray) (vs:=oc (gd p.ops k)) (cs':=oc (gd p.ops k)) QbB.1 hs 2 rfl rfl rfl rfl rfl (QQ8 rfl) (Qc1 _) (Qaz rfl) fun w9 hs=>?_))))))))))))
  replace hs:Own w no w9 [blk b1 (((vc p.base.known)++[(.slice a1 p.base.ents.length c1:Value),(.slice a2 p.base.ticks.length c2:Value) ])++[(.slice a3 p.ops.length c3:Value) ]++(vc p.known)) 43,QgC mr3 dv uv sm,blk b7 (oc (gd p.ops k)) 98]:=hs
  refine Qae (Qag ?_)
  have hOk:=hoko _ (Qbz (l:=p.ops) (i:=k) (by omega))
  have hdk:=hOk.1
  refine Qab (Qaa (Qac (V:=.map (some mr3)) rfl (Qaa (Qaf Qbl rfl (Qaa (QbT (vs:=dc ((gd p.ops k).dot)) QcE hs 2 rfl rfl rfl rfl (Qaa (Qgi (k:=(gd p.ops k).dot) Qjz Qov Qjq (hs.mapf 1 rfl) rfl rfl (Qaa (Qac (V:=.tuple #[.agg #[],.bool ((mget ((gd p.ops k).dot) sm).isSome)]) rfl (Qaa (Qax (V:=.agg #[]) rfl rfl (Qaa (Qax (V:=.bool ((mget ((gd p.ops k).dot) sm).isSome)) rfl rfl (Qaa (QaL (cs:=[]) Qjq rfl hs fun b10 w11 hs=>(Qaa (QcG (V:=.agg #[]) (vs:=[]) (cs':=[]) QpV.1 hs 3 rfl rfl rfl rfl rfl (QQ8 rfl) Qa1 (Qaz rfl) fun w12 hs=>(Qaa (Qad (V:=.bool ((mget ((gd p.ops k).dot) sm).isSome)) rfl (Qae (Qag (Qag (Qbq [some 23,some 24,some 25,some 26,some 27,some 28,some 29,some 30,some 31,some 32,some 33,some 34,some 35,some 36] [] [0,1,3,7,15,31,63,127,255,511,127,1151,4095,8191] [pv (.bool ((mget ((gd p.ops k).dot) sm).isSome)),pv (.bool ((mget ((gd p.ops k).dot) sm).isSome)),pg (((mget ((gd p.ops k).dot) sm).isSome) == false) (.agg (oc (gd p.ops k)).toArray),pg (((mget ((gd p.ops k).dot) sm).isSome) == false) (.bool (Qa7 (gd p.ops k) 16)),pg (((mget ((gd p.ops k).dot) sm).isSome) == false) (.bool (!(Qa7 (gd p.ops k) 16))),pv (.bool (((mget ((gd p.ops k).dot) sm).isSome)||(!(Qa7 (gd p.ops k) 16)))),pv (.bool (((mget ((gd p.ops k).dot) sm).isSome)||(!(Qa7 (gd p.ops k) 16)))),pg ((((mget ((gd p.ops k).dot) sm).isSome)||(!(Qa7 (gd p.ops k) 16))) == false) (Pq b1 (0+0)),pg ((((mget ((gd p.ops k).dot) sm).isSome)||(!(Qa7 (gd p.ops k) 16))) == false) (Pq b1 (0+0+0)),pg ((((mget ((gd p.ops k).dot) sm).isSome)||(!(Qa7 (gd p.ops k) 16))) == false) (.agg (vc p.base.known).toArray),pg ((((mget ((gd p.ops k).dot) sm).isSome)||(!(Qa7 (gd p.ops k) 16))) == false) (Pq b7 (0+0)),pg ((((mget ((gd p.ops k).dot) sm).isSome)||(!(Qa7 (gd p.ops k) 16))) == false) (.agg (dc ((gd p.ops k).dot)).toArray),pg ((((mget ((gd p.ops k).dot) sm).isSome)||(!(Qa7 (gd p.ops k) 16))) == false) (.bool (Qbv p.base.known ((gd p.ops k).dot))),pv (.bool ((((mget ((gd p.ops k).dot) sm).isSome)||(!(Qa7 (gd p.ops k) 16)))||(Qbv p.base.known ((gd p.ops k).dot))))] (fun _ _=>_) [13] (by kernel_rfl) hs ⟨?_,?_,?_,?_,?_,?_,?_,?_,?_,?_,?_,?_,?_,?_,trivial⟩ ?_))))))))))))))))))))))))
  ·exact oa [] fun D J w hs=>Qac (V:=.bool ((mget ((gd p.ops k).dot) sm).isSome)) rfl (Zz hs)
  ·exact oa [0] fun D J w hs=>Qac (V:=.bool ((mget ((gd p.ops k).dot) sm).isSome)) rfl (Zz hs)
  ·exact og [1] fun D J w hG hs=>QaO (cs:=oc (gd p.ops k)) QbB hs 2 rfl rfl rfl (Zz hs)
  ·exact oy [1,2] [2] fun D J w hG hs=>Qas (vs:=[.agg (oc (gd p.ops k)).toArray,.int .i64 16]) (V:=.bool (Qa7 (gd p.ops k) 16)) Qps rfl rfl (Qig _ (gd p.ops k) 16 (by assumption)) hs fun _ hs=>Zz hs
  ·exact oy [1,3] [3] fun D J w hG hs=>Qbx rfl (Zz hs)
  ·exact oa [1,4] fun D J w hs=>Qb2 (h':=!(Qa7 (gd p.ops k) 16)) rfl rfl rfl (Zz hs)
  ·exact oa [5] fun D J w hs=>Qac (V:=.bool (((mget ((gd p.ops k).dot) sm).isSome)||(!(Qa7 (gd p.ops k) 16)))) rfl (Zz hs)
  ·exact og [6] fun D J w hG hs=>Qaf Qff rfl (Zz hs)
  ·exact oy [6,7] [7] fun D J w hG hs=>Qaf Qel rfl (Zz hs)
  ·exact oy [6,8] [8] fun D J w hG hs=>QbT (vs:=vc p.base.known) Qbu hs 0 rfl rfl rfl rfl (Zz hs)
  ·exact og [6] fun D J w hG hs=>Qaf Qbl rfl (Zz hs)
  ·exact oy [6,10] [10] fun D J w hG hs=>QbT (vs:=dc ((gd p.ops k).dot)) QcE hs 2 rfl rfl rfl rfl (Zz hs)
  ·exact oy [6,9,11] [9,11] fun D J w hG hs=>Qas (vs:=[.agg (vc p.base.known).toArray,.agg (dc ((gd p.ops k).dot)).toArray]) (V:=.bool (Qbv p.base.known ((gd p.ops k).dot))) QmZ rfl rfl (Qf0 _ p.base.known ((gd p.ops k).dot) (by first|assumption|exact QcF (by omega) (by omega) (by omega) (by omega))) hs fun _ hs=>Zz hs
  ·exact oa [6,12] fun D J w hs=>Qb2 (h':=Qbv p.base.known ((gd p.ops k).dot)) rfl rfl rfl (Zz hs)
  rintro J1 w15 J2 hJ hs
  replace hJ:J2=upd (mix (sq 23 14) J1 _) 36 (.bool ((((mget ((gd p.ops k).dot) sm).isSome)||(!(Qa7 (gd p.ops k) 16)))||(Qbv p.base.known ((gd p.ops k).dot)))):=hJ
  subst hJ
  refine Qam (t:=(((mget ((gd p.ops k).dot) sm).isSome)||(!(Qa7 (gd p.ops k) 16)))||(Qbv p.base.known ((gd p.ops k).dot))) rfl (fun c16=>?_) (fun c16=>?_)
  ·
   refine Qag (Qab (Qaa (Qad (V:=.bool false) rfl (Qae (Qav ?_)))))
   refine ⟨_,Qaq (V:=.bool false) Tryz.results59 rfl,(Zr hs (congrArg Value.bool (QgV (i:=k) (by omega) ?_).symm))⟩
   unfold Qku
   rw [← Qic,← hsm]
   have hq:=c16
   revert hq
   cases Qa7 (gd p.ops k) 16<;>cases Qbv p.base.known (gd p.ops k).dot<;>cases (mget (gd p.ops k).dot sm).isSome<;>simp
  have c16r:=QfW c16
  replace c16:=QfV c16
  have c16rr:=QfW c16
  replace c16:=QfV c16
  replace c16rr:=Qbr c16rr
  refine Qap (Qab (Qaa (Qac (V:=.map (some mr3)) rfl (Qaa (Qaf Qbl rfl (Qaa (QbT (vs:=dc ((gd p.ops k).dot)) QcE hs 2 rfl rfl rfl rfl (Qaa (QbI (vs:=[]) (cs:=[]) Qp3 (rfl) rfl (Qaa (Qfz (k:=(gd p.ops k).dot) (v:=()) Qjz Qov hs 1 rfl rfl rfl rfl fun w17 hs=>(Qae (Qab (Qaa (QaD (a:=(k:Int)) (b:=1) (c:=((k+1:Nat):Int)) rfl rfl (Qaj (by omega) (by omega)) (Qaa (Qac (V:=I6 ((k+1:Nat):Int)) rfl (Qae ?_))))))))))))))))))
  have hbk:Qku p.base.known p.ops k=false:=by
   unfold Qku
   rw [c16rr,c16r,← Qic,← hsm,c16];rfl
  refine ⟨_,?_,_,k+1,mput ((gd p.ops k).dot) () sm,Qak (Qao (ds:=([2,5,6,7]++sq 12 30)) (by repeat (first|exact Agr.refl _ _|refine Agr.upd ?_ rfl|refine Agr.mix ?_ rfl))) rfl,(by omega),(Qdg hbo hbk),(by rw [QkC (by omega),← hsm]),rfl,hs.take 2⟩
  omega
 replace c6:=QQ2 c6
 refine QaJ (Qag (Qab (Qaa (Qaf Qff rfl (Qaa (QbT (vs:=(vc p.base.known)++[(.slice a1 p.base.ents.length c1:Value),(.slice a2 p.base.ticks.length c2:Value) ]) QbS hs 0 rfl rfl rfl rfl (Qaa (Qas (vs:=[.agg ((vc p.base.known)++[(.slice a1 p.base.ents.length c1:Value),(.slice a2 p.base.ticks.length c2:Value) ]).toArray]) (V:=.bool (Qau p.base)) Qoo rfl rfl ?hc hs fun w18 hs=>?_))))))))
 case hc=>exact (QeK _ p.base a1 c1 a2 c2 hokb (by omega) (by omega) (Rd.own' hr1 hs) (Rd.own' hr2 hs))
 refine Qaa (Qad (V:=.bool (Qau p.base)) rfl (Qae (Qav ?_)))
 refine ⟨_,Qaq (V:=.bool (Qau p.base)) Tryz.results59 rfl,(Zr hs ?_)⟩
 exact congrArg Value.bool (Qio fun j hj=>hbo j (by omega)).symm
theorem Qk9 (w:World) (p:Pst) (a1:Option Addr) (c1:Nat) (a2:Option Addr) (c2:Nat) (a3:Option Addr) (c3:Nat) (cut:Vec) (hcut:QbR cut) (hok:QeV p) (hle:p.base.ents.length<=400) (hlt:p.base.ticks.length<=400) (hlo:p.ops.length<=400) (hr1:Rd w (.slice a1 p.base.ents.length c1) 7 (p.base.ents.map cec)) (hr2:Rd w (.slice a2 p.base.ticks.length c2) 2 (p.base.ticks.map lsc)) (hr3:Rd w (.slice a3 p.ops.length c3) 23 (p.ops.map oc)):Calls Tryz.prog 17 #[.agg (((vc p.base.known)++[(.slice a1 p.base.ents.length c1:Value),(.slice a2 p.base.ticks.length c2:Value) ])++[(.slice a3 p.ops.length c3:Value) ]++(vc p.known)).toArray,.agg (vc cut).toArray] w (fun e w'=>e = .returned (.int .i64 (Qbp p cut))/\Own w no w' []):=by
 refine Qai (n:=26) Tryz.func17 rfl Tryz.ntmps17 rfl ?_
 have hs:=Own.start w
 have ⟨hokb,hoko,hokk⟩:=hok
 refine Qag (Qab (Qaa (Qa4 (V:=.agg (((vc p.base.known)++[(.slice a1 p.base.ents.length c1:Value),(.slice a2 p.base.ticks.length c2:Value) ])++[(.slice a3 p.ops.length c3:Value) ]++(vc p.known)).toArray) (cs:=((vc p.base.known)++[(.slice a1 p.base.ents.length c1:Value),(.slice a2 p.base.ticks.length c2:Value) ])++[(.slice a3 p.ops.length c3:Value) ]++(vc p.known)) rfl rfl hs fun b1 w2 hs=>(Qaa (Qa4 (V:=.agg (vc cut).toArray) (cs:=vc cut) rfl rfl hs fun b3 w4 hs=>(Qaa (Qad (V:=I6 0) rfl (Qae (Qag (Qan (Qag (Qab (Qaa (QaO (cs:=((vc p.base.known)++[(.slice a1 p.base.ents.length c1:Value),(.slice a2 p.base.ticks.length c2:Value) ])++[(.slice a3 p.ops.length c3:Value) ]++(vc p.known)) QcV hs 0 rfl rfl rfl (Qaa (Qas (vs:=[.agg (((vc p.base.known)++[(.slice a1 p.base.ents.length c1:Value),(.slice a2 p.base.ticks.length c2:Value) ])++[(.slice a3 p.ops.length c3:Value) ]++(vc p.known)).toArray]) (V:=.bool (Qcu p)) Qvc rfl rfl ?hc hs fun w5 hs=>?_))))))))))))))))
 case hc=>exact (Qmn _ p a1 c1 a2 c2 a3 c3 hok hle hlt hlo (Rd.own' hr1 hs) (Rd.own' hr2 hs) (Rd.own' hr3 hs))
 refine Qaa (Qbx rfl (Qaa (Qad (V:=.bool (!(Qcu p))) rfl (Qae (Qam (t:=!(Qcu p)) rfl (fun c6=>?_) (fun c6=>?_))))))
 ·
  replace c6:=Qby c6
  refine Qag (Qab (Qaa (Qad (V:=I6 2) rfl (Qae (Qav ?_)))))
  refine ⟨_,Qaq (V:=I6 2) Tryz.results17 rfl,(Zr hs (congrArg (Value.int .i64) ?_))⟩
  unfold Qbp
  rw [c6];rfl
 replace c6:=Qbr c6
 refine Qag (Qab (Qaa (QaO (cs:=vc cut) Qbu hs 1 rfl rfl rfl (Qaa (Qas (vs:=[.agg (vc cut).toArray,I6 16]) (V:=.bool (QaQ cut 16)) Qqu rfl rfl ?hc hs fun w7 hs=>?_)))))
 case hc=>exact (Qgj _ cut 16 (by first|assumption|exact Qcx))
 refine Qaa (Qbx rfl (Qaa (Qad (V:=.bool (!(QaQ cut 16))) rfl (Qae (Qam (t:=!(QaQ cut 16)) rfl (fun c8=>?_) (fun c8=>?_))))))
 ·
  replace c8:=Qby c8
  refine Qag (Qab (Qaa (Qad (V:=I6 13) rfl (Qae (Qav ?_)))))
  refine ⟨_,Qaq (V:=I6 13) Tryz.results17 rfl,(Zr hs (congrArg (Value.int .i64) ?_))⟩
  unfold Qbp
  rw [c6,c8];rfl
 replace c8:=Qbr c8
 refine Qag (Qab (Qaa (QaO (cs:=vc cut) Qbu hs 1 rfl rfl rfl (Qaa (Qaf QiJ rfl (Qaa (QbT (vs:=vc p.known) Qbu hs 0 rfl rfl rfl rfl (Qaa (Qas (vs:=[.agg (vc cut).toArray,.agg (vc p.known).toArray]) (V:=.bool (vle cut p.known)) Qot rfl rfl ?hc hs fun w9 hs=>?_)))))))))
 case hc=>exact (QeD _ cut p.known)
 refine Qaa (Qbx rfl (Qaa (Qad (V:=.bool (!(vle cut p.known))) rfl (Qae (Qam (t:=!(vle cut p.known)) rfl (fun c10=>?_) (fun c10=>?_))))))
 ·
  replace c10:=Qby c10
  refine Qag (Qab (Qaa (Qad (V:=I6 11) rfl (Qae (Qav ?_)))))
  refine ⟨_,Qaq (V:=I6 11) Tryz.results17 rfl,(Zr hs (congrArg (Value.int .i64) ?_))⟩
  unfold Qbp
  rw [c6,c8,c10];rfl
 replace c10:=Qbr c10
 refine Qag (Qab (Qaa (Qaf Qff rfl (Qaa (Qaf Qel rfl (Qaa (QbT (vs:=vc p.base.known) Qbu hs 0 rfl rfl rfl rfl (Qaa (QaO (cs:=vc cut) Qbu hs 1 rfl rfl rfl (Qaa (Qas (vs:=[.agg (vc p.base.known).toArray,.agg (vc cut).toArray]) (V:=.bool (vle p.base.known cut)) Qot rfl rfl ?hc hs fun w11 hs=>?_)))))))))))
 case hc=>exact (QeD _ p.base.known cut)
 refine Qaa (Qbx rfl (Qaa (Qad (V:=.bool (!(vle p.base.known cut))) rfl (Qae (Qam (t:=!(vle p.base.known cut)) rfl (fun c12=>?_) (fun c12=>?_))))))
 ·
  replace c12:=Qby c12
  refine Qag (Qab (Qaa (Qad (V:=I6 12) rfl (Qae (Qav ?_)))))
  refine ⟨_,Qaq (V:=I6 12) Tryz.results17 rfl,(Zr hs (congrArg (Value.int .i64) ?_))⟩
  unfold Qbp
  rw [c6,c8,c10,c12];rfl
 replace c12:=Qbr c12
 refine Qap (Qag (Qab (Qaa (Qad (V:=I6 0) rfl (Qae (Qav ?_))))))
 refine ⟨_,Qaq (V:=I6 0) Tryz.results17 rfl,(Zr hs (congrArg (Value.int .i64) ?_))⟩
 unfold Qbp
 rw [c6,c8,c10,c12];rfl
end Tt
end Go.Proofs
namespace Go.Proofs
open Go Go.Vx Go.RowKit
namespace Tt
theorem Qok (w:World) (x:Cen):Calls Tryz.prog 47 #[.agg (cec x).toArray] w (fun e w'=>e = .returned (.agg (oc (QaE x)).toArray)/\Own w no w' []):=by
 refine Qai (n:=14) Tryz.func47 rfl Tryz.ntmps47 rfl ?_
 have hs:=Own.start w
 refine Qag (Qab (Qaa (Qa4 (V:=.agg (cec x).toArray) (cs:=cec x) rfl rfl hs fun b1 w2 hs=>(Qaa (QaL (cs:=oc (⟨(⟨0,0⟩:Dot),0,0,0,0,0,vzero⟩:Opn)) Qin rfl hs fun b3 w4 hs=>(Qae (Qag (Qab (Qaa (Qaf QbM rfl (Qaa (QbT (vs:=dc x.dot) QcE hs 0 rfl rfl rfl rfl (Qaa (Qaf Qd5 rfl (Qaa (QaP (V:=.int .u8 x.kind) Qds hs 0 rfl rfl rfl (Qaa (Qaf Qdf rfl (Qaa (QaP (V:=I7 x.cart) Qar hs 0 rfl rfl rfl (Qaa (Qaf Qdc rfl (Qaa (QaP (V:=I7 x.item) Qar hs 0 rfl rfl rfl (Qaa (Qaf Qd1 rfl (Qaa (QaP (V:=I7 x.qty) Qar hs 0 rfl rfl rfl (Qaa (Qcr (vs:=[(0,.agg (dc x.dot).toArray),(1,.int .u8 x.kind),(2,I7 x.cart),(3,I7 x.item),(4,I7 x.qty)]) (cs:=oc (⟨x.dot,x.kind,x.cart,x.item,x.qty,0,vzero⟩:Opn)) [dc (⟨0,0⟩:Dot),[(.int .u8 0:Value)],[(I7 0:Value)],[(I7 0:Value)],[(I7 0:Value)],[(.int .u32 0:Value)],vc vzero] [dc x.dot,[(.int .u8 x.kind:Value)],[(I7 x.cart:Value)],[(I7 x.item:Value)],[(I7 x.qty:Value)],[(.int .u32 0:Value)],vc vzero] Qrd rfl (rfl) rfl rfl (Qaa (QcG (V:=.agg (oc (⟨x.dot,x.kind,x.cart,x.item,x.qty,0,vzero⟩:Opn)).toArray) (vs:=oc (⟨x.dot,x.kind,x.cart,x.item,x.qty,0,vzero⟩:Opn)) (cs':=oc (⟨x.dot,x.kind,x.cart,x.item,x.qty,0,vzero⟩:Opn)) QbB.1 hs 1 rfl rfl rfl rfl rfl (QQ8 rfl) (Qc1 _) (Qaz rfl) fun w5 hs=>(Qae (Qav ?_))))))))))))))))))))))))))))))))))
 refine ⟨_,Qdy (cs:=oc (⟨x.dot,x.kind,x.cart,x.item,x.qty,0,vzero⟩:Opn)) Tryz.results47 QbB hs 1 rfl rfl rfl,(Zr hs ?_)⟩
 rfl
theorem order_ok (w:World) (x y:Cen):Calls Tryz.prog 49 #[.agg (cec x).toArray,.agg (cec y).toArray] w (fun e w'=>e = .returned (.int .i64 (QbP x y))/\Own w no w' []):=by
 refine Qai (n:=26) Tryz.func49 rfl Tryz.ntmps49 rfl ?_
 have hs:=Own.start w
 refine Qag (Qab (Qaa (Qa4 (V:=.agg (cec x).toArray) (cs:=cec x) rfl rfl hs fun b1 w2 hs=>(Qaa (Qa4 (V:=.agg (cec y).toArray) (cs:=cec y) rfl rfl hs fun b3 w4 hs=>(Qaa (Qad (V:=I6 0) rfl (Qae (Qag ?_)))))))))
 replace hs:=hs.more emp trivial
 refine QaH HM [some 5,some 6,some 7,some 8,some 9,some 10,some 11,some 12,some 13,some 14,some 15,some 16,some 17,some 18,some 19,some 20,some 21,some 22,some 23,some 24,some 25,some 4] [[],[],[],[],[],[],[],[],[],[],[],[],[],[],[],[],[],[],[],[24]] [0,1,0,4,15,0,32,96,0,256,768,2047,0,4096,12288,0,32768,98304,262143,524287,1048575,2097151] [pv (Pq b1 (0+0)),pv (I7 x.cart),pv (Pq b3 (0+0)),pv (I7 y.cart),pv (I6 (QaZ x.cart y.cart)),pv (Pq b1 (0+4)),pv (Pq b1 (0+4+0)),pv (.int .u8 x.dot.rep),pv (Pq b3 (0+4)),pv (Pq b3 (0+4+0)),pv (.int .u8 y.dot.rep),pv (I6 (QaZ x.dot.rep y.dot.rep)),pv (Pq b1 (0+4)),pv (Pq b1 (0+4+1)),pv (.int .u32 x.dot.seq),pv (Pq b3 (0+4)),pv (Pq b3 (0+4+1)),pv (.int .u32 y.dot.seq),pv (I6 (QaZ x.dot.seq y.dot.seq)),(true,fun J=>.slice (some ⟨(bOf (J 24)),0,none⟩) 3 3),pv (I6 (orI [QaZ x.cart y.cart,QaZ x.dot.rep y.dot.rep,QaZ x.dot.seq y.dot.seq])),pv (I6 (orI [QaZ x.cart y.cart,QaZ x.dot.rep y.dot.rep,QaZ x.dot.seq y.dot.seq]))] (fun D J=>[blk b1 (cec x) 106,blk b3 (cec y) 106,cond (D 19) (row (.slice (some ⟨(bOf (J 24)),0,none⟩) 3 3) ([QaZ x.cart y.cart,QaZ x.dot.rep y.dot.rep,QaZ x.dot.seq y.dot.seq].map (ic .i64)) 3 1) (emp)]) [21] (by kernel_rfl) hs ⟨?_,?_,?_,?_,?_,?_,?_,?_,?_,?_,?_,?_,?_,?_,?_,?_,?_,?_,?_,?_,?_,?_,trivial⟩ ?_
 ·exact oa [] fun D J w hs=>Qaf Qdf rfl (Zz hs)
 ·exact oa [0] fun D J w hs=>QaP (V:=.int .u16 x.cart) Qar hs 0 rfl rfl rfl (Zz hs)
 ·exact oa [] fun D J w hs=>Qaf Qdf rfl (Zz hs)
 ·exact oa [2] fun D J w hs=>QaP (V:=.int .u16 y.cart) Qar hs 1 rfl rfl rfl (Zz hs)
 ·exact oa [1,3] fun D J w hs=>Qas (vs:=[.int .u16 x.cart,.int .u16 y.cart]) (V:=.int .i64 (QaZ x.cart y.cart)) QnJ rfl rfl (QcU _ x.cart y.cart) hs fun _ hs=>Zz hs
 ·exact oa [] fun D J w hs=>Qaf QbM rfl (Zz hs)
 ·exact oa [5] fun D J w hs=>Qaf QbV rfl (Zz hs)
 ·exact oa [6] fun D J w hs=>QaP (V:=.int .u8 x.dot.rep) Qds hs 0 rfl rfl rfl (Zz hs)
 ·exact oa [] fun D J w hs=>Qaf QbM rfl (Zz hs)
 ·exact oa [8] fun D J w hs=>Qaf QbV rfl (Zz hs)
 ·exact oa [9] fun D J w hs=>QaP (V:=.int .u8 y.dot.rep) Qds hs 1 rfl rfl rfl (Zz hs)
 ·exact oa [7,10] fun D J w hs=>Qas (vs:=[.int .u8 x.dot.rep,.int .u8 y.dot.rep]) (V:=.int .i64 (QaZ x.dot.rep y.dot.rep)) Qro rfl rfl (QdU _ x.dot.rep y.dot.rep) hs fun _ hs=>Zz hs
 ·exact oa [] fun D J w hs=>Qaf QbM rfl (Zz hs)
 ·exact oa [12] fun D J w hs=>Qaf QbX rfl (Zz hs)
 ·exact oa [13] fun D J w hs=>QaP (V:=.int .u32 x.dot.seq) QaN hs 0 rfl rfl rfl (Zz hs)
 ·exact oa [] fun D J w hs=>Qaf QbM rfl (Zz hs)
 ·exact oa [15] fun D J w hs=>Qaf QbX rfl (Zz hs)
 ·exact oa [16] fun D J w hs=>QaP (V:=.int .u32 y.dot.seq) QaN hs 1 rfl rfl rfl (Zz hs)
 ·exact oa [14,17] fun D J w hs=>Qas (vs:=[.int .u32 x.dot.seq,.int .u32 y.dot.seq]) (V:=.int .i64 (QaZ x.dot.seq y.dot.seq)) Qqm rfl rfl (QdA _ x.dot.seq y.dot.seq) hs fun _ hs=>Zz hs
 ·exact oa [4,11,18] fun D J w hs=>QhI (vals:=[.int .i64 (QaZ x.cart y.cart),.int .i64 (QaZ x.dot.rep y.dot.rep),.int .i64 (QaZ x.dot.seq y.dot.seq)]) (ls:=List.map (ic .i64) ([QaZ x.cart y.cart,QaZ x.dot.rep y.dot.rep,QaZ x.dot.seq y.dot.seq]:List Int)) Qlo rfl rfl rfl (Qbj (enc:=(ic .i64)) (fun _=>rfl) _) (QaV (Qfk .i64) _) (QQ8 rfl) hs fun _ _ hs=>⟨rfl,hs.put 2 (QQ8 rfl)⟩
 ·exact oa [19] fun D J w hs=>Qas (vs:=[.slice (some ⟨(bOf (J 24)),0,none⟩) 3 3]) (V:=.int .i64 (orI [QaZ x.cart y.cart,QaZ x.dot.rep y.dot.rep,QaZ x.dot.seq y.dot.seq])) QqB rfl rfl (QrS _ (some ⟨(bOf (J 24)),0,none⟩) 3 [QaZ x.cart y.cart,QaZ x.dot.rep y.dot.rep,QaZ x.dot.seq y.dot.seq] (hs.rd 2 rfl)) hs fun _ hs=>Zz hs
 ·exact oa [20] fun D J w hs=>Qad (V:=.int .i64 (orI [QaZ x.cart y.cart,QaZ x.dot.rep y.dot.rep,QaZ x.dot.seq y.dot.seq])) rfl (Zz hs)
 rintro J1 w10 J2 hJ hs
 replace hJ:J2=upd (mix (sq 5 21++[4]) J1 _) 4 (I6 (orI [QaZ x.cart y.cart,QaZ x.dot.rep y.dot.rep,QaZ x.dot.seq y.dot.seq])):=hJ
 replace hs:Own w no w10 [blk b1 (cec x) 106,blk b3 (cec y) 106,row (.slice (some ⟨(bOf (J1 24)),0,none⟩) 3 3) ([QaZ x.cart y.cart,QaZ x.dot.rep y.dot.rep,QaZ x.dot.seq y.dot.seq].map (ic .i64)) 3 1]:=hs
 generalize (bOf (J1 24))=b11 at hs
 subst hJ
 refine Qav ?_
 refine ⟨_,Qaq (V:=I6 (orI [QaZ x.cart y.cart,QaZ x.dot.rep y.dot.rep,QaZ x.dot.seq y.dot.seq])) Tryz.results49 rfl,(Zr hs ?_)⟩
 rfl
theorem QjB (w:World) (b:Bool):Calls Tryz.prog 106 #[.bool b] w (fun e w'=>e = .returned (.int .u32 (QeE b))/\Own w no w' []):=by
 refine Qai (n:=4) Tryz.func106 rfl Tryz.ntmps106 rfl ?_
 have hs:=Own.start w
 refine Qag (Qab (Qaa (Qad (V:=.int .u32 0) rfl (Qae (Qag (Qag (Qab (Qaa (Qac (V:=.bool b) rfl (Qae (Qam (t:=b) rfl (fun c1=>?_) (fun c1=>?_))))))))))))
 ·
  refine Qag (Qab (Qaa (Qad (V:=.int .u32 1) rfl (Qae (Qav ?_)))))
  refine ⟨_,Qaq (V:=.int .u32 1) Tryz.results106 rfl,(Zr hs ?_)⟩
  cases b<;>simp_all [QeE]
 refine Qap (Qag (Qab (Qaa (Qad (V:=.int .u32 0) rfl (Qae (Qav ?_))))))
 refine ⟨_,Qaq (V:=.int .u32 0) Tryz.results106 rfl,(Zr hs ?_)⟩
 cases b<;>simp_all [QeE]
end Tt
end Go.Proofs
namespace Go.Proofs
open Go Go.Vx Go.RowKit
namespace Tt
theorem Qoq (w:World) (a:Option Addr) (c:Nat) (l:List Opn) (g:Nat) (caps:List Value) (hg:En Tryz.prog g) (p:Opn->Bool) (hp:∀ (w1:World) (L1:List Res),Own w no w1 L1->∀ x∈l,Calls Tryz.prog g ([(.agg (oc x).toArray:Value)]++caps).toArray w1 (fun e w'=>e = .returned (.bool (p x))/\Own w1 no w' [])) (hr:Rd w (.slice a l.length c) 23 (l.map oc)):Calls Tryz.prog 89 #[.slice a l.length c,.func (.func g) #[] caps.toArray] w (fun e w'=>e = .returned (.int .i64 (Qen p l))/\Own w no w' []):=by
 refine Qai (n:=19) Tryz.func89 rfl Tryz.ntmps89 rfl ?_
 have hs:=Own.start w
 have hn:=hr.sml
 refine Qag (Qab (Qaa (Qad (V:=I6 0) rfl (Qae (Qag (Qag (Qab (Qaa (Qac (V:=.slice a l.length c) rfl (Qaa (Qa0 (n:=l.length) Qco (Rd.own' hr hs) (by simp) rfl (Qaa (Qac (V:=I6 0) rfl (Qae (Qan (QaC (fun J μ J' w'=>∃ (Jo:Env) (k:Nat),J'=upd (mix ([4,5]++sq 8 11) Jo J) 8 (I6 (k:Int))/\(k<=l.length)/\(∀ j:Nat,j<k->p (gd l j)=false)/\μ=l.length-k/\Own w no w' []) ?_ ?_))))))))))))))))
 ·exact ⟨_,_,0,Qak (Qao (ds:=([4,5]++sq 8 11)) (Agr.refl _ _)) rfl,(by omega),(fun j hj=>absurd hj (Nat.not_lt_zero j)),rfl,hs⟩
 rintro μ J' w1 ⟨Jo,k,rfl,hk,hno,rfl,hs⟩
 refine Qag (Qab (Qaa (Qa2 rfl rfl (Qae (Qag (Qam (t:=decide ((k:Int)<((l.length:Nat):Int))) rfl (fun c2=>?_) (fun c2=>?_)))))))
 ·
  replace c2:=QQ1 c2
  refine Qap (Qag (Qan (Qag (Qab (Qaa (Qac (V:=I6 (k:Int)) rfl (Qaa (Qad (V:=I6 (k:Int)) rfl (Qae (Qag (Qab (Qaa (Qac (V:=.func (.func g) #[] caps.toArray) rfl (Qaa (Qac (V:=.slice a l.length c) rfl (Qaa (Qac (V:=I6 (k:Int)) rfl (Qaa (Qaw Qco QbB.1 (Rd.own' hr hs) rfl rfl (by omega) (by rw [QQ6];omega) (Qaa (Qbc (j:=0) (vs:=oc (gd l k)) k QbB (Rd.own' hr hs) (Qa9 (by omega)) rfl rfl rfl (by omega) (Qaa (Qe9 (vs:=[.agg (oc (gd l k)).toArray]) (cs:=caps) (V:=.bool (p (gd l k))) hg rfl rfl (hp _ _ hs (gd l k) (Qbz (by omega))) hs fun w3 hs=>(Qae (Qam (t:=p (gd l k)) rfl (fun c4=>?_) (fun c4=>?_))))))))))))))))))))))))))
  ·
   refine Qag (Qab (Qaa (Qac (V:=I6 (k:Int)) rfl (Qaa (Qad (V:=I6 (k:Int)) rfl (Qae (Qav ?_)))))))
   refine ⟨_,Qaq (V:=I6 (k:Int)) Tryz.results89 rfl,(Zr hs ?_)⟩
   exact congrArg (Value.int .i64) (Qjb (by omega) hno c4).symm
  refine Qap (Qab (Qaa (QaD (a:=(k:Int)) (b:=1) (c:=(k:Int)+1) rfl rfl (QbE (by omega) (by omega)) (Qaa (Qac (V:=I6 ((k:Int)+1)) rfl (Qae ?_))))))
  refine ⟨_,?_,_,k+1,Qak (Qao (ds:=([4,5]++sq 8 11)) (by repeat (first|exact Agr.refl _ _|refine Agr.upd ?_ rfl|refine Agr.mix ?_ rfl))) rfl,(by omega),(Qdg hno c4),rfl,hs.take 0⟩
  omega
 replace c2:=QQ2 c2
 refine QaJ (Qag (Qab (Qaa (Qad (V:=I6 (-1)) rfl (Qae (Qav ?_))))))
 refine ⟨_,Qaq (V:=I6 (-1)) Tryz.results89 rfl,(Zr hs ?_)⟩
 exact congrArg (Value.int .i64) (QmF fun j hj=>hno j (by omega)).symm
theorem Qoz (w:World) (a:Option Addr) (c:Nat) (l:List Opn) (g:Nat) (caps:List Value) (hg:En Tryz.prog g) (p:Opn->Bool) (hp:∀ (w1:World) (L1:List Res),Own w no w1 L1->∀ x∈l,Calls Tryz.prog g ([(.agg (oc x).toArray:Value)]++caps).toArray w1 (fun e w'=>e = .returned (.bool (p x))/\Own w1 no w' [])) (hr:Rd w (.slice a l.length c) 23 (l.map oc)):Calls Tryz.prog 44 #[.slice a l.length c,.func (.func g) #[] caps.toArray] w (fun e w'=>e = .returned (.bool (l.any p))/\Own w no w' []):=by
 refine Qai (n:=9) Tryz.func44 rfl Tryz.ntmps44 rfl ?_
 have hs:=Own.start w
 have hn:=hr.sml
 refine Qag (Qab (Qaa (Qad (V:=.bool false) rfl (Qae (Qag (Qab (Qaa (Qac (V:=.slice a l.length c) rfl (Qaa (Qac (V:=.func (.func g) #[] caps.toArray) rfl (Qaa (Qas (vs:=[.slice a l.length c,.func (.func g) #[] caps.toArray]) (V:=I6 (Qen p l)) QuV rfl rfl ?hc hs fun w1 hs=>?_))))))))))))
 case hc=>exact (Qoq _ a c l g caps hg p (fun w1 L1 h=>hp w1 _ (hs.call h)) (Rd.own' hr hs))
 refine Qaa (QcR rfl rfl (Qaa (Qad (V:=.bool (decide (0<=Qen p l))) rfl (Qae (Qav ?_)))))
 refine ⟨_,Qaq (V:=.bool (decide (0<=Qen p l))) Tryz.results44 rfl,(Zr hs ?_)⟩
 exact congrArg Value.bool Qqj
theorem QkK (w:World) (o:Opn) (x:Cen) (bx:Nat) (hx:QcZ x.dot) (hc:Qb5 w bx (cec x)):Calls Tryz.prog 45 #[.agg (oc o).toArray,.pointer (some ⟨bx,0,none⟩)] w (fun e w'=>e = .returned (.bool (QaB o (QaE x)))/\Own w no w' []):=by
 refine Qai (n:=8) Tryz.func45 rfl Tryz.ntmps45 rfl ?_
 have hs:=Own.start w
 refine Qag (Qab (Qaa (Qa4 (V:=.agg (oc o).toArray) (cs:=oc o) rfl rfl hs fun b1 w2 hs=>(Qaa (Qad (V:=.bool false) rfl (Qae (Qag (QaH HM [some 4,some 5,some 6,some 7,some 3] [] [0,0,2,7,15] [pv (.agg (oc o).toArray),pv (.agg (cec x).toArray),pv (.agg (oc (QaE x)).toArray),pv (.bool (QaB o (QaE x))),pv (.bool (QaB o (QaE x)))] (fun _ _=>_) [4] (by kernel_rfl) hs ⟨?_,?_,?_,?_,?_,trivial⟩ ?_))))))))
 ·exact oa [] fun D J w hs=>QaO (cs:=oc o) QbB hs 0 rfl rfl rfl (Zz hs)
 ·exact oa [] fun D J w hs=>Qmj (vs:=cec x) QaA (hc.own' hs) rfl rfl rfl (Zz hs)
 ·exact oa [1] fun D J w hs=>Qas (vs:=[.agg (cec x).toArray]) (V:=.agg (oc (QaE x)).toArray) Qu8 rfl rfl (Qok _ x) hs fun _ hs=>Zz hs
 ·exact oa [0,2] fun D J w hs=>Qas (vs:=[.agg (oc o).toArray,.agg (oc (QaE x)).toArray]) (V:=.bool (QaB o (QaE x))) QtH rfl rfl (Qj1 _ o (QaE x) hx) hs fun _ hs=>Zz hs
 ·exact oa [3] fun D J w hs=>Qad (V:=.bool (QaB o (QaE x))) rfl (Zz hs)
 rintro J1 w5 J2 hJ hs
 replace hJ:J2=upd (mix [4,5,6,7,3] J1 _) 3 (.bool (QaB o (QaE x))):=hJ
 subst hJ
 refine Qav ?_
 refine ⟨_,Qaq (V:=.bool (QaB o (QaE x))) Tryz.results45 rfl,(Zr hs ?_)⟩
 rfl
theorem Qmd (w:World) (x:Cen) (bx:Nat) (a:Option Addr) (c:Nat) (l:List Opn) (hx:QcZ x.dot) (hc:Qb5 w bx [(.slice a l.length c:Value)]) (hr:Rd w (.slice a l.length c) 23 (l.map oc)):Calls Tryz.prog 43 #[.agg (cec x).toArray,.pointer (some ⟨bx,0,none⟩)] w (fun e w'=>e = .returned (.bool (l.any fun o=>QaB o (QaE x)))/\Own w no w' []):=by
 refine Qai (n:=7) Tryz.func43 rfl Tryz.ntmps43 rfl ?_
 have hs:=Own.start w
 refine Qag (Qab (Qaa (Qa4 (V:=.agg (cec x).toArray) (cs:=cec x) rfl rfl hs fun b1 w2 hs=>(Qaa (Qad (V:=.bool false) rfl (Qae (Qag (Qab (Qaa (QnR (V:=.slice a l.length c) QiM (hc.own' hs) rfl rfl (Qaa (QcX (cs:=[Pq b1 0]) rfl rfl (Qaa (Qas (vs:=[.slice a l.length c,.func (.func 45) #[] #[Pq b1 0]]) (V:=.bool (l.any (fun o=>QaB o (QaE x)))) QuL rfl rfl ?hc hs fun w3 hs=>?_))))))))))))))
 case hc=>exact (Qoz _ a c l 45 [.pointer (some ⟨b1,0,none⟩)] Que (fun o=>QaB o (QaE x)) (fun w1 L1 h o _=>QkK w1 o x b1 hx ((hs.cellsf 0 rfl).own' h)) (Rd.own' hr hs))
 refine Qaa (Qad (V:=.bool (l.any (fun o=>QaB o (QaE x)))) rfl (Qae (Qav ?_)))
 refine ⟨_,Qaq (V:=.bool (l.any (fun o=>QaB o (QaE x)))) Tryz.results43 rfl,(Zr hs ?_)⟩
 rfl
end Tt
end Go.Proofs
namespace Go.Proofs
open Go Go.Vx Go.RowKit
namespace Tt
theorem QlU (w:World) (f N:Nat) (caps:List Value) (hf:En Tryz.prog f) (hN:N*3<=140737488355328) (G:List Value->Prop) (hcall:Gives Tryz.prog f caps (okS (Value.int .u16) N) G w):Calls Tryz.prog 159 #[.slice none 0 0,.func (.func f) #[] caps.toArray] w (fun e w'=>∃ x:List Int × Option Addr × Nat,e = .returned (.slice x.2.1 x.1.length x.2.2)/\Own w no w' [row (.slice x.2.1 x.1.length x.2.2) (x.1.map (ic .u16)) 32 1]/\G (x.1.map (Value.int .u16))/\x.1.length<=N):=by
 refine Qi5 (n:=13) Tryz.func159 rfl Tryz.ntmps159 rfl ?_
 have hs:=Own.start w
 refine Qlr (Qab (Qaa (Qa4 (V:=.slice none 0 0) (cs:=[.slice none 0 0]) rfl rfl hs fun b1 w2 hs=>(Qaa (Qad (V:=.slice none 0 0) rfl (Qae (QqO (Qlr (Qab (Qaa (Qac (V:=.func (.func f) #[] caps.toArray) rfl (Qae (Qoh ?_)))))))))))))
 replace hs:=hs.more (row (.slice none 0 0) (List.map (ic .u16) []) 32 1) (Qba _ _ _ _)
 replace hs:=hs.join 0 1 (by decide) rfl rfl
 replace hs:=hs.conv 0 rfl (R':=Qu4 N b1 69 32 1 (ic .u16) (Value.int .u16) []) (fun S h=>⟨⟨([],none,0),rfl,Nat.zero_le _⟩,h⟩)
 refine Qir (caps:=caps) (ok:=okS (Value.int .u16) N) (G:=G) rfl rfl hf hs 0 (Qu4 N b1 69 32 1 (ic .u16) (Value.int .u16)) rfl ?_ hcall ?_
 ·rintro l fn dd pre x w2 S ⟨⟨d,rfl⟩,hpN⟩ hs
  refine Qab (Qaa (Qad (V:=I7 d) rfl (Qae ?_)))
  refine ⟨[],hs,?_⟩
  intro w3 hs
  obtain ⟨⟨⟨l0,a0,c0⟩,hx,hxN⟩,hs⟩:=hs.unpack 0 rfl
  replace hs:=hs.split 0 rfl
  dsimp only at hx
  have hlen:=congrArg List.length hx
  rw [QQ6] at hlen
  refine Qan (Qab (Qaa (QaP (V:=.slice a0 l0.length c0) QrO hs 0 rfl rfl rfl (Qaa (Qac (V:=I7 d) rfl (Qaa (QhI (vals:=[I7 d]) (ls:=List.map (ic .u16) ([d]:List Int)) Qnn rfl rfl rfl (Qbj (enc:=(ic .u16)) (fun _=>rfl) _) (QaV (Qfk .u16) _) (QQ8 rfl) hs fun b3 w4 hs=>(Qaa (Qdb (ls':=(l0++[d]).map (ic .u16)) (n:=(l0++[d]).length) Qnn hs 2 rfl rfl rfl (hs.rd 3 rfl) (QaV (Qfk .u16) _) (by simp only [QQ6,QQ7,List.length_cons,List.length_nil];omega) (by simp) (by simp) fun a5 c5 w6 hs=>(Qaa (QcQ (V:=.slice a5 ((l0++[d]).length) c5) (cs':=[.slice a5 ((l0++[d]).length) c5]) QrO hs 0 rfl rfl rfl rfl (QQ8 rfl) rfl fun w7 hs=>(Qae ?_))))))))))))
  replace hs:=hs.join 0 2 (by decide) rfl rfl
  replace hs:=hs.conv 0 rfl (R':=Qu4 N b1 69 32 1 (ic .u16) (Value.int .u16) (pre++[(Value.int .u16) d])) (fun S h=>⟨⟨(l0++[d],a5,c5),by rw [List.map_append,hx];rfl,by rw [QQ7];exact hpN⟩,h⟩)
  exact hs.take 2
 rintro xs dd w3 hG hs
 obtain ⟨⟨⟨l1,a1,c1⟩,hx,hxN⟩,hs⟩:=hs.unpack 0 rfl
 dsimp only at hx
 subst hx
 replace hs:=hs.split 0 rfl
 refine Quq (Qag (Qab (Qaa (QaP (V:=.slice a1 l1.length c1) QrO hs 0 rfl rfl rfl (Qaa (Qad (V:=.slice a1 l1.length c1) rfl (Qae (Qav (Qmm (V:=.slice a1 l1.length c1) hs 2 rfl (fun w=>Qaq (V:=.slice a1 l1.length c1) Tryz.results159 rfl) fun w hs=>?_)))))))))
 exact ⟨(l1,a1,c1),rfl,hs.only 3 rfl,hG,by simpa using hxN⟩
end Tt
end Go.Proofs
namespace Go.Proofs
open Go Go.Vx Go.RowKit
namespace Tt
theorem QiB (w:World) (f N:Nat) (caps:List Value) (hf:En Tryz.prog f) (hN:N*3<=140737488355328) (G:List Value->Prop) (hcall:Gives Tryz.prog f caps (okS (Value.int .u16) N) G w):Calls Tryz.prog 133 #[.func (.func f) #[] caps.toArray] w (fun e w'=>∃ x:List Int × Option Addr × Nat,e = .returned (.slice x.2.1 x.1.length x.2.2)/\Own w no w' [row (.slice x.2.1 x.1.length x.2.2) (x.1.map (ic .u16)) 32 1]/\G (x.1.map (Value.int .u16))/\x.1.length<=N):=by
 refine Qai (n:=5) Tryz.func133 rfl Tryz.ntmps133 rfl ?_
 have hs:=Own.start w
 refine Qag (Qab (Qaa (Qad (V:=.slice none 0 0) rfl (Qae (Qag (Qab (Qaa (Qac (V:=.func (.func f) #[] caps.toArray) rfl (Qaa (Qbm (vs:=[.slice none 0 0,.func (.func f) #[] caps.toArray]) QsZ rfl rfl (QlU _ f N caps hf hN G hcall) hs fun x1 w2 hs hF3=>(Qaa (Qad (V:=.slice x1.2.1 x1.1.length x1.2.2) rfl (Qae (Qav ?_))))))))))))))
 refine ⟨_,Qaq (V:=.slice x1.2.1 x1.1.length x1.2.2) Tryz.results133 rfl,?_⟩
 exact ⟨(x1.1,x1.2.1,x1.2.2),rfl,hs.only 0 rfl,hF3⟩
theorem QkX (w:World) (f N:Nat) (caps:List Value) (hf:En Tryz.prog f) (hN:N*3<=140737488355328) (G:List Value->Prop) (hcall:Gives Tryz.prog f caps (okS (Value.int .u16) N) G w) (hsortU:Qgz Tryz.prog 134 .u16 32):Calls Tryz.prog 84 #[.func (.func f) #[] caps.toArray] w (fun e w'=>∃ x:List Int × Option Addr × Nat,e = .returned (.slice x.2.1 x.1.length x.2.2)/\Own w no w' [row (.slice x.2.1 x.1.length x.2.2) (x.1.map (ic .u16)) 32 1]/\∃ m,G (m.map (Value.int .u16))/\x.1=Qa6 m):=by
 refine Qai (n:=9) Tryz.func84 rfl Tryz.ntmps84 rfl ?_
 have hs:=Own.start w
 refine Qag (Qab (Qaa (Qad (V:=.slice none 0 0) rfl (Qae (Qag (Qab (Qaa (Qac (V:=.func (.func f) #[] caps.toArray) rfl (Qaa (Qbm (vs:=[.func (.func f) #[] caps.toArray]) Qte rfl rfl (QiB _ f N caps hf hN G hcall) hs fun x1 w2 hs hF3=>(Qaa (Qad (V:=.slice x1.2.1 x1.1.length x1.2.2) rfl (Qae (Qag ?_))))))))))))))
 have hn:=hF3.2
 refine Qab (Qaa (Qac (V:=.slice x1.2.1 x1.1.length x1.2.2) rfl (Qaa (Qbs (vs:=[.slice x1.2.1 x1.1.length x1.2.2]) (V:=fun _:Unit=>.tuple #[]) (R:=row (.slice x1.2.1 x1.1.length x1.2.2) (x1.1.map (ic .u16)) 32 1) (R':=fun _=>row (.slice x1.2.1 x1.1.length x1.2.2) ((Qa6 x1.1).map (ic .u16)) 32 1) (Lo:=fun _=>[]) (F:=fun _ _=>True) Qts rfl rfl hs 0 rfl (fun S hS hlt=>(hsortU _ S _ _ _ hS hlt (by omega)).mono fun e w' ⟨he,ho⟩=>⟨(),he,ho,trivial⟩) fun _ w4 hs _=>(Qae (Qag (Qab (Qaa (Qac (V:=.slice x1.2.1 x1.1.length x1.2.2) rfl (Qaa (Qad (V:=.slice x1.2.1 x1.1.length x1.2.2) rfl (Qae (Qav ?_)))))))))))))
 refine ⟨_,Qaq (V:=.slice x1.2.1 x1.1.length x1.2.2) Tryz.results84 rfl,?_⟩
 have hl:x1.1.length=(Qa6 x1.1).length:=(QeB _).symm
 refine ⟨(Qa6 x1.1,x1.2.1,x1.2.2),by rw [hl],?_,⟨x1.1,hF3.1,rfl⟩⟩
 have ho:=hs.only 0 rfl
 rw [hl] at ho
 exact ho
end Tt
end Go.Proofs
namespace Go.Proofs
open Go Go.Vx Go.RowKit
namespace Tt
theorem Qnt (w:World) (S:Nat->Prop) (bx r l:Nat) (lm:List (Int × Int)) (R:List Value->Res) (ok:List Value->Value->Prop) (hok:∀ (pre:List Int) (k:Int),pre.length<lm.length->k∈lm.map (·.1)->ok (pre.map (Value.int .u16)) ((Value.int .u16) k)) (hy:Qh0 Tryz.prog l R ok) (hR:(R []).holds w S) (hlt:∀ x,S x->x<w.heap.size) (hSb:¬S bx) (hSr:¬S r) (hc:Qb5 w bx [.map (some r)]) (hm:QiA w r (Value.int .u16) (Value.int .u32) lm):Calls Tryz.prog 148 #[.func (.yield l) #[] #[],.pointer (some ⟨bx,0,none⟩)] w (fun e w'=>∃ v xs,e = .returned v/\xs.Perm ((lm.map (·.1)).map (Value.int .u16))/\Own w S w' [R xs]):=by
 refine Qai (n:=14) Tryz.func148 rfl Tryz.ntmps148 rfl ?_
 have hs:=Own.lent hR hlt
 obtain ⟨es,clock,hm0,hE⟩:=hm
 refine Qag (Qab (Qaa (QnR (V:=.map (some r)) Qtw (Qb5.own hc hs hSb) rfl rfl ?_)))
 have hat:=hs.at hm0 hSr
 refine Qaa (QqG QhY hat hs rfl fun it w1 hs=>(Qae (Qan (QaC (fun J μ J' w'=>∃ (Jo:Env) (pre:List Int) (seen:Array Nat),J'=mix ([3]++sq 6 8) Jo J/\(((left es seen).map (·.key)++pre.map (Value.int .u16)).Perm ((lm.map (·.1)).map (Value.int .u16)))/\μ=(left es seen).length/\Own w S w' [R (pre.map (Value.int .u16)),QkL it r clock seen]) ?_ ?_))))
 ·exact ⟨_,_,[],#[],Qao (ds:=([3]++sq 6 8)) (Agr.refl _ _),(by rw [Qmt,hE.keys];simp),rfl,hs⟩
 rintro μ J' w2 ⟨Jo,pre,seen,rfl,hp,rfl,hs⟩
 refine Qag (Qab (Qaa (QtB (seen:=seen) (hs.at hm0 hSr) hE.old hs 1 rfl rfl (fun h0=>?_) (fun e3 ha w4 hs=>?_))))
 ·
  refine Qaa (Qax (V:=.bool false) rfl rfl (Qae (Qag (Qb1 rfl ?_))))
  refine QaJ ?_
  refine ⟨_,Qbd Tryz.results148,?_⟩
  rw [h0] at hp
  exact ⟨_,pre.map (Value.int .u16),rfl,hp,hs.only 0 rfl⟩
 obtain ⟨k,hk,hkey⟩:=Qpn hE (QjS ha)
 refine Qaa (Qax (V:=.bool true) rfl rfl (Qae (Qag (QcB rfl ?_))))
 refine Qap (Qan (Qag (Qab (Qaa (Qn1 (V:=(Value.int .u16) k) (hs.at hm0 hSr) hE.inc (QjS ha) hkey hs 1 rfl rfl (Qaa (Qax (V:=I7 k) rfl rfl (Qaa (Qad (V:=I7 k) rfl (Qae (Qag (Qab (Qaa (Qac (V:=.func (.yield l) #[] #[]) rfl (Qaa (Qac (V:=I7 k) rfl ?_))))))))))))))))
 have hst:=Ql0 hE ha hkey hp
 refine Qaa (QoK (R:=R) (pre:=pre.map (Value.int .u16)) (v:=(Value.int .u16) k) hy rfl rfl (hok pre k hst.2.2 hk) hs 0 rfl fun w5 hs=>(Qaa (Qbx rfl (Qae (Qb1 rfl ?_)))))
 refine Qap ?_
 have e1:(pre++[k]).map (Value.int .u16)=pre.map (Value.int .u16)++[(Value.int .u16) k]:=by simp
 rw [← e1] at hs
 refine ⟨_,?_,_,pre++[k],seen.push e3.born,Qao (ds:=([3]++sq 6 8)) (by repeat (first|exact Agr.refl _ _|refine Agr.upd ?_ rfl|refine Agr.mix ?_ rfl)),hst.1,rfl,hs.take 2⟩
 exact hst.2.1
theorem Qpe (w:World) (r:Nat):Calls Tryz.prog 96 #[.map (some r)] w (fun e w'=>∃ x:Nat,e = .returned (.func (.func 148) #[] #[.pointer (some ⟨x,0,none⟩)])/\Own w no w' [blk x [.map (some r)] 100]/\True):=by
 refine Qai (n:=4) Tryz.func96 rfl Tryz.ntmps96 rfl ?_
 have hs:=Own.start w
 refine Qag (Qab (Qaa (Qa4 (V:=.map (some r)) (cs:=[.map (some r)]) rfl rfl hs fun b1 w2 hs=>(Qaa (Qad (V:=.nilFunc) rfl (Qae (Qag (Qab (Qaa (QcX (cs:=[Pq b1 0]) rfl rfl (Qaa (Qad (V:=.func (.func 148) #[] #[Pq b1 0]) rfl (Qae (Qav ?_))))))))))))))
 refine ⟨_,Qaq (V:=.func (.func 148) #[] #[Pq b1 0]) Tryz.results96 rfl,?_⟩
 exact ⟨b1,rfl,hs.only 0 rfl,trivial⟩
theorem Qth {w:World} {bx r N:Nat} {lm:List (Int × Int)} (hc:Qb5 w bx [.map (some r)]) (hm:QiA w r (Value.int .u16) (Value.int .u32) lm) (hN:lm.length<=N) :
  Gives Tryz.prog 148 [.pointer (some ⟨bx,0,none⟩)] (okS (Value.int .u16) N) (fun xs=>xs.Perm ((lm.map (·.1)).map (Value.int .u16))) w:=by
 rintro l w1 R S ⟨L1,hs1⟩ hlt hS hR hy
 have hb:bx<w.heap.size:=World.block_lt_of_cell? _ _ (hc 0 _ rfl)
 have hr:r<w.heap.size:=by obtain ⟨es,clock,h,_⟩:=hm;exact (Array.getElem?_eq_some_iff.1 h).1
 exact Qnt w1 S bx r l lm R (okS (Value.int .u16) N) (fun pre k hp _=>⟨⟨k,rfl⟩,by rw [QQ6];omega⟩) hy hR hlt (fun h=>hS _ h hb) (fun h=>hS _ h hr) (hc.own' hs1) (hm.own' hs1)
theorem QlI (w:World) (r:Nat) (m:List (Int × Int)) (hm:QiA w r (Value.int .u16) (Value.int .u32) m) (hlm:m.length<=100000) (hsortU:Qgz Tryz.prog 134 .u16 32):Calls Tryz.prog 50 #[.map (some r)] w (fun e w'=>∃ x:Option Addr × Nat,e = .returned (.slice x.1 (Qa6 (m.map (·.1))).length x.2)/\Own w no w' [row (.slice x.1 (Qa6 (m.map (·.1))).length x.2) ((Qa6 (m.map (·.1))).map (ic .u16)) 32 1]/\True):=by
 refine Qai (n:=6) Tryz.func50 rfl Tryz.ntmps50 rfl ?_
 have hs:=Own.start w
 refine Qag (Qab (Qaa (Qad (V:=.slice none 0 0) rfl (Qae (Qag (Qab (Qaa (Qac (V:=.map (some r)) rfl (Qaa (Qbm (vs:=[.map (some r)]) (V:=fun x:Nat=>.func (.func 148) #[] #[Pq x 0]) Qvp rfl rfl (Qpe _ r) hs fun x1 w2 hs _=>(Qaa (Qbm (vs:=[.func (.func 148) #[] #[Pq x1 0]]) (V:=fun x:Option Addr × Nat=>.slice x.1 (Qa6 (m.map (·.1))).length x.2) (Lo:=fun x=>[row (.slice x.1 (Qa6 (m.map (·.1))).length x.2) ((Qa6 (m.map (·.1))).map (ic .u16)) 32 1]) (F:=fun _ _=>True) Quz rfl rfl ?hc hs fun x3 w4 hs hF5=>?_))))))))))))
 case hc=>exact ((QkX _ 148 1000000 [.pointer (some ⟨x1,0,none⟩)] Qto (by decide) (fun xs=>xs.Perm ((m.map (·.1)).map (Value.int .u16))) (Qth (hs.cellsf 0 rfl) (QiA.own hm hs (fun h=>h)) (by omega)) hsortU).mono fun e w' ⟨y,he,ho,m0,hm0,hy⟩=>by
   have hy2:y.1=Qa6 (m.map (·.1)):=by rw [hy];exact QmS hm0
   rw [hy2] at he ho
   exact ⟨(y.2.1,y.2.2),he,ho,trivial⟩)
 refine Qaa (Qad (V:=.slice x3.1 ((Qa6 (m.map (·.1))).length) x3.2) rfl (Qae (Qav ?_)))
 refine ⟨_,Qaq (V:=.slice x3.1 ((Qa6 (m.map (·.1))).length) x3.2) Tryz.results50 rfl,?_⟩
 exact ⟨(x3.1,x3.2),rfl,hs.only 1 rfl,trivial⟩
end Tt
end Go.Proofs
namespace Go.Proofs
open Go Go.Vx Go.RowKit
namespace Tt
theorem Qnr (w:World) (a:Option Addr) (c:Nat) (l:List Cen) (g:Nat) (caps:List Value) (hg:En Tryz.prog g) (p:Cen->Bool) (hp:∀ (w1:World) (L1:List Res),Own w no w1 L1->∀ x∈l,Calls Tryz.prog g ([(.agg (cec x).toArray:Value)]++caps).toArray w1 (fun e w'=>e = .returned (.bool (p x))/\Own w1 no w' [])) (hr:Rd w (.slice a l.length c) 7 (l.map cec)):Calls Tryz.prog 88 #[.slice a l.length c,.func (.func g) #[] caps.toArray] w (fun e w'=>e = .returned (.int .i64 (Qen p l))/\Own w no w' []):=by
 refine Qai (n:=19) Tryz.func88 rfl Tryz.ntmps88 rfl ?_
 have hs:=Own.start w
 have hn:=hr.sml
 refine Qag (Qab (Qaa (Qad (V:=I6 0) rfl (Qae (Qag (Qag (Qab (Qaa (Qac (V:=.slice a l.length c) rfl (Qaa (Qa0 (n:=l.length) QbC (Rd.own' hr hs) (by simp) rfl (Qaa (Qac (V:=I6 0) rfl (Qae (Qan (QaC (fun J μ J' w'=>∃ (Jo:Env) (k:Nat),J'=upd (mix ([4,5]++sq 8 11) Jo J) 8 (I6 (k:Int))/\(k<=l.length)/\(∀ j:Nat,j<k->p (gd l j)=false)/\μ=l.length-k/\Own w no w' []) ?_ ?_))))))))))))))))
 ·exact ⟨_,_,0,Qak (Qao (ds:=([4,5]++sq 8 11)) (Agr.refl _ _)) rfl,(by omega),(fun j hj=>absurd hj (Nat.not_lt_zero j)),rfl,hs⟩
 rintro μ J' w1 ⟨Jo,k,rfl,hk,hno,rfl,hs⟩
 refine Qag (Qab (Qaa (Qa2 rfl rfl (Qae (Qag (Qam (t:=decide ((k:Int)<((l.length:Nat):Int))) rfl (fun c2=>?_) (fun c2=>?_)))))))
 ·
  replace c2:=QQ1 c2
  refine Qap (Qag (Qan (Qag (Qab (Qaa (Qac (V:=I6 (k:Int)) rfl (Qaa (Qad (V:=I6 (k:Int)) rfl (Qae (Qag (Qab (Qaa (Qac (V:=.func (.func g) #[] caps.toArray) rfl (Qaa (Qac (V:=.slice a l.length c) rfl (Qaa (Qac (V:=I6 (k:Int)) rfl (Qaa (Qaw QbC QaA.1 (Rd.own' hr hs) rfl rfl (by omega) (by rw [QQ6];omega) (Qaa (Qbc (j:=0) (vs:=cec (gd l k)) k QaA (Rd.own' hr hs) (Qa9 (by omega)) rfl rfl rfl (by omega) (Qaa (Qe9 (vs:=[.agg (cec (gd l k)).toArray]) (cs:=caps) (V:=.bool (p (gd l k))) hg rfl rfl (hp _ _ hs (gd l k) (Qbz (by omega))) hs fun w3 hs=>(Qae (Qam (t:=p (gd l k)) rfl (fun c4=>?_) (fun c4=>?_))))))))))))))))))))))))))
  ·
   refine Qag (Qab (Qaa (Qac (V:=I6 (k:Int)) rfl (Qaa (Qad (V:=I6 (k:Int)) rfl (Qae (Qav ?_)))))))
   refine ⟨_,Qaq (V:=I6 (k:Int)) Tryz.results88 rfl,(Zr hs ?_)⟩
   exact congrArg (Value.int .i64) (Qjb (by omega) hno c4).symm
  refine Qap (Qab (Qaa (QaD (a:=(k:Int)) (b:=1) (c:=(k:Int)+1) rfl rfl (QbE (by omega) (by omega)) (Qaa (Qac (V:=I6 ((k:Int)+1)) rfl (Qae ?_))))))
  refine ⟨_,?_,_,k+1,Qak (Qao (ds:=([4,5]++sq 8 11)) (by repeat (first|exact Agr.refl _ _|refine Agr.upd ?_ rfl|refine Agr.mix ?_ rfl))) rfl,(by omega),(Qdg hno c4),rfl,hs.take 0⟩
  omega
 replace c2:=QQ2 c2
 refine QaJ (Qag (Qab (Qaa (Qad (V:=I6 (-1)) rfl (Qae (Qav ?_))))))
 refine ⟨_,Qaq (V:=I6 (-1)) Tryz.results88 rfl,(Zr hs ?_)⟩
 exact congrArg (Value.int .i64) (QmF fun j hj=>hno j (by omega)).symm
end Tt
end Go.Proofs
namespace Go.Proofs
open Go Go.Vx Go.RowKit
namespace Tt
theorem QhL (w:World) (S:Nat->Prop) (a:Option Addr) (c:Nat) (l:List Cen) (g:Nat) (caps:List Value) (hg:En Tryz.prog g) (p:Cen->Bool) (hp:∀ (w1:World) (L1:List Res),Own w S w1 L1->∀ x∈l,Calls Tryz.prog g ([(.agg (cec x).toArray:Value)]++caps).toArray w1 (fun e w'=>e = .returned (.bool (p x))/\Own w1 no w' [])) (hR:(row (.slice a l.length c) (l.map cec) 106 7).holds w S) (hlt:∀ b,S b->b<w.heap.size):Calls Tryz.prog 42 #[.slice a l.length c,.func (.func g) #[] caps.toArray] w (fun e w'=>∃ x:Unit,e = .returned (.slice a (l.filter fun x=>!p x).length c)/\Own w S w' [row (.slice a (l.filter fun x=>!p x).length c) ((l.filter fun x=>!p x).map cec) 106 7]/\True):=by
 refine Qai (n:=42) Tryz.func42 rfl Tryz.ntmps42 rfl ?_
 have hs:=Own.lent hR hlt
 have hn:=(hs.rd 0 rfl).sml
 have hlc:=(hs.rd 0 rfl).roomM
 refine Qag (Qab (Qaa (Qad (V:=.slice none 0 0) rfl (Qae (Qag (Qab (Qaa (Qac (V:=.slice a l.length c) rfl (Qaa (Qac (V:=.func (.func g) #[] caps.toArray) rfl (Qaa (Qas (vs:=[.slice a l.length c,.func (.func g) #[] caps.toArray]) (V:=I6 (Qen p l)) Qul rfl rfl ?hc hs fun w1 hs=>?_))))))))))))
 case hc=>exact (Qnr _ a c l g caps hg p (fun w1 L1 h=>hp w1 _ (hs.call h)) (hs.rd 0 rfl))
 refine Qaa (Qad (V:=I6 (Qen p l)) rfl (Qae (Qag (Qag ?_))))
 rcases Qkh (p:=p) (l:=l) with hk2|hk2
 ·
  obtain ⟨hf1,hfl⟩:=hk2
  refine Qab (Qaa (QaX (V:=I6 (Qen p l)) (V':=I6 (-1)) (Qac (V:=I6 (Qen p l)) rfl ⟨rfl,rfl⟩) (congrArg (Value.int .i64) hf1) (Qaa (QaX (V:=.bool (decide ((-1:Int) = -1))) (V':=.bool true) (QaW rfl rfl ⟨rfl,rfl⟩) (congrArg Value.bool (QQ3 rfl)) (Qae (QcB rfl ?_))))))
  refine Qag (Qab (Qaa (Qac (V:=.slice a l.length c) rfl (Qaa (Qad (V:=.slice a l.length c) rfl (Qae (Qav ?_)))))))
  refine ⟨_,Qaq (V:=.slice a l.length c) Tryz.results42 rfl,?_⟩
  rw [hfl]
  exact ⟨(),rfl,hs.take 1,trivial⟩
 obtain ⟨k0,hf1,hk0l,hpk,hft⟩:=hk2
 refine Qab (Qaa (QaX (V:=I6 (Qen p l)) (V':=I6 (k0:Int)) (Qac (V:=I6 (Qen p l)) rfl ⟨rfl,rfl⟩) (congrArg (Value.int .i64) hf1) (Qaa (QaX (V:=.bool (decide ((k0:Int) = -1))) (V':=.bool false) (QaW rfl rfl ⟨rfl,rfl⟩) (congrArg Value.bool (QQ4 (by omega))) (Qae (Qb1 rfl ?_))))))
 refine Qap (Qag (Qag (Qab (Qaa (QaX (V:=I6 (Qen p l)) (V':=I6 (k0:Int)) (Qac (V:=I6 (Qen p l)) rfl ⟨rfl,rfl⟩) (congrArg (Value.int .i64) hf1) (Qaa (QaD (a:=(k0:Int)) (b:=1) (c:=((k0+1:Nat):Int)) rfl rfl (Qaj (by omega) (by omega)) (Qaa (Qad (V:=I6 ((k0+1:Nat):Int)) rfl (Qae (Qan (QaC (fun J μ J' w'=>∃ (Jo:Env) (i:Nat) (j:Nat) (m:List Cen),J'=upd (upd (mix ([5,6,7]++sq 16 20) Jo J) 5 (I6 (i:Int))) 6 (I6 (j:Int))/\(i<j)/\(j<=l.length)/\(Moved p l m i j)/\μ=l.length-j/\Own w S w' [row (.slice a l.length c) (m.map cec) 106 7]) ?_ ?_))))))))))))
 ·exact ⟨_,_,k0,k0+1,l,Qak (Qak (Qao (ds:=([5,6,7]++sq 16 20)) (Agr.refl _ _)) (congrArg (Value.int .i64) hf1)) rfl,(by omega),(by omega),(Qf2 hk0l hpk hft),rfl,hs⟩
 rintro μ J' w2 ⟨Jo,i,j,m,rfl,hij,hj,hmv,rfl,hs⟩
 have hml:=hmv.1
 refine Qag (Qag (Qab (Qaa (Qac (V:=I6 (j:Int)) rfl (Qaa (Qac (V:=.slice a l.length c) rfl (Qaa (Qa0 (n:=l.length) QbC (hs.rd 0 rfl) (by simp [hmv.1]) rfl (Qaa (Qa2 rfl rfl (Qae (Qam (t:=decide ((j:Int)<((l.length:Nat):Int))) rfl (fun c3=>?_) (fun c3=>?_)))))))))))))
 ·
  replace c3:=QQ1 c3
  refine Qap (Qag (Qan (Qag (Qab (Qaa (Qac (V:=.slice a l.length c) rfl (Qaa (Qac (V:=I6 (j:Int)) rfl (Qaa (Qaw QbC QaA.1 (hs.rd 0 rfl) rfl rfl (by omega) (by rw [QQ6];omega) (Qaa (Qbc (j:=0) (vs:=cec (gd m j)) j QaA (hs.rd 0 rfl) (Qa9 (by omega)) rfl rfl rfl (by omega) (Qaa (QaL (cs:=cec (⟨0,0,0,0,(⟨0,0⟩:Dot),0⟩:Cen)) Qfn rfl hs fun b4 w5 hs=>(Qaa (QcG (V:=.agg (cec (gd m j)).toArray) (vs:=cec (gd m j)) (cs':=cec (gd m j)) QaA.1 hs 1 rfl rfl rfl rfl rfl (QQ8 rfl) (Qbi _) (Qaz rfl) fun w6 hs=>(Qae (Qag (Qab (Qaa (Qac (V:=.func (.func g) #[] caps.toArray) rfl (Qaa (QaO (cs:=cec (gd m j)) QaA hs 1 rfl rfl rfl (Qaa (Qe9 (vs:=[.agg (cec (gd m j)).toArray]) (cs:=caps) (V:=.bool (p (gd m j))) hg rfl rfl (hp _ _ hs (gd m j) (by rw [hmv.2.2 _ (Nat.le_refl _)];exact Qbz (by omega))) hs fun w7 hs=>(Qaa (Qbx rfl (Qae (Qam (t:=!(p (gd m j))) rfl (fun c8=>?_) (fun c8=>?_))))))))))))))))))))))))))))))
  ·
   replace c8:=Qby c8
   refine Qag (Qab (Qaa (Qac (V:=.slice a l.length c) rfl (Qaa (Qac (V:=I6 (i:Int)) rfl (Qaa (QaO (cs:=cec (gd m j)) QaA hs 1 rfl rfl rfl (Qaa (Qaw QbC QaA.1 (hs.rd 0 rfl) rfl rfl (by omega) (by rw [QQ6];omega) (Qaa (Qht (z:=gd m j) i QaA.1 hs 0 rfl rfl rfl (by first|omega|(simp only [List.length_set];omega)) rfl rfl rfl (Qbi _) fun w9 hs=>?_)))))))))))
   replace hs:Own w S w9 [row (.slice a l.length c) ((m.set i (gd m j)).map cec) 106 7,blk b4 (cec (gd m j)) 106]:=hs
   refine Qae (Qab (Qaa (Qac (V:=I6 (i:Int)) rfl (Qaa (QaD (a:=(i:Int)) (b:=1) (c:=((i+1:Nat):Int)) rfl rfl (Qaj (by omega) (by omega)) (Qaa (Qad (V:=I6 ((i+1:Nat):Int)) rfl (Qae (Qab (Qaa (Qac (V:=I6 (j:Int)) rfl (Qaa (QaD (a:=(j:Int)) (b:=1) (c:=((j+1:Nat):Int)) rfl rfl (Qaj (by omega) (by omega)) (Qaa (Qad (V:=I6 ((j+1:Nat):Int)) rfl (Qae ?_))))))))))))))))
   refine ⟨_,?_,_,i+1,j+1,m.set i (gd m j),Qak (Qak (Qao (ds:=([5,6,7]++sq 16 20)) (by repeat (first|exact Agr.refl _ _|refine Agr.upd ?_ rfl|refine Agr.mix ?_ rfl))) rfl) rfl,(by omega),(by omega),(QgJ hmv (by omega) (by omega) c8),rfl,hs.take 1⟩
   omega
  replace c8:=Qbr c8
  refine Qap (Qab (Qaa (Qac (V:=I6 (j:Int)) rfl (Qaa (QaD (a:=(j:Int)) (b:=1) (c:=((j+1:Nat):Int)) rfl rfl (Qaj (by omega) (by omega)) (Qaa (Qad (V:=I6 ((j+1:Nat):Int)) rfl (Qae ?_))))))))
  refine ⟨_,?_,_,i,j+1,m,Qak (Qak (Qao (ds:=([5,6,7]++sq 16 20)) (by repeat (first|exact Agr.refl _ _|refine Agr.upd ?_ rfl|refine Agr.mix ?_ rfl))) rfl) rfl,(by omega),(by omega),(Qg5 hmv (by omega) c8),rfl,hs.take 1⟩
  omega
 replace c3:=QQ2 c3
 refine QaJ (Qag (Qab (Qaa (Qac (V:=.slice a l.length c) rfl (Qaa (Qac (V:=I6 (i:Int)) rfl (Qaa (Qk2 (l:=i) (h:=l.length) (m:=c) (n':=(m.drop i).length) QcO QaA.1 (hs.rd 0 rfl) rfl (.inr ⟨_,_,rfl,rfl⟩) (.inl ⟨rfl,rfl⟩) (.inl ⟨rfl,rfl⟩) (by omega) (by omega) (Nat.le_trans (show l.length<=m.length by omega) (Rd.roomM (hs.rd 0 rfl))) (Nat.le_refl _) (by simp only [List.length_take,List.length_drop]<;>omega) ?_))))))))
 refine Qaa (Qkd QeR hs 0 rfl rfl (by rw [QQ6]<;>omega) (by simp only [QQ6,List.length_drop]<;>omega) (by intro v hv;have e:=Qml hv Qfn;subst e;exact (Qbi _)) fun w10 hs=>(Qae (Qag (Qab (Qaa (Qac (V:=.slice a l.length c) rfl (Qaa (Qac (V:=I6 (i:Int)) rfl (Qaa (QdI (l:=0) (h:=i) (n':=i) QcO QaA.1 (by omega) rfl (.inl ⟨rfl,rfl⟩) (.inr ⟨_,_,rfl,rfl⟩) (by omega) (by omega) (by omega) (Qaa (Qad (V:=.slice (sla a 0 c 7) i (c-0)) rfl (Qae (Qav ?_))))))))))))))
 refine ⟨_,Qaq (V:=.slice (sla a 0 c 7) i (c-0)) Tryz.results42 rfl,?_⟩
 have he:=Qh7 hmv (by omega)
 have hil:i=(l.filter fun x=>!p x).length:=by rw [← he,List.length_take,hmv.1];omega
 replace hs:=hs.take 1
 simp only [List.set_cons_zero,List.take_succ_cons,List.take_zero,← List.map_take,he] at hs
 rw [← hil]
 refine ⟨(),?_,hs,trivial⟩
 rw [QeU,Nat.sub_zero]
end Tt
end Go.Proofs
namespace Go.Proofs
open Go Go.Vx Go.RowKit
namespace Tt
theorem QdW (w:World) (p:Pst) (a1:Option Addr) (c1:Nat) (a2:Option Addr) (c2:Nat) (a3:Option Addr) (c3:Nat) (cut:Vec) (hcut:QbR cut) (hsortE:Qgx Tryz.prog 48 49 cec 106 7 Qj4) (hsortU:Qgz Tryz.prog 134 .u16 32) (hok:QeV p) (hle:p.base.ents.length<=400) (hlt:p.base.ticks.length<=400) (hlo:p.ops.length<=400) (hr1:Rd w (.slice a1 p.base.ents.length c1) 7 (p.base.ents.map cec)) (hr2:Rd w (.slice a2 p.base.ticks.length c2) 2 (p.base.ticks.map lsc)) (hr3:Rd w (.slice a3 p.ops.length c3) 23 (p.ops.map oc)):Calls Tryz.prog 12 #[.agg (((vc p.base.known)++[(.slice a1 p.base.ents.length c1:Value),(.slice a2 p.base.ticks.length c2:Value) ])++[(.slice a3 p.ops.length c3:Value) ]++(vc p.known)).toArray,.agg (vc cut).toArray] w (fun e w'=>∃ x:(Option Addr × Nat) × (Option Addr × Nat),e = .returned (.tuple #[.agg (vc (Qah p cut).known++[(.slice x.1.1 (Qah p cut).ents.length x.1.2:Value),(.slice x.2.1 (Qah p cut).ticks.length x.2.2:Value)]).toArray,.int .i64 (Qbp p cut)])/\Own w no w' [row (.slice x.1.1 (Qah p cut).ents.length x.1.2) ((Qah p cut).ents.map cec) 106 7,row (.slice x.2.1 (Qah p cut).ticks.length x.2.2) ((Qah p cut).ticks.map lsc) 102 2]/\True):=by
 refine Qai (n:=126) Tryz.func12 rfl Tryz.ntmps12 rfl ?_
 have hs:=Own.start w
 have ⟨hokb,hoko,hokk⟩:=hok
 have hn1:=hr1.sml
 have hn2:=hr2.sml
 have hn3:=hr3.sml
 refine Qag (Qab (Qaa (Qa4 (V:=.agg (((vc p.base.known)++[(.slice a1 p.base.ents.length c1:Value),(.slice a2 p.base.ticks.length c2:Value) ])++[(.slice a3 p.ops.length c3:Value) ]++(vc p.known)).toArray) (cs:=((vc p.base.known)++[(.slice a1 p.base.ents.length c1:Value),(.slice a2 p.base.ticks.length c2:Value) ])++[(.slice a3 p.ops.length c3:Value) ]++(vc p.known)) rfl rfl hs fun b1 w2 hs=>(Qaa (Qa4 (V:=.agg (vc cut).toArray) (cs:=vc cut) rfl rfl hs fun b3 w4 hs=>(Qaa (QaL (cs:=(vc vzero)++[(.slice none 0 0:Value),(.slice none 0 0:Value) ]) Qfr rfl hs fun b5 w6 hs=>(Qaa (Qad (V:=I6 0) rfl (Qae (Qag (Qag (Qab (Qaa (QaO (cs:=((vc p.base.known)++[(.slice a1 p.base.ents.length c1:Value),(.slice a2 p.base.ticks.length c2:Value) ])++[(.slice a3 p.ops.length c3:Value) ]++(vc p.known)) QcV hs 0 rfl rfl rfl (Qaa (QaO (cs:=vc cut) Qbu hs 1 rfl rfl rfl (Qaa (Qas (vs:=[.agg (((vc p.base.known)++[(.slice a1 p.base.ents.length c1:Value),(.slice a2 p.base.ticks.length c2:Value) ])++[(.slice a3 p.ops.length c3:Value) ]++(vc p.known)).toArray,.agg (vc cut).toArray]) (V:=I6 (Qbp p cut)) Qsa rfl rfl ?hc hs fun w7 hs=>?_)))))))))))))))))))
 case hc=>exact (Qk9 _ p a1 c1 a2 c2 a3 c3 cut hcut hok hle hlt hlo (Rd.own' hr1 hs) (Rd.own' hr2 hs) (Rd.own' hr3 hs))
 refine Qaa (Qad (V:=I6 (Qbp p cut)) rfl (Qae (Qag (Qab (Qaa (Qac (V:=I6 (Qbp p cut)) rfl (Qaa (QcC rfl rfl (Qae (Qam (t:=!decide (Qbp p cut=0)) rfl (fun c8=>?_) (fun c8=>?_)))))))))))
 ·
  replace c8:=Qby c8
  replace c8:=QQ2 c8
  refine Qag (Qab (Qaa (Qcr (vs:=[]) (cs:=(vc vzero)++[(.slice none 0 0:Value),(.slice none 0 0:Value) ]) [vc vzero,[(.slice none 0 0:Value)],[(.slice none 0 0:Value)]] [vc vzero,[(.slice none 0 0:Value)],[(.slice none 0 0:Value)]] Qk7 rfl (rfl) rfl rfl (Qaa (Qac (V:=I6 (Qbp p cut)) rfl (Qaa (QcG (V:=.agg ((vc vzero)++[(.slice none 0 0:Value),(.slice none 0 0:Value) ]).toArray) (vs:=(vc vzero)++[(.slice none 0 0:Value),(.slice none 0 0:Value) ]) (cs':=(vc vzero)++[(.slice none 0 0:Value),(.slice none 0 0:Value) ]) QbS.1 hs 2 rfl rfl rfl rfl rfl (QQ8 rfl) (Qbh (QbQ _) (Qat rfl (Qat rfl Qa1))) (Qaz rfl) fun w9 hs=>?_)))))))
  replace hs:Own w no w9 [blk b1 (((vc p.base.known)++[(.slice a1 p.base.ents.length c1:Value),(.slice a2 p.base.ticks.length c2:Value) ])++[(.slice a3 p.ops.length c3:Value) ]++(vc p.known)) 43,blk b3 (vc cut) 24,blk b5 ((vc vzero)++[(.slice none 0 0:Value),(.slice none 0 0:Value) ]) 38]:=hs
  refine Qaa (Qad (V:=I6 (Qbp p cut)) rfl (Qae (Qav ?_)))
  refine ⟨_,Qci (cs:=(vc vzero)++[(.slice none 0 0:Value),(.slice none 0 0:Value) ]) (V:=I6 (Qbp p cut)) Tryz.results12 QbS hs 2 rfl rfl rfl rfl,?_⟩
  rw [Ql6 c8]
  exact ⟨((none,0),(none,0)),rfl,((hs.take 0).more _ (Qba _ _ 106 7)).more _ (Qba _ _ 102 2),trivial⟩
 replace c8:=Qbr c8
 replace c8:=QQ1 c8
 refine Qap (Qag (Qab (Qaa (QaL (cs:=[.slice none 0 0]) Qva rfl hs fun b10 w11 hs=>?_))))
 replace hs:Own w no w11 [blk b1 (((vc p.base.known)++[(.slice a1 p.base.ents.length c1:Value),(.slice a2 p.base.ticks.length c2:Value) ])++[(.slice a3 p.ops.length c3:Value) ]++(vc p.known)) 43,blk b3 (vc cut) 24,blk b5 ((vc vzero)++[(.slice none 0 0:Value),(.slice none 0 0:Value) ]) 38,blk b10 [.slice none 0 0] 29]:=hs
 refine Qae (Qag (Qab (Qaa (Qgh rfl hs (Value.int .u16) (Value.int .u32) fun mr12 w13 hs=>(Qaa (Qad (V:=.map (some mr12)) rfl (Qae (Qag (Qag (Qab (Qaa (Qaf Qff rfl (Qaa (Qaf QcA rfl (Qaa (QaP (V:=.slice a2 p.base.ticks.length c2) Qfd hs 0 rfl rfl rfl (Qaa (Qa0 (n:=p.base.ticks.length) Qea (Rd.own' hr2 hs) (by simp) rfl (Qaa (Qac (V:=I6 0) rfl (Qae (Qan ?_))))))))))))))))))))))
 have hr0:=(Qga c8).1
 obtain ⟨hopsC,hrb⟩:=Qd6 hr0
 refine QaC (fun J μ J' w'=>∃ (Jo:Env) (k:Nat) (tm:List (Int × Int)),J'=upd (mix ([10]++sq 29 10) Jo J) 29 (I6 (k:Int))/\(k<=p.base.ticks.length)/\(tm=tk0 (p.base.ticks.take k))/\μ=p.base.ticks.length-k/\Own w no w' [blk b1 (((vc p.base.known)++[(.slice a1 p.base.ents.length c1:Value),(.slice a2 p.base.ticks.length c2:Value) ])++[(.slice a3 p.ops.length c3:Value) ]++(vc p.known)) 43,blk b3 (vc cut) 24,blk b5 ((vc vzero)++[(.slice none 0 0:Value),(.slice none 0 0:Value) ]) 38,blk b10 [.slice none 0 0] 29,QgC mr12 (Value.int .u16) (Value.int .u32) tm]) ?_ ?_
 ·exact ⟨_,_,0,[],Qak (Qao (ds:=([10]++sq 29 10)) (Agr.refl _ _)) rfl,(by omega),rfl,rfl,hs⟩
 rintro μ J' w14 ⟨Jo,k,tm,rfl,hk,htm,rfl,hs⟩
 refine Qag (Qab (Qaa (Qa2 rfl rfl (Qae (Qag (Qam (t:=decide ((k:Int)<((p.base.ticks.length:Nat):Int))) rfl (fun c15=>?_) (fun c15=>?_)))))))
 ·
  replace c15:=QQ1 c15
  refine Qap (Qag (Qan (Qag (Qab (Qaa (Qaw Qea QbN.1 (Rd.own' hr2 hs) rfl rfl (by omega) (by rw [QQ6];omega) (Qaa (Qbc (j:=0) (vs:=lsc (gd p.base.ticks k)) k QbN (Rd.own' hr2 hs) (Qa9 (by omega)) rfl rfl rfl (by omega) (Qaa (QaL (cs:=lsc (⟨0,0⟩:Lst)) QjR rfl hs fun b16 w17 hs=>(Qaa (QcG (V:=.agg (lsc (gd p.base.ticks k)).toArray) (vs:=lsc (gd p.base.ticks k)) (cs':=lsc (gd p.base.ticks k)) QbN.1 hs 5 rfl rfl rfl rfl rfl (QQ8 rfl) (Qcd _) (Qaz rfl) fun w18 hs=>(Qae (Qab (Qaa (Qac (V:=.map (some mr12)) rfl (Qaa (Qaf Qd7 rfl (Qaa (QaP (V:=I7 ((gd p.base.ticks k).cart)) Qar hs 5 rfl rfl rfl (Qaa (Qaf QdZ rfl (Qaa (QaP (V:=.int .u32 ((gd p.base.ticks k).tick)) QaN hs 5 rfl rfl rfl (Qaa (Qfz (k:=(gd p.base.ticks k).cart) (v:=(gd p.base.ticks k).tick) QhY Qn3 hs 4 rfl rfl rfl rfl fun w19 hs=>?_))))))))))))))))))))))))))
  replace hs:Own w no w19 [blk b1 (((vc p.base.known)++[(.slice a1 p.base.ents.length c1:Value),(.slice a2 p.base.ticks.length c2:Value) ])++[(.slice a3 p.ops.length c3:Value) ]++(vc p.known)) 43,blk b3 (vc cut) 24,blk b5 ((vc vzero)++[(.slice none 0 0:Value),(.slice none 0 0:Value) ]) 38,blk b10 [.slice none 0 0] 29,QgC mr12 (Value.int .u16) (Value.int .u32) (mput ((gd p.base.ticks k).cart) ((gd p.base.ticks k).tick) tm),blk b16 (lsc (gd p.base.ticks k)) 102]:=hs
  refine Qae (Qab (Qaa (QaD (a:=(k:Int)) (b:=1) (c:=((k+1:Nat):Int)) rfl rfl (Qaj (by omega) (by omega)) (Qaa (Qac (V:=I6 ((k+1:Nat):Int)) rfl (Qae ?_))))))
  refine ⟨_,?_,_,k+1,mput ((gd p.base.ticks k).cart) ((gd p.base.ticks k).tick) tm,Qak (Qao (ds:=([10]++sq 29 10)) (by repeat (first|exact Agr.refl _ _|refine Agr.upd ?_ rfl|refine Agr.mix ?_ rfl))) rfl,(by omega),(by rw [QoE (by omega),← htm]),rfl,hs.take 5⟩
  omega
 replace c15:=QQ2 c15
 refine QaJ (Qag (Qab (Qaa (Qaf Qff rfl (Qaa (Qaf Qc4 rfl (Qaa (QaP (V:=.slice a1 p.base.ents.length c1) Qgf hs 0 rfl rfl rfl (Qaa (Qbm (vs:=[.slice a1 p.base.ents.length c1]) (V:=fun x:Option Addr × Nat=>.slice x.1 (p.base.ents).length x.2) Qsu rfl rfl (QhQ _ a1 c1 p.base.ents (by omega) (Rd.own' hr1 hs)) hs fun x20 w21 hs _=>(Qaa (Qad (V:=.slice x20.1 ((p.base.ents).length) x20.2) rfl (Qae (Qag (Qag (Qab (Qaa (Qaf Qhk rfl (Qaa (QaP (V:=.slice a3 p.ops.length c3) QiM hs 0 rfl rfl rfl (Qaa (Qa0 (n:=p.ops.length) Qco (Rd.own' hr3 hs) (by simp) rfl (Qaa (Qac (V:=I6 0) rfl (Qae (Qan ?_))))))))))))))))))))))))))
 have htm0:tm=tk0 p.base.ticks:=by rw [htm,Qcw (by omega)]
 replace hs:=hs.more (row (.slice none 0 0) (List.map oc []) 98 23) (Qba _ _ _ _)
 refine QaC (fun J μ J' w'=>∃ (Jo:Env) (k2:Nat) (a8:Option Addr) (cb8:Nat) (l8:List Opn) (a7:Option Addr) (cb7:Nat) (L7:List Cen) (tm2:List (Int × Int)),J'=upd (upd (mix ([11,13]++sq 46 53) Jo J) 46 (I6 (k2:Int))) 11 (.slice a7 L7.length cb7)/\(k2<=p.ops.length)/\(l8=QaF (p.ops.take k2) cut)/\(L7=Qcb p.base.ents l8)/\(tm2=tkM (tk0 p.base.ticks) l8)/\(L7.length<=p.base.ents.length+k2)/\(l8.length<=k2)/\μ=p.ops.length-k2/\Own w no w' [blk b1 (((vc p.base.known)++[(.slice a1 p.base.ents.length c1:Value),(.slice a2 p.base.ticks.length c2:Value) ])++[(.slice a3 p.ops.length c3:Value) ]++(vc p.known)) 43,blk b3 (vc cut) 24,blk b5 ((vc vzero)++[(.slice none 0 0:Value),(.slice none 0 0:Value) ]) 38,blk b10 [.slice a8 l8.length cb8] 29,QgC mr12 (Value.int .u16) (Value.int .u32) tm2,row (.slice a7 L7.length cb7) (L7.map cec) 106 7,row (.slice a8 l8.length cb8) (l8.map oc) 98 23]) ?_ ?_
 ·exact ⟨_,_,0,none,0,[],x20.1,x20.2,p.base.ents,tm,Qak (Qak (Qao (ds:=([11,13]++sq 46 53)) (Agr.refl _ _)) rfl) rfl,(by omega),rfl,(by simp [Qcb]),(by rw [htm0];rfl),(by omega),(Nat.le_refl _),rfl,hs⟩
 rintro μ J' w22 ⟨Jo,k2,a8,cb8,l8,a7,cb7,L7,tm2,rfl,hk2,hl8,hL7,htm2,hn7,hn8,rfl,hs⟩
 refine Qag (Qab (Qaa (Qa2 rfl rfl (Qae (Qag (Qam (t:=decide ((k2:Int)<((p.ops.length:Nat):Int))) rfl (fun c23=>?_) (fun c23=>?_)))))))
 ·
  replace c23:=QQ1 c23
  refine Qap (Qag (Qan (Qag (Qab (Qaa (Qaw Qco QbB.1 (Rd.own' hr3 hs) rfl rfl (by omega) (by rw [QQ6];omega) (Qaa (Qbc (j:=0) (vs:=oc (gd p.ops k2)) k2 QbB (Rd.own' hr3 hs) (Qa9 (by omega)) rfl rfl rfl (by omega) (Qaa (QaL (cs:=oc (⟨(⟨0,0⟩:Dot),0,0,0,0,0,vzero⟩:Opn)) Qin rfl hs fun b24 w25 hs=>(Qaa (QcG (V:=.agg (oc (gd p.ops k2)).toArray) (vs:=oc (gd p.ops k2)) (cs':=oc (gd p.ops k2)) QbB.1 hs 7 rfl rfl rfl rfl rfl (QQ8 rfl) (Qc1 _) (Qaz rfl) fun w26 hs=>?_))))))))))))
  replace hs:Own w no w26 [blk b1 (((vc p.base.known)++[(.slice a1 p.base.ents.length c1:Value),(.slice a2 p.base.ticks.length c2:Value) ])++[(.slice a3 p.ops.length c3:Value) ]++(vc p.known)) 43,blk b3 (vc cut) 24,blk b5 ((vc vzero)++[(.slice none 0 0:Value),(.slice none 0 0:Value) ]) 38,blk b10 [.slice a8 l8.length cb8] 29,QgC mr12 (Value.int .u16) (Value.int .u32) tm2,row (.slice a7 L7.length cb7) (L7.map cec) 106 7,row (.slice a8 l8.length cb8) (l8.map oc) 98 23,blk b24 (oc (gd p.ops k2)) 98]:=hs
  refine Qae (Qag (Qag ?_))
  have hOk:=hoko _ (Qbz (l:=p.ops) (i:=k2) (by omega))
  have hdk:=hOk.1
  have hxk:=hOk.2.2.2.2.2.2
  refine Qab (Qaa (QaO (cs:=vc cut) Qbu hs 1 rfl rfl rfl (Qaa (Qaf Qbl rfl (Qaa (QbT (vs:=dc ((gd p.ops k2).dot)) QcE hs 7 rfl rfl rfl rfl (Qaa (Qas (vs:=[.agg (vc cut).toArray,.agg (dc ((gd p.ops k2).dot)).toArray]) (V:=.bool (Qbv cut ((gd p.ops k2).dot))) QmZ rfl rfl ?hc hs fun w27 hs=>?_))))))))
  case hc=>exact (Qf0 _ cut ((gd p.ops k2).dot) (by first|assumption|exact QcF (by omega) (by omega) (by omega) (by omega)))
  refine Qaa (Qbx rfl (Qae (Qam (t:=!(Qbv cut ((gd p.ops k2).dot))) rfl (fun c28=>?_) (fun c28=>?_))))
  ·
   replace c28:=Qby c28
   refine QaJ (Qab (Qaa (QaD (a:=(k2:Int)) (b:=1) (c:=((k2+1:Nat):Int)) rfl rfl (Qaj (by omega) (by omega)) (Qaa (Qac (V:=I6 ((k2+1:Nat):Int)) rfl (Qae ?_))))))
   refine ⟨_,?_,_,k2+1,a8,cb8,l8,a7,cb7,L7,tm2,Qak (Qak (Qao (ds:=([11,13]++sq 46 53)) (by repeat (first|exact Agr.refl _ _|refine Agr.upd ?_ rfl|refine Agr.mix ?_ rfl))) rfl) rfl,(by omega),(Qhj hl8 (by omega) c28),hL7,htm2,(by omega),(by omega),rfl,hs.take 7⟩
   omega
  replace c28:=Qbr c28
  refine Qap (Qag (Qab (Qaa (QaP (V:=.slice a8 l8.length cb8) QiM hs 3 rfl rfl rfl (Qaa (QaO (cs:=oc (gd p.ops k2)) QbB hs 7 rfl rfl rfl (Qaa (QhI (vals:=[.agg (oc (gd p.ops k2)).toArray]) (ls:=List.map oc ([gd p.ops k2]:List Opn)) Qi3 rfl rfl rfl (Qbj (enc:=oc) (fun _=>rfl) _) (QaV Qc1 _) (QQ8 rfl) hs fun b29 w30 hs=>(Qaa (Qdb (ls':=(l8++[gd p.ops k2]).map oc) (n:=(l8++[gd p.ops k2]).length) Qi3 hs 6 rfl rfl rfl (hs.rd 8 rfl) (QaV Qc1 _) (by simp only [QQ6,QQ7,List.length_cons,List.length_nil];omega) (by simp) (by simp) fun a31 c31 w32 hs=>(Qaa (QcQ (V:=.slice a31 ((l8++[gd p.ops k2]).length) c31) (cs':=[.slice a31 ((l8++[gd p.ops k2]).length) c31]) QiM hs 3 rfl rfl rfl rfl (QQ8 rfl) rfl fun w33 hs=>(Qae (Qag (Qab (Qaa (Qac (V:=.map (some mr12)) rfl (Qaa (Qaf Qem rfl (Qaa (QaP (V:=I7 ((gd p.ops k2).cart)) Qar hs 7 rfl rfl rfl (Qaa (Qac (V:=.map (some mr12)) rfl (Qaa (Qaf Qem rfl (Qaa (QaP (V:=I7 ((gd p.ops k2).cart)) Qar hs 7 rfl rfl rfl (Qaa (Qis (k:=(gd p.ops k2).cart) (z:=0) QhY Qn3 QtY (hs.mapf 4 rfl) rfl rfl (Qaa (Qaf Qhn rfl (Qaa (QaP (V:=.int .u32 ((gd p.ops k2).tick)) QaN hs 7 rfl rfl rfl (Qaa (QoA rfl rfl (Qaa (Qfz (k:=(gd p.ops k2).cart) (v:=max ((mget ((gd p.ops k2).cart) tm2).getD 0) ((gd p.ops k2).tick)) QhY Qn3 hs 4 rfl rfl rfl rfl fun w34 hs=>?_)))))))))))))))))))))))))))))))))))))
  replace hs:Own w no w34 [blk b1 (((vc p.base.known)++[(.slice a1 p.base.ents.length c1:Value),(.slice a2 p.base.ticks.length c2:Value) ])++[(.slice a3 p.ops.length c3:Value) ]++(vc p.known)) 43,blk b3 (vc cut) 24,blk b5 ((vc vzero)++[(.slice none 0 0:Value),(.slice none 0 0:Value) ]) 38,blk b10 [.slice a31 ((l8++[gd p.ops k2]).length) c31] 29,QgC mr12 (Value.int .u16) (Value.int .u32) (mput ((gd p.ops k2).cart) (max ((mget ((gd p.ops k2).cart) tm2).getD 0) ((gd p.ops k2).tick)) tm2),row (.slice a7 L7.length cb7) (L7.map cec) 106 7,row (.slice a31 ((l8++[gd p.ops k2]).length) c31) ((l8++[gd p.ops k2]).map oc) 98 23,blk b24 (oc (gd p.ops k2)) 98,row (.slice (some ⟨b29,0,none⟩) 1 1) ([gd p.ops k2].map oc) 98 23]:=hs
  refine Qae (Qag (Qbq [some 69,some 70,some 71,some 72,some 73,some 74,some 75,some 76,some 77,some 78,some 79,some 80,some 81] [] [0,1,3,7,15,31,63,127,255,511,1023,2047,4095] [pv (Pq b24 (0+2)),pv (.int .u8 ((gd p.ops k2).kind)),pv (.bool (decide ((gd p.ops k2).kind=1))),pv (.bool (decide ((gd p.ops k2).kind=1))),pg ((decide ((gd p.ops k2).kind=1)) == false) (Pq b24 (0+2)),pg ((decide ((gd p.ops k2).kind=1)) == false) (.int .u8 ((gd p.ops k2).kind)),pg ((decide ((gd p.ops k2).kind=1)) == false) (.bool (decide ((gd p.ops k2).kind=2))),pv (.bool ((decide ((gd p.ops k2).kind=1))||(decide ((gd p.ops k2).kind=2)))),pv (.bool ((decide ((gd p.ops k2).kind=1))||(decide ((gd p.ops k2).kind=2)))),pg (((decide ((gd p.ops k2).kind=1))||(decide ((gd p.ops k2).kind=2))) == false) (Pq b24 (0+2)),pg (((decide ((gd p.ops k2).kind=1))||(decide ((gd p.ops k2).kind=2))) == false) (.int .u8 ((gd p.ops k2).kind)),pg (((decide ((gd p.ops k2).kind=1))||(decide ((gd p.ops k2).kind=2))) == false) (.bool (decide ((gd p.ops k2).kind=4))),pv (.bool (QbA (gd p.ops k2)))] (fun _ _=>_) [12] (by kernel_rfl) hs ⟨?_,?_,?_,?_,?_,?_,?_,?_,?_,?_,?_,?_,?_,trivial⟩ ?_))
  ·exact oa [] fun D J w hs=>Qaf Qcc rfl (Zz hs)
  ·exact oa [0] fun D J w hs=>QaP (V:=.int .u8 ((gd p.ops k2).kind)) Qds hs 7 rfl rfl rfl (Zz hs)
  ·exact oa [1] fun D J w hs=>QaW rfl rfl (Zz hs)
  ·exact oa [2] fun D J w hs=>Qac (V:=.bool (decide ((gd p.ops k2).kind=1))) rfl (Zz hs)
  ·exact og [3] fun D J w hG hs=>Qaf Qcc rfl (Zz hs)
  ·exact oy [3,4] [4] fun D J w hG hs=>QaP (V:=.int .u8 ((gd p.ops k2).kind)) Qds hs 7 rfl rfl rfl (Zz hs)
  ·exact oy [3,5] [5] fun D J w hG hs=>QaW rfl rfl (Zz hs)
  ·exact oa [3,6] fun D J w hs=>Qb2 (h':=decide ((gd p.ops k2).kind=2)) rfl rfl rfl (Zz hs)
  ·exact oa [7] fun D J w hs=>Qac (V:=.bool ((decide ((gd p.ops k2).kind=1))||(decide ((gd p.ops k2).kind=2)))) rfl (Zz hs)
  ·exact og [8] fun D J w hG hs=>Qaf Qcc rfl (Zz hs)
  ·exact oy [8,9] [9] fun D J w hG hs=>QaP (V:=.int .u8 ((gd p.ops k2).kind)) Qds hs 7 rfl rfl rfl (Zz hs)
  ·exact oy [8,10] [10] fun D J w hG hs=>QaW rfl rfl (Zz hs)
  ·exact oa [8,11] fun D J w hs=>QaX (V:=.bool (((decide ((gd p.ops k2).kind=1))||(decide ((gd p.ops k2).kind=2)))||(decide ((gd p.ops k2).kind=4)))) (V':=.bool (QbA (gd p.ops k2))) (Qb2 (h':=decide ((gd p.ops k2).kind=4)) rfl rfl rfl ⟨rfl,rfl⟩) (congrArg Value.bool (Qnm _)) (Zz hs)
  rintro J1 w35 J2 hJ hs
  replace hJ:J2=upd (mix (sq 69 13) J1 _) 81 (.bool (QbA (gd p.ops k2))):=hJ
  subst hJ
  refine Qam (t:=QbA (gd p.ops k2)) rfl (fun c36=>?_) (fun c36=>?_)
  ·
   replace hs:=hs.more emp trivial
   refine QaH HM [some 82,some 83,some 84,some 85,some 86,some 87,some 88,some 89,some 90,some 91,some 92,some 93,some 94,some 95,some 96,some 97,some 11] [[],[],[],[],[],[],[],[],[],[],[],[],[],[],[96],[97],[97]] [0,0,2,0,8,0,32,0,128,0,512,0,2048,8190,16382,32767,65535] [pv (.slice a7 L7.length cb7),pv (Pq b24 (0+3)),pv (I7 ((gd p.ops k2).cart)),pv (Pq b24 (0+4)),pv (I7 ((gd p.ops k2).item)),pv (Pq b24 (0+5)),pv (I7 ((gd p.ops k2).qty)),pv (Pq b24 (0+2)),pv (.int .u8 ((gd p.ops k2).kind)),pv (Pq b24 (0+0)),pv (.agg (dc ((gd p.ops k2).dot)).toArray),pv (.agg (oc (gd p.ops k2)).toArray),pv (.int .u64 (QbG (gd p.ops k2))),pv (.agg (cec (⟨(gd p.ops k2).cart,(gd p.ops k2).item,(gd p.ops k2).qty,(gd p.ops k2).kind,(gd p.ops k2).dot,QbG (gd p.ops k2)⟩:Cen)).toArray),(true,fun J=>.slice (some ⟨(bOf (J 96)),0,none⟩) 1 1),(true,fun J=>.slice (aOf (J 97)) ((L7++[(⟨(gd p.ops k2).cart,(gd p.ops k2).item,(gd p.ops k2).qty,(gd p.ops k2).kind,(gd p.ops k2).dot,QbG (gd p.ops k2)⟩:Cen)]).length) (cOf (J 97))),(true,fun J=>.slice (aOf (J 97)) ((L7++[(⟨(gd p.ops k2).cart,(gd p.ops k2).item,(gd p.ops k2).qty,(gd p.ops k2).kind,(gd p.ops k2).dot,QbG (gd p.ops k2)⟩:Cen)]).length) (cOf (J 97)))] (fun D J=>[blk b1 (((vc p.base.known)++[(.slice a1 p.base.ents.length c1:Value),(.slice a2 p.base.ticks.length c2:Value) ])++[(.slice a3 p.ops.length c3:Value) ]++(vc p.known)) 43,blk b3 (vc cut) 24,blk b5 ((vc vzero)++[(.slice none 0 0:Value),(.slice none 0 0:Value) ]) 38,blk b10 [.slice a31 ((l8++[gd p.ops k2]).length) c31] 29,QgC mr12 (Value.int .u16) (Value.int .u32) (mput ((gd p.ops k2).cart) (max ((mget ((gd p.ops k2).cart) tm2).getD 0) ((gd p.ops k2).tick)) tm2),cond (D 15) (row (.slice (aOf (J 97)) ((L7++[(⟨(gd p.ops k2).cart,(gd p.ops k2).item,(gd p.ops k2).qty,(gd p.ops k2).kind,(gd p.ops k2).dot,QbG (gd p.ops k2)⟩:Cen)]).length) (cOf (J 97))) ((L7++[(⟨(gd p.ops k2).cart,(gd p.ops k2).item,(gd p.ops k2).qty,(gd p.ops k2).kind,(gd p.ops k2).dot,QbG (gd p.ops k2)⟩:Cen)]).map cec) 106 7) (row (.slice a7 L7.length cb7) (L7.map cec) 106 7),row (.slice a31 ((l8++[gd p.ops k2]).length) c31) ((l8++[gd p.ops k2]).map oc) 98 23,blk b24 (oc (gd p.ops k2)) 98,row (.slice (some ⟨b29,0,none⟩) 1 1) ([gd p.ops k2].map oc) 98 23,cond (D 14) (row (.slice (some ⟨(bOf (J 96)),0,none⟩) 1 1) ([(⟨(gd p.ops k2).cart,(gd p.ops k2).item,(gd p.ops k2).qty,(gd p.ops k2).kind,(gd p.ops k2).dot,QbG (gd p.ops k2)⟩:Cen)].map cec) 106 7) (emp)]) [16] (by kernel_rfl) hs ⟨?_,?_,?_,?_,?_,?_,?_,?_,?_,?_,?_,?_,?_,?_,?_,?_,?_,trivial⟩ ?_
   ·exact ob [] [16] rfl rfl fun D J w hs=>Qac (V:=.slice a7 L7.length cb7) rfl (Zz hs)
   ·exact oa [] fun D J w hs=>Qaf Qem rfl (Zz hs)
   ·exact oa [1] fun D J w hs=>QaP (V:=.int .u16 ((gd p.ops k2).cart)) Qar hs 7 rfl rfl rfl (Zz hs)
   ·exact oa [] fun D J w hs=>Qaf Qdh rfl (Zz hs)
   ·exact oa [3] fun D J w hs=>QaP (V:=.int .u16 ((gd p.ops k2).item)) Qar hs 7 rfl rfl rfl (Zz hs)
   ·exact oa [] fun D J w hs=>Qaf Qdj rfl (Zz hs)
   ·exact oa [5] fun D J w hs=>QaP (V:=.int .u16 ((gd p.ops k2).qty)) Qar hs 7 rfl rfl rfl (Zz hs)
   ·exact oa [] fun D J w hs=>Qaf Qcc rfl (Zz hs)
   ·exact oa [7] fun D J w hs=>QaP (V:=.int .u8 ((gd p.ops k2).kind)) Qds hs 7 rfl rfl rfl (Zz hs)
   ·exact oa [] fun D J w hs=>Qaf Qbl rfl (Zz hs)
   ·exact oa [9] fun D J w hs=>QbT (vs:=dc ((gd p.ops k2).dot)) QcE hs 7 rfl rfl rfl rfl (Zz hs)
   ·exact oa [] fun D J w hs=>QaO (cs:=oc (gd p.ops k2)) QbB hs 7 rfl rfl rfl (Zz hs)
   ·exact oa [11] fun D J w hs=>Qas (vs:=[.agg (oc (gd p.ops k2)).toArray]) (V:=.int .u64 (QbG (gd p.ops k2))) QtC rfl rfl (QhV _ (gd p.ops k2) hxk) hs fun _ hs=>Zz hs
   ·exact oa [2,4,6,8,10,12] fun D J w hs=>QbI (vs:=[(0,.int .u16 ((gd p.ops k2).cart)),(1,.int .u16 ((gd p.ops k2).item)),(2,.int .u16 ((gd p.ops k2).qty)),(3,.int .u8 ((gd p.ops k2).kind)),(4,.agg (dc ((gd p.ops k2).dot)).toArray),(5,.int .u64 (QbG (gd p.ops k2)))]) (cs:=cec (⟨(gd p.ops k2).cart,(gd p.ops k2).item,(gd p.ops k2).qty,(gd p.ops k2).kind,(gd p.ops k2).dot,QbG (gd p.ops k2)⟩:Cen)) QpB (rfl) rfl (Zz hs)
   ·exact oa [13] fun D J w hs=>QhI (vals:=[.agg (cec (⟨(gd p.ops k2).cart,(gd p.ops k2).item,(gd p.ops k2).qty,(gd p.ops k2).kind,(gd p.ops k2).dot,QbG (gd p.ops k2)⟩:Cen)).toArray]) (ls:=List.map cec ([(⟨(gd p.ops k2).cart,(gd p.ops k2).item,(gd p.ops k2).qty,(gd p.ops k2).kind,(gd p.ops k2).dot,QbG (gd p.ops k2)⟩:Cen)]:List Cen)) QeR rfl rfl rfl (Qbj (enc:=cec) (fun _=>rfl) _) (QaV Qbi _) (QQ8 rfl) hs fun _ _ hs=>⟨rfl,hs.put 9 (QQ8 rfl)⟩
   ·exact oa [0,14] fun D J w hs=>Qdb (ls':=(L7++[(⟨(gd p.ops k2).cart,(gd p.ops k2).item,(gd p.ops k2).qty,(gd p.ops k2).kind,(gd p.ops k2).dot,QbG (gd p.ops k2)⟩:Cen)]).map cec) (n:=(L7++[(⟨(gd p.ops k2).cart,(gd p.ops k2).item,(gd p.ops k2).qty,(gd p.ops k2).kind,(gd p.ops k2).dot,QbG (gd p.ops k2)⟩:Cen)]).length) QeR hs 5 rfl rfl rfl (hs.rd 9 rfl) (QaV Qbi _) (by simp only [QQ6,QQ7,List.length_cons,List.length_nil];omega) (by simp) (by simp) fun _ _ _ hs=>⟨rfl,hs⟩
   ·exact oa [15] fun D J w hs=>Qad (V:=.slice (aOf (J 97)) ((L7++[(⟨(gd p.ops k2).cart,(gd p.ops k2).item,(gd p.ops k2).qty,(gd p.ops k2).kind,(gd p.ops k2).dot,QbG (gd p.ops k2)⟩:Cen)]).length) (cOf (J 97))) rfl (Zz hs)
   rintro J1 w40 J2 hJ hs
   replace hJ:J2=upd (mix (sq 82 16++[11]) J1 _) 11 (.slice (aOf (J1 97)) ((L7++[(⟨(gd p.ops k2).cart,(gd p.ops k2).item,(gd p.ops k2).qty,(gd p.ops k2).kind,(gd p.ops k2).dot,QbG (gd p.ops k2)⟩:Cen)]).length) (cOf (J1 97))):=hJ
   replace hs:Own w no w40 [blk b1 (((vc p.base.known)++[(.slice a1 p.base.ents.length c1:Value),(.slice a2 p.base.ticks.length c2:Value) ])++[(.slice a3 p.ops.length c3:Value) ]++(vc p.known)) 43,blk b3 (vc cut) 24,blk b5 ((vc vzero)++[(.slice none 0 0:Value),(.slice none 0 0:Value) ]) 38,blk b10 [.slice a31 ((l8++[gd p.ops k2]).length) c31] 29,QgC mr12 (Value.int .u16) (Value.int .u32) (mput ((gd p.ops k2).cart) (max ((mget ((gd p.ops k2).cart) tm2).getD 0) ((gd p.ops k2).tick)) tm2),row (.slice (aOf (J1 97)) ((L7++[(⟨(gd p.ops k2).cart,(gd p.ops k2).item,(gd p.ops k2).qty,(gd p.ops k2).kind,(gd p.ops k2).dot,QbG (gd p.ops k2)⟩:Cen)]).length) (cOf (J1 97))) ((L7++[(⟨(gd p.ops k2).cart,(gd p.ops k2).item,(gd p.ops k2).qty,(gd p.ops k2).kind,(gd p.ops k2).dot,QbG (gd p.ops k2)⟩:Cen)]).map cec) 106 7,row (.slice a31 ((l8++[gd p.ops k2]).length) c31) ((l8++[gd p.ops k2]).map oc) 98 23,blk b24 (oc (gd p.ops k2)) 98,row (.slice (some ⟨b29,0,none⟩) 1 1) ([gd p.ops k2].map oc) 98 23,row (.slice (some ⟨(bOf (J1 96)),0,none⟩) 1 1) ([(⟨(gd p.ops k2).cart,(gd p.ops k2).item,(gd p.ops k2).qty,(gd p.ops k2).kind,(gd p.ops k2).dot,QbG (gd p.ops k2)⟩:Cen)].map cec) 106 7]:=hs
   generalize (bOf (J1 96))=b41 at hs
   generalize (aOf (J1 97))=a42 at hJ hs
   generalize (cOf (J1 97))=c43 at hJ hs
   subst hJ
   refine Qab (Qaa (QaD (a:=(k2:Int)) (b:=1) (c:=((k2+1:Nat):Int)) rfl rfl (Qaj (by omega) (by omega)) (Qaa (Qac (V:=I6 ((k2+1:Nat):Int)) rfl (Qae ?_)))))
   refine ⟨_,?_,_,k2+1,a31,c31,l8++[gd p.ops k2],a42,c43,L7++[(⟨(gd p.ops k2).cart,(gd p.ops k2).item,(gd p.ops k2).qty,(gd p.ops k2).kind,(gd p.ops k2).dot,QbG (gd p.ops k2)⟩:Cen)],mput ((gd p.ops k2).cart) (max ((mget ((gd p.ops k2).cart) tm2).getD 0) ((gd p.ops k2).tick)) tm2,Qak (Qak (Qao (ds:=([11,13]++sq 46 53)) (by repeat (first|exact Agr.refl _ _|refine Agr.upd ?_ rfl|refine Agr.mix ?_ rfl))) rfl) rfl,(by omega),(Qey hl8 (by omega) c28),(by rw [hL7];exact Qkr c36),(by rw [Qhy,← htm2]),(by simp only [QQ7,List.length_singleton];omega),(by simp only [QQ7,List.length_singleton];omega),rfl,hs.take 7⟩
   omega
  refine Qap (Qab (Qaa (QaD (a:=(k2:Int)) (b:=1) (c:=((k2+1:Nat):Int)) rfl rfl (Qaj (by omega) (by omega)) (Qaa (Qac (V:=I6 ((k2+1:Nat):Int)) rfl (Qae ?_))))))
  refine ⟨_,?_,_,k2+1,a31,c31,l8++[gd p.ops k2],a7,cb7,L7,mput ((gd p.ops k2).cart) (max ((mget ((gd p.ops k2).cart) tm2).getD 0) ((gd p.ops k2).tick)) tm2,Qak (Qak (Qao (ds:=([11,13]++sq 46 53)) (by repeat (first|exact Agr.refl _ _|refine Agr.upd ?_ rfl|refine Agr.mix ?_ rfl))) rfl) rfl,(by omega),(Qey hl8 (by omega) c28),(by rw [hL7];exact QlS c36),(by rw [Qhy,← htm2]),(by omega),(by simp only [QQ7,List.length_singleton];omega),rfl,hs.take 7⟩
  omega
 replace c23:=QQ2 c23
 refine QaJ (Qag ?_)
 have hu:l8=QaF p.ops cut:=by rw [hl8,Qcw (by omega)]
 have hus:∀ o∈l8,o∈p.ops:=fun o h=>by rw [hu] at h;exact Qc3 h
 have hdt:∀ x∈L7,QcZ x.dot:=by rw [hL7];exact QkG hok hus
 have htl:tm2.length<=10000:=by have:=Qri hok hr0 l8 hus;rw [← htm2] at this;omega
 have hfl:=List.length_filter_le (fun x=>!(fun x=>l8.any fun o=>QaB o (QaE x)) x) L7
 refine Qab (Qaa (Qac (V:=.slice a7 L7.length cb7) rfl (Qaa (QcX (cs:=[Pq b10 0]) rfl rfl (Qaa (Qjl (α:=Unit) (vs:=[.slice a7 L7.length cb7,.func (.func 43) #[] #[Pq b10 0]]) (V:=fun _=>.slice a7 (L7.filter fun x=>!(fun x=>l8.any fun o=>QaB o (QaE x)) x).length cb7) (R:=row (.slice a7 L7.length cb7) (L7.map cec) 106 7) (R':=fun _=>row (.slice a7 (L7.filter fun x=>!(fun x=>l8.any fun o=>QaB o (QaE x)) x).length cb7) ((L7.filter fun x=>!(fun x=>l8.any fun o=>QaB o (QaE x)) x).map cec) 106 7) (Lo:=fun _=>[]) (F:=fun _ _=>True) Qt1 rfl rfl hs 5 rfl (fun S hS hlS hK=>QhL _ S a7 cb7 L7 43 [Pq b10 0] Qve (fun x=>l8.any fun o=>QaB o (QaE x)) (fun w1 L1 h x hx=>Qmd w1 x b10 a8 cb8 l8 (hdt x hx) ((hK 3 (by decide) _ rfl).cells h) ((hK 6 (by decide) _ rfl).rd h)) hS hlS) fun _ w44 hs _=>(Qaa (Qad (V:=.slice a7 ((L7.filter fun x=>!(fun x=>l8.any fun o=>QaB o (QaE x)) x).length) cb7) rfl (Qae (Qag (Qab (Qaa (Qac (V:=.slice a7 ((L7.filter fun x=>!(fun x=>l8.any fun o=>QaB o (QaE x)) x).length) cb7) rfl (Qaa (Qbs (α:={ m:List Cen // Qj4 (L7.filter fun x=>!(fun x=>l8.any fun o=>QaB o (QaE x)) x) m }) (vs:=[.slice a7 ((L7.filter fun x=>!(fun x=>l8.any fun o=>QaB o (QaE x)) x).length) cb7,.func (.func 49) #[] #[]]) (V:=fun _=>.tuple #[]) (R:=row (.slice a7 ((L7.filter fun x=>!(fun x=>l8.any fun o=>QaB o (QaE x)) x).length) cb7) ((L7.filter fun x=>!(fun x=>l8.any fun o=>QaB o (QaE x)) x).map cec) 106 7) (R':=fun x=>row (.slice a7 ((L7.filter fun x=>!(fun x=>l8.any fun o=>QaB o (QaE x)) x).length) cb7) (x.1.map cec) 106 7) (Lo:=fun _=>[]) (F:=fun _ _=>True) Qui rfl rfl hs 5 rfl (fun S hS hlt=>hsortE _ S _ _ _ hS hlt (by omega)) fun sx46 w45 hs _=>?_)))))))))))))))
 replace hs:Own w no w45 [blk b1 (((vc p.base.known)++[(.slice a1 p.base.ents.length c1:Value),(.slice a2 p.base.ticks.length c2:Value) ])++[(.slice a3 p.ops.length c3:Value) ]++(vc p.known)) 43,blk b3 (vc cut) 24,blk b5 ((vc vzero)++[(.slice none 0 0:Value),(.slice none 0 0:Value) ]) 38,blk b10 [.slice a8 l8.length cb8] 29,QgC mr12 (Value.int .u16) (Value.int .u32) tm2,row (.slice a7 ((L7.filter fun x=>!(fun x=>l8.any fun o=>QaB o (QaE x)) x).length) cb7) (sx46.1.map cec) 106 7,row (.slice a8 l8.length cb8) (l8.map oc) 98 23]:=hs
 refine Qae (Qag (Qab (Qaa (QaO (cs:=vc cut) Qbu hs 1 rfl rfl rfl (Qaa (Qac (V:=.slice a7 ((L7.filter fun x=>!(fun x=>l8.any fun o=>QaB o (QaE x)) x).length) cb7) rfl (Qaa (Qcr (vs:=[(0,.agg (vc cut).toArray),(1,.slice a7 ((L7.filter fun x=>!(fun x=>l8.any fun o=>QaB o (QaE x)) x).length) cb7)]) (cs:=(vc cut)++[(.slice a7 ((L7.filter fun x=>!(fun x=>l8.any fun o=>QaB o (QaE x)) x).length) cb7:Value),(.slice none 0 0:Value) ]) [vc vzero,[(.slice none 0 0:Value)],[(.slice none 0 0:Value)]] [vc cut,[(.slice a7 ((L7.filter fun x=>!(fun x=>l8.any fun o=>QaB o (QaE x)) x).length) cb7:Value)],[(.slice none 0 0:Value)]] Qk7 rfl (rfl) rfl rfl (Qaa (QaL (cs:=(vc vzero)++[(.slice none 0 0:Value),(.slice none 0 0:Value) ]) Qfr rfl hs fun b47 w48 hs=>(Qaa (QcG (V:=.agg ((vc cut)++[(.slice a7 ((L7.filter fun x=>!(fun x=>l8.any fun o=>QaB o (QaE x)) x).length) cb7:Value),(.slice none 0 0:Value) ]).toArray) (vs:=(vc cut)++[(.slice a7 ((L7.filter fun x=>!(fun x=>l8.any fun o=>QaB o (QaE x)) x).length) cb7:Value),(.slice none 0 0:Value) ]) (cs':=(vc cut)++[(.slice a7 ((L7.filter fun x=>!(fun x=>l8.any fun o=>QaB o (QaE x)) x).length) cb7:Value),(.slice none 0 0:Value) ]) QbS.1 hs 7 rfl rfl rfl rfl rfl (QQ8 rfl) (Qbh (QbQ _) (Qat rfl (Qat rfl Qa1))) (Qaz rfl) fun w49 hs=>(Qae (Qag (Qag (Qab (Qaa (Qac (V:=.map (some mr12)) rfl (Qaa (Qbm (vs:=[.map (some mr12)]) (V:=fun x:Option Addr × Nat=>.slice x.1 (Qa6 (tm2.map (·.1))).length x.2) Quo rfl rfl (QlI _ mr12 tm2 (hs.mapf 4 rfl) (by omega) hsortU) hs fun x50 w51 hs _=>(Qaa (Qa0 (n:=(Qa6 (tm2.map (·.1))).length) QaK (hs.rd 8 rfl) (by simp) rfl (Qaa (Qac (V:=I6 0) rfl (Qae (Qan ?_))))))))))))))))))))))))))
 have hks:(Qa6 (tm2.map (·.1))).length<=10000:=by rw [QeB,QQ6];exact htl
 replace hs:=hs.more (row (.slice none 0 0) (List.map lsc []) 102 2) (Qba _ _ _ _)
 refine QaC (fun J μ J' w'=>∃ (Jo:Env) (k3:Nat) (a9:Option Addr) (cb9:Nat) (T9:List Lst),J'=upd (mix ([16]++sq 110 15) Jo J) 110 (I6 (k3:Int))/\(k3<=(Qa6 (tm2.map (·.1))).length)/\(T9=((Qa6 (tm2.map (·.1))).take k3).map (tkL tm2))/\(T9.length<=k3)/\μ=(Qa6 (tm2.map (·.1))).length-k3/\Own w no w' [blk b1 (((vc p.base.known)++[(.slice a1 p.base.ents.length c1:Value),(.slice a2 p.base.ticks.length c2:Value) ])++[(.slice a3 p.ops.length c3:Value) ]++(vc p.known)) 43,blk b3 (vc cut) 24,blk b5 ((vc vzero)++[(.slice none 0 0:Value),(.slice none 0 0:Value) ]) 38,blk b10 [.slice a8 l8.length cb8] 29,QgC mr12 (Value.int .u16) (Value.int .u32) tm2,row (.slice a7 ((L7.filter fun x=>!(fun x=>l8.any fun o=>QaB o (QaE x)) x).length) cb7) (sx46.1.map cec) 106 7,row (.slice a8 l8.length cb8) (l8.map oc) 98 23,blk b47 ((vc cut)++[(.slice a7 ((L7.filter fun x=>!(fun x=>l8.any fun o=>QaB o (QaE x)) x).length) cb7:Value),(.slice a9 T9.length cb9:Value) ]) 38,row (.slice x50.1 ((Qa6 (tm2.map (·.1))).length) x50.2) ((Qa6 (tm2.map (·.1))).map (ic .u16)) 32 1,row (.slice a9 T9.length cb9) (T9.map lsc) 102 2]) ?_ ?_
 ·exact ⟨_,_,0,none,0,[],Qak (Qao (ds:=([16]++sq 110 15)) (Agr.refl _ _)) rfl,(by omega),rfl,(Nat.le_refl _),rfl,hs⟩
 rintro μ J' w52 ⟨Jo,k3,a9,cb9,T9,rfl,hk3,hT9,hn9,rfl,hs⟩
 refine Qag (Qab (Qaa (Qa2 rfl rfl (Qae (Qag (Qam (t:=decide ((k3:Int)<(((Qa6 (tm2.map (·.1))).length:Nat):Int))) rfl (fun c53=>?_) (fun c53=>?_)))))))
 ·
  replace c53:=QQ1 c53
  refine Qap (Qag (Qan (Qag (Qab (Qaa (Qaw QaK Qar.1 (hs.rd 8 rfl) rfl rfl (by omega) (by rw [QQ6];omega) (Qaa (QaU (j:=0) (V:=I7 (gd (Qa6 (tm2.map (·.1))) k3)) k3 Qar (hs.rd 8 rfl) (Qa9 (by omega)) rfl rfl (by omega) (Qaa (Qad (V:=I7 (gd (Qa6 (tm2.map (·.1))) k3)) rfl (Qae (Qab (Qaa (Qaf QcA rfl (Qaa (QaP (V:=.slice a9 T9.length cb9) Qfd hs 7 rfl rfl rfl (Qaa (Qac (V:=I7 (gd (Qa6 (tm2.map (·.1))) k3)) rfl (Qaa (Qac (V:=.map (some mr12)) rfl (Qaa (Qac (V:=I7 (gd (Qa6 (tm2.map (·.1))) k3)) rfl (Qaa (Qis (k:=gd (Qa6 (tm2.map (·.1))) k3) (z:=0) QhY Qn3 QtY (hs.mapf 4 rfl) rfl rfl (Qaa (QbI (vs:=[(0,I7 (gd (Qa6 (tm2.map (·.1))) k3)),(1,.int .u32 ((mget (gd (Qa6 (tm2.map (·.1))) k3) tm2).getD 0))]) (cs:=lsc (⟨gd (Qa6 (tm2.map (·.1))) k3,(mget (gd (Qa6 (tm2.map (·.1))) k3) tm2).getD 0⟩:Lst)) QpP (rfl) rfl (Qaa (QhI (vals:=[.agg (lsc (⟨gd (Qa6 (tm2.map (·.1))) k3,(mget (gd (Qa6 (tm2.map (·.1))) k3) tm2).getD 0⟩:Lst)).toArray]) (ls:=List.map lsc ([(⟨gd (Qa6 (tm2.map (·.1))) k3,(mget (gd (Qa6 (tm2.map (·.1))) k3) tm2).getD 0⟩:Lst)]:List Lst)) Qgs rfl rfl rfl (Qbj (enc:=lsc) (fun _=>rfl) _) (QaV Qcd _) (QQ8 rfl) hs fun b54 w55 hs=>?_))))))))))))))))))))))))))))
  replace hs:Own w no w55 [blk b1 (((vc p.base.known)++[(.slice a1 p.base.ents.length c1:Value),(.slice a2 p.base.ticks.length c2:Value) ])++[(.slice a3 p.ops.length c3:Value) ]++(vc p.known)) 43,blk b3 (vc cut) 24,blk b5 ((vc vzero)++[(.slice none 0 0:Value),(.slice none 0 0:Value) ]) 38,blk b10 [.slice a8 l8.length cb8] 29,QgC mr12 (Value.int .u16) (Value.int .u32) tm2,row (.slice a7 ((L7.filter fun x=>!(fun x=>l8.any fun o=>QaB o (QaE x)) x).length) cb7) (sx46.1.map cec) 106 7,row (.slice a8 l8.length cb8) (l8.map oc) 98 23,blk b47 ((vc cut)++[(.slice a7 ((L7.filter fun x=>!(fun x=>l8.any fun o=>QaB o (QaE x)) x).length) cb7:Value),(.slice a9 T9.length cb9:Value) ]) 38,row (.slice x50.1 ((Qa6 (tm2.map (·.1))).length) x50.2) ((Qa6 (tm2.map (·.1))).map (ic .u16)) 32 1,row (.slice a9 T9.length cb9) (T9.map lsc) 102 2,row (.slice (some ⟨b54,0,none⟩) 1 1) ([(⟨gd (Qa6 (tm2.map (·.1))) k3,(mget (gd (Qa6 (tm2.map (·.1))) k3) tm2).getD 0⟩:Lst)].map lsc) 102 2]:=hs
  refine Qaa (Qdb (ls':=(T9++[(⟨gd (Qa6 (tm2.map (·.1))) k3,(mget (gd (Qa6 (tm2.map (·.1))) k3) tm2).getD 0⟩:Lst)]).map lsc) (n:=(T9++[(⟨gd (Qa6 (tm2.map (·.1))) k3,(mget (gd (Qa6 (tm2.map (·.1))) k3) tm2).getD 0⟩:Lst)]).length) Qgs hs 9 rfl rfl rfl (hs.rd 10 rfl) (QaV Qcd _) (by simp only [QQ6,QQ7,List.length_cons,List.length_nil];omega) (by simp) (by simp) fun a56 c56 w57 hs=>(Qaa (Qaf QcA rfl (Qaa (QcQ (V:=.slice a56 ((T9++[(⟨gd (Qa6 (tm2.map (·.1))) k3,(mget (gd (Qa6 (tm2.map (·.1))) k3) tm2).getD 0⟩:Lst)]).length) c56) (cs':=(vc cut)++[(.slice a7 ((L7.filter fun x=>!(fun x=>l8.any fun o=>QaB o (QaE x)) x).length) cb7:Value),(.slice a56 ((T9++[(⟨gd (Qa6 (tm2.map (·.1))) k3,(mget (gd (Qa6 (tm2.map (·.1))) k3) tm2).getD 0⟩:Lst)]).length) c56:Value) ]) Qfd hs 7 rfl rfl rfl rfl (QQ8 rfl) rfl fun w58 hs=>(Qae (Qab (Qaa (QaD (a:=(k3:Int)) (b:=1) (c:=((k3+1:Nat):Int)) rfl rfl (Qaj (by omega) (by omega)) (Qaa (Qac (V:=I6 ((k3+1:Nat):Int)) rfl (Qae ?_))))))))))))
  refine ⟨_,?_,_,k3+1,a56,c56,T9++[(⟨gd (Qa6 (tm2.map (·.1))) k3,(mget (gd (Qa6 (tm2.map (·.1))) k3) tm2).getD 0⟩:Lst)],Qak (Qao (ds:=([16]++sq 110 15)) (by repeat (first|exact Agr.refl _ _|refine Agr.upd ?_ rfl|refine Agr.mix ?_ rfl))) rfl,(by omega),(QjE (f:=tkL tm2) hT9 (by omega)),(by simp only [QQ7,List.length_singleton];omega),rfl,hs.take 10⟩
  omega
 replace c53:=QQ2 c53
 refine QaJ (Qag (Qab (Qaa (QaO (cs:=(vc cut)++[(.slice a7 ((L7.filter fun x=>!(fun x=>l8.any fun o=>QaB o (QaE x)) x).length) cb7:Value),(.slice a9 T9.length cb9:Value) ]) QbS hs 7 rfl rfl rfl (Qaa (QcG (V:=.agg ((vc cut)++[(.slice a7 ((L7.filter fun x=>!(fun x=>l8.any fun o=>QaB o (QaE x)) x).length) cb7:Value),(.slice a9 T9.length cb9:Value) ]).toArray) (vs:=(vc cut)++[(.slice a7 ((L7.filter fun x=>!(fun x=>l8.any fun o=>QaB o (QaE x)) x).length) cb7:Value),(.slice a9 T9.length cb9:Value) ]) (cs':=(vc cut)++[(.slice a7 ((L7.filter fun x=>!(fun x=>l8.any fun o=>QaB o (QaE x)) x).length) cb7:Value),(.slice a9 T9.length cb9:Value) ]) QbS.1 hs 2 rfl rfl rfl rfl rfl (QQ8 rfl) (Qbh (QbQ _) (Qat rfl (Qat rfl Qa1))) (Qaz rfl) fun w59 hs=>?_))))))
 replace hs:Own w no w59 [blk b1 (((vc p.base.known)++[(.slice a1 p.base.ents.length c1:Value),(.slice a2 p.base.ticks.length c2:Value) ])++[(.slice a3 p.ops.length c3:Value) ]++(vc p.known)) 43,blk b3 (vc cut) 24,blk b5 ((vc cut)++[(.slice a7 ((L7.filter fun x=>!(fun x=>l8.any fun o=>QaB o (QaE x)) x).length) cb7:Value),(.slice a9 T9.length cb9:Value) ]) 38,blk b10 [.slice a8 l8.length cb8] 29,QgC mr12 (Value.int .u16) (Value.int .u32) tm2,row (.slice a7 ((L7.filter fun x=>!(fun x=>l8.any fun o=>QaB o (QaE x)) x).length) cb7) (sx46.1.map cec) 106 7,row (.slice a8 l8.length cb8) (l8.map oc) 98 23,blk b47 ((vc cut)++[(.slice a7 ((L7.filter fun x=>!(fun x=>l8.any fun o=>QaB o (QaE x)) x).length) cb7:Value),(.slice a9 T9.length cb9:Value) ]) 38,row (.slice x50.1 ((Qa6 (tm2.map (·.1))).length) x50.2) ((Qa6 (tm2.map (·.1))).map (ic .u16)) 32 1,row (.slice a9 T9.length cb9) (T9.map lsc) 102 2]:=hs
 refine Qaa (Qad (V:=I6 0) rfl (Qae (Qav ?_)))
 refine ⟨_,Qci (cs:=(vc cut)++[(.slice a7 ((L7.filter fun x=>!(fun x=>l8.any fun o=>QaB o (QaE x)) x).length) cb7:Value),(.slice a9 T9.length cb9:Value) ]) (V:=I6 0) Tryz.results12 QbS hs 2 rfl rfl rfl rfl,?_⟩
 have hmz:=c8
 have hTT:T9=(Qa6 (tm2.map (·.1))).map (tkL tm2):=by rw [hT9,Qcw (by omega)]
 have hX:=Qjc hok hmz hu hL7 sx46.2 htm2 hTT
 have hml:=sx46.2.1.length_eq.symm
 rw [hX,hmz]
 rw [hml] at hs ⊢
 exact ⟨((a7,cb7),(a9,cb9)),rfl,hs.two 5 9 (by decide) rfl rfl,trivial⟩
end Tt
end Go.Proofs
namespace Go.Proofs
open Go Go.Vx Go.RowKit
namespace Tt
theorem Qpq (w:World) (a:Option Addr) (c:Nat) (l:List Opn) (d:Dot) (hr:Rd w (.slice a l.length c) 23 (l.map oc)):Calls Tryz.prog 113 #[.slice a l.length c,.agg (dc d).toArray] w (fun e w'=>e = .returned (.bool (l.any fun o=>decide (o.dot=d)))/\Own w no w' []):=by
 refine Qai (n:=19) Tryz.func113 rfl Tryz.ntmps113 rfl ?_
 have hs:=Own.start w
 have hn:=hr.sml
 refine Qag (Qab (Qaa (Qa4 (V:=.agg (dc d).toArray) (cs:=dc d) rfl rfl hs fun b1 w2 hs=>(Qaa (Qad (V:=.bool false) rfl (Qae (Qag (Qag (Qab (Qaa (Qad (V:=I6 0) rfl (Qae (Qan (QaC (fun J μ J' w'=>∃ (Jo:Env) (k:Nat),J'=upd (mix (sq 4 15) Jo J) 5 (I6 (k:Int))/\(k<=l.length)/\(∀ j:Nat,j<k->decide ((gd l j).dot=d)=false)/\μ=l.length-k/\Own w no w' [blk b1 (dc d) 96]) ?_ ?_))))))))))))))
 ·exact ⟨_,_,0,Qak (Qao (ds:=(sq 4 15)) (Agr.refl _ _)) rfl,(by omega),(fun j hj=>absurd hj (Nat.not_lt_zero j)),rfl,hs⟩
 rintro μ J' w3 ⟨Jo,k,rfl,hk,hno,rfl,hs⟩
 refine Qag (Qag (Qab (Qaa (Qac (V:=I6 (k:Int)) rfl (Qaa (Qac (V:=.slice a l.length c) rfl (Qaa (Qa0 (n:=l.length) Qco (Rd.own' hr hs) (by simp) rfl (Qaa (Qa2 rfl rfl (Qae (Qam (t:=decide ((k:Int)<((l.length:Nat):Int))) rfl (fun c4=>?_) (fun c4=>?_)))))))))))))
 ·
  replace c4:=QQ1 c4
  refine Qap (Qag (Qan (Qag (QaH HM [some 12,some 13,some 14,some 15,some 16,some 17,some 18] [] [0,0,3,7,15,0,63] [pv (.slice a l.length c),pv (I6 (k:Int)),pv (.pointer (some ⟨bkS (.slice a l.length c),ofS (.slice a l.length c)+(k:Int).toNat*23,none⟩)),pv (.pointer (some ⟨bkS (.slice a l.length c),ofS (.slice a l.length c)+(k:Int).toNat*23+0,none⟩)),pv (.agg (dc ((gd l k).dot)).toArray),pv (.agg (dc d).toArray),pv (.bool (decide ((gd l k).dot=d)))] (fun _ _=>_) [6] (by kernel_rfl) hs ⟨?_,?_,?_,?_,?_,?_,?_,trivial⟩ ?_))))
  ·exact oa [] fun D J w hs=>Qac (V:=.slice a l.length c) rfl (Zz hs)
  ·exact oa [] fun D J w hs=>Qac (V:=.int .i64 (k:Int)) rfl (Zz hs)
  ·exact oa [0,1] fun D J w hs=>Qaw Qco QbB.1 (Rd.own' hr hs) rfl rfl (by omega) (by rw [QQ6];omega) (Zz hs)
  ·exact oa [2] fun D J w hs=>Qaf Qbl rfl (Zz hs)
  ·exact oa [3] fun D J w hs=>Qbc (j:=0) (vs:=dc ((gd l k).dot)) k QcE (Rd.own' hr hs) (Qa9 (by omega)) rfl rfl rfl (by omega) (Zz hs)
  ·exact oa [] fun D J w hs=>QaO (cs:=dc d) QcE hs 0 rfl rfl rfl (Zz hs)
  ·exact oa [4,5] fun D J w hs=>Qqi (xs:=dc ((gd l k).dot)) (ys:=dc d) Tryz.eqGuardType96 (Qsb ((gd l k).dot) d) rfl rfl rfl (Zz hs)
  rintro J1 w5 J2 hJ hs
  replace hJ:J2=upd (mix (sq 12 7) J1 _) 18 (.bool (decide ((gd l k).dot=d))):=hJ
  subst hJ
  refine Qam (t:=decide ((gd l k).dot=d)) rfl (fun c6=>?_) (fun c6=>?_)
  ·
   replace c6:=QQ1 c6
   refine Qag (Qab (Qaa (Qad (V:=.bool true) rfl (Qae (Qav ?_)))))
   refine ⟨_,Qaq (V:=.bool true) Tryz.results113 rfl,(Zr hs ?_)⟩
   exact congrArg Value.bool (Qs6 (p:=fun o:Opn=>decide (o.dot=d)) (k:=k) (by omega) (QQ3 c6)).symm
  replace c6:=QQ2 c6
  refine Qap (Qab (Qaa (Qac (V:=I6 (k:Int)) rfl (Qaa (QaD (a:=(k:Int)) (b:=1) (c:=(k:Int)+1) rfl rfl (QbE (by omega) (by omega)) (Qaa (Qad (V:=I6 ((k:Int)+1)) rfl (Qae ?_))))))))
  refine ⟨_,?_,_,k+1,Qak (Qao (ds:=(sq 4 15)) (by repeat (first|exact Agr.refl _ _|refine Agr.upd ?_ rfl|refine Agr.mix ?_ rfl))) rfl,(by omega),(QqR (p:=fun o:Opn=>decide (o.dot=d)) hno (QQ4 c6)),rfl,hs.take 1⟩
  omega
 replace c4:=QQ2 c4
 refine QaJ (Qag (Qab (Qaa (Qad (V:=.bool false) rfl (Qae (Qav ?_))))))
 refine ⟨_,Qaq (V:=.bool false) Tryz.results113 rfl,(Zr hs ?_)⟩
 exact congrArg Value.bool (QnT (p:=fun o:Opn=>decide (o.dot=d)) fun j hj=>hno j (by omega)).symm
theorem Ql9 (w:World) (a:Option Addr) (c:Nat) (l:List Opn) (v:Vec) (rep:Int) (hl:∀ o∈l,Qb8 o) (hlen:l.length<=1000) (hr:Rd w (.slice a l.length c) 23 (l.map oc)):Calls Tryz.prog 114 #[.slice a l.length c,.agg (vc v).toArray,.int .i64 rep] w (fun e w'=>e = .returned (.int .u32 (Qg0 l v rep))/\Own w no w' []):=by
 refine Qai (n:=36) Tryz.func114 rfl Tryz.ntmps114 rfl ?_
 have hs:=Own.start w
 have hn:=hr.sml
 refine Qag (Qab (Qaa (Qa4 (V:=.agg (vc v).toArray) (cs:=vc v) rfl rfl hs fun b1 w2 hs=>(Qaa (Qad (V:=.int .u32 0) rfl (Qae (Qag (Qab (Qaa (Qad (V:=.int .u32 0) rfl (Qae (Qag (Qag (Qab (Qaa (Qad (V:=I6 0) rfl (Qae (Qan (QaC (fun J μ J' w'=>∃ (Jo:Env) (k:Nat) (n:Int),J'=upd (upd (mix (sq 7 28) Jo J) 8 (I6 (k:Int))) 7 (.int .u32 n)/\(k<=l.length)/\(n=Qg0 (l.take k) v rep)/\(0<=n/\n<=k)/\μ=l.length-k/\Own w no w' [blk b1 (vc v) 24]) ?_ ?_)))))))))))))))))))
 ·exact ⟨_,_,0,0,Qak (Qak (Qao (ds:=(sq 7 28)) (Agr.refl _ _)) rfl) rfl,(by omega),rfl,(by omega),rfl,hs⟩
 rintro μ J' w3 ⟨Jo,k,n,rfl,hk,hn2,hnb,rfl,hs⟩
 refine Qag (Qag (Qab (Qaa (Qac (V:=I6 (k:Int)) rfl (Qaa (Qac (V:=.slice a l.length c) rfl (Qaa (Qa0 (n:=l.length) Qco (Rd.own' hr hs) (by simp) rfl (Qaa (Qa2 rfl rfl (Qae (Qam (t:=decide ((k:Int)<((l.length:Nat):Int))) rfl (fun c4=>?_) (fun c4=>?_)))))))))))))
 ·
  replace c4:=QQ1 c4
  refine Qap (Qag (Qan (Qag ?_)))
  have hok:=hl _ (Qbz (l:=l) (i:=k) (by omega))
  have hdk:=hok.1
  have ⟨⟨hr1,hr2⟩,hr3,hr4⟩:=hdk
  refine QaH HM [some 15,some 16,some 17,some 18,some 19,some 20,some 21,some 22,some 23,some 24,some 25,some 26,some 27,some 28,some 29,some 30,some 31,some 32] [] [0,0,3,7,15,31,63,0,255,511,1023,1023,1023,7167,15359,31743,65535,131071] [pv (.slice a l.length c),pv (I6 (k:Int)),pv (.pointer (some ⟨bkS (.slice a l.length c),ofS (.slice a l.length c)+(k:Int).toNat*23,none⟩)),pv (.pointer (some ⟨bkS (.slice a l.length c),ofS (.slice a l.length c)+(k:Int).toNat*23+0,none⟩)),pv (.pointer (some ⟨bkS (.slice a l.length c),ofS (.slice a l.length c)+(k:Int).toNat*23+0+0,none⟩)),pv (.int .u8 (((gd l k).dot).rep)),pv (I6 (((gd l k).dot).rep)),pv (I6 rep),pv (.bool (decide (((gd l k).dot).rep=rep))),pv (.bool (decide (((gd l k).dot).rep=rep))),pg ((decide (((gd l k).dot).rep=rep)) == true) (.agg (vc v).toArray),pg ((decide (((gd l k).dot).rep=rep)) == true) (.slice a l.length c),pg ((decide (((gd l k).dot).rep=rep)) == true) (I6 (k:Int)),pg ((decide (((gd l k).dot).rep=rep)) == true) (.pointer (some ⟨bkS (.slice a l.length c),ofS (.slice a l.length c)+(k:Int).toNat*23,none⟩)),pg ((decide (((gd l k).dot).rep=rep)) == true) (.pointer (some ⟨bkS (.slice a l.length c),ofS (.slice a l.length c)+(k:Int).toNat*23+0,none⟩)),pg ((decide (((gd l k).dot).rep=rep)) == true) (.agg (dc ((gd l k).dot)).toArray),pg ((decide (((gd l k).dot).rep=rep)) == true) (.bool (Qbv v ((gd l k).dot))),pv (.bool ((decide (((gd l k).dot).rep=rep))&&(Qbv v ((gd l k).dot))))] (fun _ _=>_) [17] (by kernel_rfl) hs ⟨?_,?_,?_,?_,?_,?_,?_,?_,?_,?_,?_,?_,?_,?_,?_,?_,?_,?_,trivial⟩ ?_
  ·exact oa [] fun D J w hs=>Qac (V:=.slice a l.length c) rfl (Zz hs)
  ·exact oa [] fun D J w hs=>Qac (V:=.int .i64 (k:Int)) rfl (Zz hs)
  ·exact oa [0,1] fun D J w hs=>Qaw Qco QbB.1 (Rd.own' hr hs) rfl rfl (by omega) (by rw [QQ6];omega) (Zz hs)
  ·exact oa [2] fun D J w hs=>Qaf Qbl rfl (Zz hs)
  ·exact oa [3] fun D J w hs=>Qaf QbV rfl (Zz hs)
  ·exact oa [4] fun D J w hs=>QaU (j:=0) (V:=.int .u8 (((gd l k).dot).rep)) k Qds (Rd.own' hr hs) (Qa9 (by omega)) rfl rfl (by omega) (Zz hs)
  ·exact oa [5] fun D J w hs=>Qcg QuN QhH rfl (QbE (by omega) (by omega)) (Zz hs)
  ·exact oa [] fun D J w hs=>Qac (V:=.int .i64 rep) rfl (Zz hs)
  ·exact oa [6,7] fun D J w hs=>QaW rfl rfl (Zz hs)
  ·exact oa [8] fun D J w hs=>Qac (V:=.bool (decide (((gd l k).dot).rep=rep))) rfl (Zz hs)
  ·exact og [9] fun D J w hG hs=>QaO (cs:=vc v) Qbu hs 0 rfl rfl rfl (Zz hs)
  ·exact og [9] fun D J w hG hs=>Qac (V:=.slice a l.length c) rfl (Zz hs)
  ·exact og [9] fun D J w hG hs=>Qac (V:=.int .i64 (k:Int)) rfl (Zz hs)
  ·refine oy [9,11,12] [11,12] fun D J w hG hs=>?_
   have hgd:=QQ1 (eq_of_beq (hG))
   exact Qaw Qco QbB.1 (Rd.own' hr hs) rfl rfl (by omega) (by rw [QQ6];omega) (Zz hs)
  ·exact oy [9,13] [13] fun D J w hG hs=>Qaf Qbl rfl (Zz hs)
  ·refine oy [9,14] [14] fun D J w hG hs=>?_
   have hgd:=QQ1 (eq_of_beq (hG))
   exact Qbc (j:=0) (vs:=dc ((gd l k).dot)) k QcE (Rd.own' hr hs) (Qa9 (by omega)) rfl rfl rfl (by omega) (Zz hs)
  ·refine oy [9,10,15] [10,15] fun D J w hG hs=>?_
   have hgd:=QQ1 (eq_of_beq (hG))
   exact Qas (vs:=[.agg (vc v).toArray,.agg (dc ((gd l k).dot)).toArray]) (V:=.bool (Qbv v ((gd l k).dot))) QlT rfl rfl (QfZ _ v ((gd l k).dot) (by first|assumption|exact QcF (by omega) (by omega) (by omega) (by omega))) hs fun _ hs=>Zz hs
  ·exact oa [9,16] fun D J w hs=>Qbg (h':=Qbv v ((gd l k).dot)) rfl rfl rfl (Zz hs)
  rintro J1 w6 J2 hJ hs
  replace hJ:J2=upd (mix (sq 15 18) J1 _) 32 (.bool ((decide (((gd l k).dot).rep=rep))&&(Qbv v ((gd l k).dot)))):=hJ
  subst hJ
  refine Qam (t:=(decide (((gd l k).dot).rep=rep))&&(Qbv v ((gd l k).dot))) rfl (fun c7=>?_) (fun c7=>?_)
  ·
   have c7r:=Qcs c7
   replace c7:=QbY c7
   replace c7:=QQ1 c7
   refine Qab (Qaa (Qac (V:=.int .u32 n) rfl (Qaa (QaD (a:=n) (b:=1) (c:=n+1) rfl rfl (Qgt (by omega) (by omega)) (Qaa (Qad (V:=.int .u32 (n+1)) rfl (Qae (Qab (Qaa (Qac (V:=I6 (k:Int)) rfl (Qaa (QaD (a:=(k:Int)) (b:=1) (c:=(k:Int)+1) rfl rfl (QbE (by omega) (by omega)) (Qaa (Qad (V:=I6 ((k:Int)+1)) rfl (Qae ?_)))))))))))))))
   refine ⟨_,?_,_,k+1,n+1,Qak (Qak (Qao (ds:=(sq 7 28)) (by repeat (first|exact Agr.refl _ _|refine Agr.upd ?_ rfl|refine Agr.mix ?_ rfl))) rfl) rfl,(by omega),(QqA hn2 (by omega) c7 c7r),(by omega),rfl,hs.take 1⟩
   omega
  refine Qap (Qab (Qaa (Qac (V:=I6 (k:Int)) rfl (Qaa (QaD (a:=(k:Int)) (b:=1) (c:=(k:Int)+1) rfl rfl (QbE (by omega) (by omega)) (Qaa (Qad (V:=I6 ((k:Int)+1)) rfl (Qae ?_))))))))
  refine ⟨_,?_,_,k+1,n,Qak (Qak (Qao (ds:=(sq 7 28)) (by repeat (first|exact Agr.refl _ _|refine Agr.upd ?_ rfl|refine Agr.mix ?_ rfl))) rfl) rfl,(by omega),(QtT hn2 (by omega) c7),(by omega),rfl,hs.take 1⟩
  omega
 replace c4:=QQ2 c4
 refine QaJ (Qag (Qab (Qaa (Qac (V:=.int .u32 n) rfl (Qaa (Qad (V:=.int .u32 n) rfl (Qae (Qav ?_))))))))
 refine ⟨_,Qaq (V:=.int .u32 n) Tryz.results114 rfl,(Zr hs ?_)⟩
 rw [hn2,Qcw (by omega)]
theorem QfN (w:World) (a:Option Addr) (c:Nat) (l:List Opn) (hl:∀ o∈l,Qb8 o) (hlen:l.length<=1000) (hr:Rd w (.slice a l.length c) 23 (l.map oc)):Calls Tryz.prog 70 #[.slice a l.length c] w (fun e w'=>e = .returned (.bool (Qbb l))/\Own w no w' []):=by
 refine Qai (n:=57) Tryz.func70 rfl Tryz.ntmps70 rfl ?_
 have hs:=Own.start w
 have hn:=hr.sml
 refine Qag (Qab (Qaa (Qad (V:=.bool false) rfl (Qae (Qag (Qag (Qab (Qaa (Qad (V:=I6 0) rfl (Qae (Qan (QaC (fun J μ J' w'=>∃ (Jo:Env) (k:Nat),J'=upd (mix ([2,3]++sq 6 24) Jo J) 3 (I6 (k:Int))/\(k<=l.length)/\(∀ j:Nat,j<k->Qnw l j=false)/\μ=l.length-k/\Own w no w' []) ?_ ?_))))))))))))
 ·exact ⟨_,_,0,Qak (Qao (ds:=([2,3]++sq 6 24)) (Agr.refl _ _)) rfl,(by omega),(fun j hj=>absurd hj (Nat.not_lt_zero j)),rfl,hs⟩
 rintro μ J' w1 ⟨Jo,k,rfl,hk,hbad,rfl,hs⟩
 refine Qag (Qag (Qab (Qaa (Qac (V:=I6 (k:Int)) rfl (Qaa (Qac (V:=.slice a l.length c) rfl (Qaa (Qa0 (n:=l.length) Qco (Rd.own' hr hs) (by simp) rfl (Qaa (Qa2 rfl rfl (Qae (Qam (t:=decide ((k:Int)<((l.length:Nat):Int))) rfl (fun c2=>?_) (fun c2=>?_)))))))))))))
 ·
  replace c2:=QQ1 c2
  refine Qap (Qag (Qan (Qag ?_)))
  have hok:=hl _ (Qbz (l:=l) (i:=k) (by omega))
  have hdk:=hok.1
  refine QaH HM [some 12,some 13,some 14,some 15,some 16,some 17,some 18,some 19,some 20,some 21,some 22,some 23,some 24,some 25,some 26,some 27,some 28,some 29] [] [0,0,3,7,15,31,63,127,255,255,1023,255,255,6399,14591,30975,65535,131071] [pv (.slice a l.length c),pv (I6 (k:Int)),pv (.pointer (some ⟨bkS (.slice a l.length c),ofS (.slice a l.length c)+(k:Int).toNat*23,none⟩)),pv (.pointer (some ⟨bkS (.slice a l.length c),ofS (.slice a l.length c)+(k:Int).toNat*23+0,none⟩)),pv (.agg (dc ((gd l k).dot)).toArray),pv (.bool (QbJ ((gd l k).dot))),pv (.bool (!(QbJ ((gd l k).dot)))),pv (.bool (!(QbJ ((gd l k).dot)))),pg ((!(QbJ ((gd l k).dot))) == false) (.slice a l.length c),pg ((!(QbJ ((gd l k).dot))) == false) (I6 (k:Int)),pg ((!(QbJ ((gd l k).dot))) == false) (.slice (sla a 0 c 23) ((l.take k).length) (c-0)),pg ((!(QbJ ((gd l k).dot))) == false) (.slice a l.length c),pg ((!(QbJ ((gd l k).dot))) == false) (I6 (k:Int)),pg ((!(QbJ ((gd l k).dot))) == false) (.pointer (some ⟨bkS (.slice a l.length c),ofS (.slice a l.length c)+(k:Int).toNat*23,none⟩)),pg ((!(QbJ ((gd l k).dot))) == false) (.pointer (some ⟨bkS (.slice a l.length c),ofS (.slice a l.length c)+(k:Int).toNat*23+0,none⟩)),pg ((!(QbJ ((gd l k).dot))) == false) (.agg (dc ((gd l k).dot)).toArray),pg ((!(QbJ ((gd l k).dot))) == false) (.bool ((l.take k).any fun o=>decide (o.dot=(gd l k).dot))),pv (.bool ((!(QbJ ((gd l k).dot)))||((l.take k).any fun o=>decide (o.dot=(gd l k).dot))))] (fun _ _=>_) [17] (by kernel_rfl) hs ⟨?_,?_,?_,?_,?_,?_,?_,?_,?_,?_,?_,?_,?_,?_,?_,?_,?_,?_,trivial⟩ ?_
  ·exact oa [] fun D J w hs=>Qac (V:=.slice a l.length c) rfl (Zz hs)
  ·exact oa [] fun D J w hs=>Qac (V:=.int .i64 (k:Int)) rfl (Zz hs)
  ·exact oa [0,1] fun D J w hs=>Qaw Qco QbB.1 (Rd.own' hr hs) rfl rfl (by omega) (by rw [QQ6];omega) (Zz hs)
  ·exact oa [2] fun D J w hs=>Qaf Qbl rfl (Zz hs)
  ·exact oa [3] fun D J w hs=>Qbc (j:=0) (vs:=dc ((gd l k).dot)) k QcE (Rd.own' hr hs) (Qa9 (by omega)) rfl rfl rfl (by omega) (Zz hs)
  ·exact oa [4] fun D J w hs=>Qas (vs:=[.agg (dc ((gd l k).dot)).toArray]) (V:=.bool (QbJ ((gd l k).dot))) QlB rfl rfl (QiX _ ((gd l k).dot)) hs fun _ hs=>Zz hs
  ·exact oa [5] fun D J w hs=>Qbx rfl (Zz hs)
  ·exact oa [6] fun D J w hs=>Qac (V:=.bool (!(QbJ ((gd l k).dot)))) rfl (Zz hs)
  ·exact og [7] fun D J w hG hs=>Qac (V:=.slice a l.length c) rfl (Zz hs)
  ·exact og [7] fun D J w hG hs=>Qac (V:=.int .i64 (k:Int)) rfl (Zz hs)
  ·exact oy [7,8,9] [8,9] fun D J w hG hs=>Qk2 (l:=0) (h:=k) (m:=c) (n':=(l.take k).length) Qr8 QbB.1 (Rd.own' hr hs) rfl (.inl ⟨rfl,rfl⟩) (.inr ⟨_,_,rfl,rfl⟩) (.inl ⟨rfl,rfl⟩) (by omega) (by omega) (Nat.le_trans (show k<=l.length by omega) (Rd.roomM (Rd.own' hr hs))) (Nat.le_refl _) (by simp only [List.length_take,List.length_drop]<;>omega) (Zz hs)
  ·exact og [7] fun D J w hG hs=>Qac (V:=.slice a l.length c) rfl (Zz hs)
  ·exact og [7] fun D J w hG hs=>Qac (V:=.int .i64 (k:Int)) rfl (Zz hs)
  ·exact oy [7,11,12] [11,12] fun D J w hG hs=>Qaw Qco QbB.1 (Rd.own' hr hs) rfl rfl (by omega) (by rw [QQ6];omega) (Zz hs)
  ·exact oy [7,13] [13] fun D J w hG hs=>Qaf Qbl rfl (Zz hs)
  ·exact oy [7,14] [14] fun D J w hG hs=>Qbc (j:=0) (vs:=dc ((gd l k).dot)) k QcE (Rd.own' hr hs) (Qa9 (by omega)) rfl rfl rfl (by omega) (Zz hs)
  ·exact oy [7,10,15] [10,15] fun D J w hG hs=>Qas (vs:=[.slice (sla a 0 c 23) ((l.take k).length) (c-0),.agg (dc ((gd l k).dot)).toArray]) (V:=.bool ((l.take k).any fun o=>decide (o.dot=(gd l k).dot))) Qt6 rfl rfl (Qpq _ (sla a 0 c 23) (c-0) (l.take k) ((gd l k).dot) (Rd.subM (Rd.own' hr hs) 0 k c (by omega) (by omega) (Nat.le_trans (show k<=l.length by omega) (Rd.roomM (Rd.own' hr hs))) (Nat.le_refl _) _ (by simp only [List.length_take,List.length_drop]<;>omega))) hs fun _ hs=>Zz hs
  ·exact oa [7,16] fun D J w hs=>Qb2 (h':=(l.take k).any fun o=>decide (o.dot=(gd l k).dot)) rfl rfl rfl (Zz hs)
  rintro J1 w5 J2 hJ hs
  replace hJ:J2=upd (mix (sq 12 18) J1 _) 29 (.bool ((!(QbJ ((gd l k).dot)))||((l.take k).any fun o=>decide (o.dot=(gd l k).dot)))):=hJ
  subst hJ
  refine Qam (t:=(!(QbJ ((gd l k).dot)))||((l.take k).any fun o=>decide (o.dot=(gd l k).dot))) rfl (fun c6=>?_) (fun c6=>?_)
  ·
   refine Qag (Qab (Qaa (Qad (V:=.bool false) rfl (Qae (Qav ?_)))))
   refine ⟨_,Qaq (V:=.bool false) Tryz.results70 rfl,(Zr hs ?_)⟩
   exact congrArg Value.bool (Qjj (k:=k) (by omega) (by unfold Qnw;exact c6)).symm
  have c6r:=QfW c6
  replace c6:=QfV c6
  replace c6:=Qbr c6
  refine Qap (Qab (Qaa (Qac (V:=I6 (k:Int)) rfl (Qaa (QaD (a:=(k:Int)) (b:=1) (c:=(k:Int)+1) rfl rfl (QbE (by omega) (by omega)) (Qaa (Qad (V:=I6 ((k:Int)+1)) rfl (Qae ?_))))))))
  refine ⟨_,?_,_,k+1,Qak (Qao (ds:=([2,3]++sq 6 24)) (by repeat (first|exact Agr.refl _ _|refine Agr.upd ?_ rfl|refine Agr.mix ?_ rfl))) rfl,(by omega),(Qdg hbad (by unfold Qnw;rw [c6,c6r];rfl)),rfl,hs.take 0⟩
  omega
 replace c2:=QQ2 c2
 refine QaJ (Qag (Qag (Qab (Qaa (Qad (V:=I6 0) rfl (Qae (Qan (QaC (fun J μ J' w'=>∃ (Jo:Env) (k2:Nat),J'=upd (mix ([2,4,5]++sq 30 27) Jo J) 4 (I6 (k2:Int))/\(k2<=l.length)/\(∀ j:Nat,j<k2->QeM l (gd l j)=true)/\μ=l.length-k2/\Own w no w' []) ?_ ?_))))))))
 ·exact ⟨_,_,0,Qak (Qao (ds:=([2,4,5]++sq 30 27)) (Agr.refl _ _)) rfl,(by omega),(fun j hj=>absurd hj (Nat.not_lt_zero j)),rfl,hs⟩
 rintro μ J' w7 ⟨Jo,k2,rfl,hk2,hkn,rfl,hs⟩
 refine Qag (Qag (Qab (Qaa (Qac (V:=I6 (k2:Int)) rfl (Qaa (Qac (V:=.slice a l.length c) rfl (Qaa (Qa0 (n:=l.length) Qco (Rd.own' hr hs) (by simp) rfl (Qaa (Qa2 rfl rfl (Qae (Qam (t:=decide ((k2:Int)<((l.length:Nat):Int))) rfl (fun c8=>?_) (fun c8=>?_)))))))))))))
 ·
  replace c8:=QQ1 c8
  refine Qap (Qag (Qan (Qag (Qab (Qaa (Qad (V:=I6 0) rfl (Qae (Qan (QaC (fun J μ J' w'=>∃ (Jo:Env) (k3:Nat),J'=upd (mix ([2,5]++sq 36 21) Jo J) 5 (I6 (k3:Int))/\(k3<=16)/\(∀ r:Nat,r<k3->Qg0 l (gd l k2).ctx (r:Int)=min (vat (gd l k2).ctx r) 1048576)/\μ=16-k3/\Own w no w' []) ?_ ?_)))))))))
  ·exact ⟨_,_,0,Qak (Qao (ds:=([2,5]++sq 36 21)) (Agr.refl _ _)) rfl,(by omega),(fun j hj=>absurd hj (Nat.not_lt_zero j)),rfl,hs⟩
  rintro μ J' w9 ⟨Jo,k3,rfl,hk3,hr3,rfl,hs⟩
  refine Qag (Qag (Qab (Qaa (Qac (V:=I6 (k3:Int)) rfl (Qaa (Qa2 rfl rfl (Qae (Qam (t:=decide ((k3:Int)<16)) rfl (fun c10=>?_) (fun c10=>?_)))))))))
  ·
   replace c10:=QQ1 c10
   refine Qap (Qag (Qan (Qag ?_)))
   have hok2:=hl _ (Qbz (l:=l) (i:=k2) (by omega))
   refine QaH HM [some 40,some 41,some 42,some 43,some 44,some 45,some 46,some 47,some 48,some 49,some 50,some 51,some 52,some 53,some 54,some 55,some 56] [] [0,0,0,6,14,30,0,127,0,0,0,768,2816,7936,16128,32512,65535] [pv (.slice a l.length c),pv (.slice a l.length c),pv (I6 (k2:Int)),pv (.pointer (some ⟨bkS (.slice a l.length c),ofS (.slice a l.length c)+(k2:Int).toNat*23,none⟩)),pv (.pointer (some ⟨bkS (.slice a l.length c),ofS (.slice a l.length c)+(k2:Int).toNat*23+7,none⟩)),pv (.agg (vc ((gd l k2).ctx)).toArray),pv (I6 (k3:Int)),pv (.int .u32 (Qg0 l ((gd l k2).ctx) (k3:Int))),pv (.slice a l.length c),pv (I6 (k2:Int)),pv (I6 (k3:Int)),pv (.pointer (some ⟨bkS (.slice a l.length c),ofS (.slice a l.length c)+(k2:Int).toNat*23,none⟩)),pv (.pointer (some ⟨bkS (.slice a l.length c),ofS (.slice a l.length c)+(k2:Int).toNat*23+7,none⟩)),pv (.pointer (some ⟨bkS (.slice a l.length c),ofS (.slice a l.length c)+(k2:Int).toNat*23+7+(k3:Int).toNat,none⟩)),pv (.int .u32 (vat ((gd l k2).ctx) k3)),pv (.int .u32 (min (vat ((gd l k2).ctx) k3) 1048576)),pv (.bool (!decide (Qg0 l ((gd l k2).ctx) (k3:Int)=min (vat ((gd l k2).ctx) k3) 1048576)))] (fun _ _=>_) [16] (by kernel_rfl) hs ⟨?_,?_,?_,?_,?_,?_,?_,?_,?_,?_,?_,?_,?_,?_,?_,?_,?_,trivial⟩ ?_
   ·exact oa [] fun D J w hs=>Qac (V:=.slice a l.length c) rfl (Zz hs)
   ·exact oa [] fun D J w hs=>Qac (V:=.slice a l.length c) rfl (Zz hs)
   ·exact oa [] fun D J w hs=>Qac (V:=.int .i64 (k2:Int)) rfl (Zz hs)
   ·exact oa [1,2] fun D J w hs=>Qaw Qco QbB.1 (Rd.own' hr hs) rfl rfl (by omega) (by rw [QQ6];omega) (Zz hs)
   ·exact oa [3] fun D J w hs=>Qaf QcD rfl (Zz hs)
   ·exact oa [4] fun D J w hs=>Qbc (j:=7) (vs:=vc ((gd l k2).ctx)) k2 Qbu (Rd.own' hr hs) (Qa9 (by omega)) rfl rfl rfl (by omega) (Zz hs)
   ·exact oa [] fun D J w hs=>Qac (V:=.int .i64 (k3:Int)) rfl (Zz hs)
   ·exact oa [0,5,6] fun D J w hs=>Qas (vs:=[.slice a l.length c,.agg (vc ((gd l k2).ctx)).toArray,.int .i64 (k3:Int)]) (V:=.int .u32 (Qg0 l ((gd l k2).ctx) (k3:Int))) QsK rfl rfl (Ql9 _ a c l ((gd l k2).ctx) (k3:Int) (by assumption) (by assumption) (Rd.own' hr hs)) hs fun _ hs=>Zz hs
   ·exact oa [] fun D J w hs=>Qac (V:=.slice a l.length c) rfl (Zz hs)
   ·exact oa [] fun D J w hs=>Qac (V:=.int .i64 (k2:Int)) rfl (Zz hs)
   ·exact oa [] fun D J w hs=>Qac (V:=.int .i64 (k3:Int)) rfl (Zz hs)
   ·exact oa [8,9] fun D J w hs=>Qaw Qco QbB.1 (Rd.own' hr hs) rfl rfl (by omega) (by rw [QQ6];omega) (Zz hs)
   ·exact oa [11] fun D J w hs=>Qaf QcD rfl (Zz hs)
   ·exact oa [10,12] fun D J w hs=>Qbo QdH QaN.1 rfl rfl (by omega) (by omega) (Zz hs)
   ·exact oa [13] fun D J w hs=>QaU (j:=7+k3) (V:=.int .u32 (vat ((gd l k2).ctx) k3)) k2 QaN (Rd.own' hr hs) (Qa9 (by omega)) (QsS (by omega)) rfl (by omega) (Zz hs)
   ·exact oa [14] fun D J w hs=>Qvr rfl rfl (Zz hs)
   ·exact oa [7,15] fun D J w hs=>QcC rfl rfl (Zz hs)
   rintro J1 w12 J2 hJ hs
   replace hJ:J2=upd (mix (sq 40 17) J1 _) 56 (.bool (!decide (Qg0 l ((gd l k2).ctx) (k3:Int)=min (vat ((gd l k2).ctx) k3) 1048576))):=hJ
   subst hJ
   refine Qam (t:=!decide (Qg0 l ((gd l k2).ctx) (k3:Int)=min (vat ((gd l k2).ctx) k3) 1048576)) rfl (fun c13=>?_) (fun c13=>?_)
   ·
    replace c13:=Qby c13
    replace c13:=QQ2 c13
    refine Qag (Qab (Qaa (Qad (V:=.bool false) rfl (Qae (Qav ?_)))))
    refine ⟨_,Qaq (V:=.bool false) Tryz.results70 rfl,(Zr hs ?_)⟩
    exact congrArg Value.bool (QkZ (k:=k2) (r:=k3) (by omega) (by omega) c13).symm
   replace c13:=Qbr c13
   replace c13:=QQ1 c13
   refine Qap (Qab (Qaa (Qac (V:=I6 (k3:Int)) rfl (Qaa (QaD (a:=(k3:Int)) (b:=1) (c:=(k3:Int)+1) rfl rfl (QbE (by omega) (by omega)) (Qaa (Qad (V:=I6 ((k3:Int)+1)) rfl (Qae ?_))))))))
   refine ⟨_,?_,_,k3+1,Qak (Qao (ds:=([2,5]++sq 36 21)) (by repeat (first|exact Agr.refl _ _|refine Agr.upd ?_ rfl|refine Agr.mix ?_ rfl))) rfl,(by omega),(fun r hr=>if e:r=k3 then by subst e;exact c13 else hr3 r (by omega)),rfl,hs.take 0⟩
   omega
  replace c10:=QQ2 c10
  refine QaJ (Qab (Qaa (Qac (V:=I6 (k2:Int)) rfl (Qaa (QaD (a:=(k2:Int)) (b:=1) (c:=(k2:Int)+1) rfl rfl (QbE (by omega) (by omega)) (Qaa (Qad (V:=I6 ((k2:Int)+1)) rfl (Qae ?_))))))))
  refine ⟨_,?_,_,k2+1,Qak (Qao (ds:=([2,4,5]++sq 30 27)) (by repeat (first|exact Agr.refl _ _|refine Agr.upd ?_ rfl|refine Agr.mix ?_ rfl))) rfl,(by omega),(QjQ (p:=fun j=>QeM l (gd l j)) hkn (QkS fun r hr=>hr3 r (by omega))),rfl,hs.take 0⟩
  omega
 replace c8:=QQ2 c8
 refine QaJ (Qag (Qab (Qaa (Qad (V:=.bool true) rfl (Qae (Qav ?_))))))
 refine ⟨_,Qaq (V:=.bool true) Tryz.results70 rfl,(Zr hs ?_)⟩
 exact congrArg Value.bool (QiD (fun j hj=>hbad j (by omega)) fun j hj=>hkn j (by omega)).symm
theorem QmO (w:World) (v:Vec) (a:Option Addr) (c:Nat) (l:List Opn) (hl:∀ o∈l,Qb8 o) (hlen:l.length<=1000) (hr:Rd w (.slice a l.length c) 23 (l.map oc)):Calls Tryz.prog 35 #[.slice a l.length c,.agg (vc v).toArray] w (fun e w'=>∃ x:Option Addr × Nat,e = .returned (.slice x.1 (QaF l v).length x.2)/\Own w no w' [row (.slice x.1 (QaF l v).length x.2) ((QaF l v).map oc) 98 23]/\True):=by
 refine Qai (n:=28) Tryz.func35 rfl Tryz.ntmps35 rfl ?_
 have hs:=Own.start w
 have hn:=hr.sml
 refine Qag (Qab (Qaa (Qa4 (V:=.agg (vc v).toArray) (cs:=vc v) rfl rfl hs fun b1 w2 hs=>(Qaa (Qad (V:=.slice none 0 0) rfl (Qae (Qag (Qab (Qaa (Qad (V:=.slice none 0 0) rfl (Qae (Qag (Qag (Qab (Qaa (Qad (V:=I6 0) rfl (Qae (Qan ?_))))))))))))))))))
 replace hs:=hs.more (row (.slice none 0 0) (List.map oc []) 98 23) (Qba _ _ _ _)
 refine QaC (fun J μ J' w'=>∃ (Jo:Env) (k:Nat) (an:Option Addr) (cn:Nat) (out:List Opn),J'=upd (upd (mix (sq 5 22) Jo J) 6 (I6 (k:Int))) 5 (.slice an out.length cn)/\(k<=l.length)/\(out.length<=k)/\(out=QaF (l.take k) v)/\μ=l.length-k/\Own w no w' [blk b1 (vc v) 24,row (.slice an out.length cn) (out.map oc) 98 23]) ?_ ?_
 ·exact ⟨_,_,0,none,0,[],Qak (Qak (Qao (ds:=(sq 5 22)) (Agr.refl _ _)) rfl) rfl,(by omega),(Nat.le_refl _),rfl,rfl,hs⟩
 rintro μ J' w3 ⟨Jo,k,an,cn,out,rfl,hk,hol,hout,rfl,hs⟩
 refine Qag (Qag (Qab (Qaa (Qac (V:=I6 (k:Int)) rfl (Qaa (Qac (V:=.slice a l.length c) rfl (Qaa (Qa0 (n:=l.length) Qco (Rd.own' hr hs) (by simp) rfl (Qaa (Qa2 rfl rfl (Qae (Qam (t:=decide ((k:Int)<((l.length:Nat):Int))) rfl (fun c4=>?_) (fun c4=>?_)))))))))))))
 ·
  replace c4:=QQ1 c4
  refine Qap (Qag (Qan (Qag ?_)))
  have hok:=hl _ (Qbz (l:=l) (i:=k) (by omega))
  have hdk:=hok.1
  refine QaH HM [some 13,some 14,some 15,some 16,some 17,some 18,some 19] [] [0,0,0,6,14,30,63] [pv (.agg (vc v).toArray),pv (.slice a l.length c),pv (I6 (k:Int)),pv (.pointer (some ⟨bkS (.slice a l.length c),ofS (.slice a l.length c)+(k:Int).toNat*23,none⟩)),pv (.pointer (some ⟨bkS (.slice a l.length c),ofS (.slice a l.length c)+(k:Int).toNat*23+0,none⟩)),pv (.agg (dc ((gd l k).dot)).toArray),pv (.bool (Qbv v ((gd l k).dot)))] (fun _ _=>_) [6] (by kernel_rfl) hs ⟨?_,?_,?_,?_,?_,?_,?_,trivial⟩ ?_
  ·exact oa [] fun D J w hs=>QaO (cs:=vc v) Qbu hs 0 rfl rfl rfl (Zz hs)
  ·exact oa [] fun D J w hs=>Qac (V:=.slice a l.length c) rfl (Zz hs)
  ·exact oa [] fun D J w hs=>Qac (V:=.int .i64 (k:Int)) rfl (Zz hs)
  ·exact oa [1,2] fun D J w hs=>Qaw Qco QbB.1 (Rd.own' hr hs) rfl rfl (by omega) (by rw [QQ6];omega) (Zz hs)
  ·exact oa [3] fun D J w hs=>Qaf Qbl rfl (Zz hs)
  ·exact oa [4] fun D J w hs=>Qbc (j:=0) (vs:=dc ((gd l k).dot)) k QcE (Rd.own' hr hs) (Qa9 (by omega)) rfl rfl rfl (by omega) (Zz hs)
  ·exact oa [0,5] fun D J w hs=>Qas (vs:=[.agg (vc v).toArray,.agg (dc ((gd l k).dot)).toArray]) (V:=.bool (Qbv v ((gd l k).dot))) QlT rfl rfl (QfZ _ v ((gd l k).dot) (by first|assumption|exact QcF (by omega) (by omega) (by omega) (by omega))) hs fun _ hs=>Zz hs
  rintro J1 w6 J2 hJ hs
  replace hJ:J2=upd (mix (sq 13 7) J1 _) 19 (.bool (Qbv v ((gd l k).dot))):=hJ
  subst hJ
  refine Qam (t:=Qbv v ((gd l k).dot)) rfl (fun c7=>?_) (fun c7=>?_)
  ·
   refine Qab (Qaa (Qac (V:=.slice an out.length cn) rfl (Qaa (Qac (V:=.slice a l.length c) rfl (Qaa (Qac (V:=I6 (k:Int)) rfl (Qaa (Qaw Qco QbB.1 (Rd.own' hr hs) rfl rfl (by omega) (by rw [QQ6];omega) (Qaa (Qbc (j:=0) (vs:=oc (gd l k)) k QbB (Rd.own' hr hs) (Qa9 (by omega)) rfl rfl rfl (by omega) (Qaa (QhI (vals:=[.agg (oc (gd l k)).toArray]) (ls:=List.map oc ([gd l k]:List Opn)) Qi3 rfl rfl rfl (Qbj (enc:=oc) (fun _=>rfl) _) (QaV Qc1 _) (QQ8 rfl) hs fun b8 w9 hs=>(Qaa (Qdb (ls':=(out++[gd l k]).map oc) (n:=(out++[gd l k]).length) Qi3 hs 1 rfl rfl rfl (hs.rd 2 rfl) (QaV Qc1 _) (by simp only [QQ6,QQ7,List.length_cons,List.length_nil];omega) (by simp) (by simp) fun a10 c10 w11 hs=>(Qaa (Qad (V:=.slice a10 ((out++[gd l k]).length) c10) rfl (Qae (Qab (Qaa (Qac (V:=I6 (k:Int)) rfl (Qaa (QaD (a:=(k:Int)) (b:=1) (c:=(k:Int)+1) rfl rfl (QbE (by omega) (by omega)) (Qaa (Qad (V:=I6 ((k:Int)+1)) rfl (Qae ?_)))))))))))))))))))))))))
   refine ⟨_,?_,_,k+1,a10,c10,out++[gd l k],Qak (Qak (Qao (ds:=(sq 5 22)) (by repeat (first|exact Agr.refl _ _|refine Agr.upd ?_ rfl|refine Agr.mix ?_ rfl))) rfl) rfl,(by omega),(by first|omega|(rw [QQ7,List.length_singleton];omega)),(Qey hout (by omega) c7),rfl,hs.take 2⟩
   omega
  refine Qap (Qab (Qaa (Qac (V:=I6 (k:Int)) rfl (Qaa (QaD (a:=(k:Int)) (b:=1) (c:=(k:Int)+1) rfl rfl (QbE (by omega) (by omega)) (Qaa (Qad (V:=I6 ((k:Int)+1)) rfl (Qae ?_))))))))
  refine ⟨_,?_,_,k+1,an,cn,out,Qak (Qak (Qao (ds:=(sq 5 22)) (by repeat (first|exact Agr.refl _ _|refine Agr.upd ?_ rfl|refine Agr.mix ?_ rfl))) rfl) rfl,(by omega),(by first|omega|(rw [QQ7,List.length_singleton];omega)),(Qhj hout (by omega) c7),rfl,hs.take 2⟩
  omega
 replace c4:=QQ2 c4
 refine QaJ (Qag (Qab (Qaa (Qac (V:=.slice an out.length cn) rfl (Qaa (Qad (V:=.slice an out.length cn) rfl (Qae (Qav ?_))))))))
 refine ⟨_,Qaq (V:=.slice an out.length cn) Tryz.results35 rfl,?_⟩
 have hX:out=QaF l v:=by rw [hout,Qcw (by omega)]
 rw [hX] at hs ⊢
 exact ⟨(an,cn),rfl,hs.only 1 rfl,trivial⟩
end Tt
end Go.Proofs
