/- A part of a proof: what functions of the program compute, and plain facts on that. -/
import Derived.Test.YtbjbjboehjdcaaaGreatCutsStatesP3
set_option linter.unusedVariables false
set_option linter.unusedSimpArgs false
set_option maxHeartbeats 4000000
set_option maxRecDepth 100000
namespace Go.Proofs
open Go Go.Vx Go.RowKit
namespace Tt
theorem Qnv (w:World) (o:Opn):Calls Tryz.prog 90 #[.agg (oc o).toArray] w (fun e w'=>e = .returned (.bool (Qa4 o))/\Own w no w' []):=by
 refine Qaj (n:=16) Tryz.func90 rfl Tryz.ntmps90 rfl ?_
 have hs:=Own.start w
 refine Qag (Qab (Qaa (QaR (V:=.agg (oc o).toArray) (cs:=oc o) rfl rfl hs fun b1 w2 hs=>(Qaa (Qad (V:=.bool false) rfl (Qaf (Qag (Qbm [some 3,some 4,some 5,some 6,some 7,some 8,some 9,some 10,some 11,some 12,some 13,some 14,some 15,some 2] [] [0,1,3,7,15,31,63,127,255,511,1023,2047,4095,8191] [pv (Pq b1 (0+2)),pv (.int .u8 o.kind),pv (.bool (decide (o.kind=1))),pv (.bool (decide (o.kind=1))),pg ((decide (o.kind=1)) == false) (Pq b1 (0+2)),pg ((decide (o.kind=1)) == false) (.int .u8 o.kind),pg ((decide (o.kind=1)) == false) (.bool (decide (o.kind=2))),pv (.bool ((decide (o.kind=1))||(decide (o.kind=2)))),pv (.bool ((decide (o.kind=1))||(decide (o.kind=2)))),pg (((decide (o.kind=1))||(decide (o.kind=2))) == false) (Pq b1 (0+2)),pg (((decide (o.kind=1))||(decide (o.kind=2))) == false) (.int .u8 o.kind),pg (((decide (o.kind=1))||(decide (o.kind=2))) == false) (.bool (decide (o.kind=4))),pv (.bool (((decide (o.kind=1))||(decide (o.kind=2)))||(decide (o.kind=4)))),pv (.bool (((decide (o.kind=1))||(decide (o.kind=2)))||(decide (o.kind=4))))] (fun _ _=>_) [13] (by kernel_rfl) hs ⟨?_,?_,?_,?_,?_,?_,?_,?_,?_,?_,?_,?_,?_,?_,trivial⟩ ?_))))))))
 ·exact oa [] fun D J w hs=>Qae QbQ rfl (Zz hs)
 ·exact oa [0] fun D J w hs=>QaF (V:=.int .u8 o.kind) QcJ hs 0 rfl rfl rfl (Zz hs)
 ·exact oa [1] fun D J w hs=>QaT rfl rfl (Zz hs)
 ·exact oa [2] fun D J w hs=>Qac (V:=.bool (decide (o.kind=1))) rfl (Zz hs)
 ·exact og [3] fun D J w hG hs=>Qae QbQ rfl (Zz hs)
 ·exact oy [3,4] [4] fun D J w hG hs=>QaF (V:=.int .u8 o.kind) QcJ hs 0 rfl rfl rfl (Zz hs)
 ·exact oy [3,5] [5] fun D J w hG hs=>QaT rfl rfl (Zz hs)
 ·exact oa [3,6] fun D J w hs=>QbM (h':=decide (o.kind=2)) rfl rfl rfl (Zz hs)
 ·exact oa [7] fun D J w hs=>Qac (V:=.bool ((decide (o.kind=1))||(decide (o.kind=2)))) rfl (Zz hs)
 ·exact og [8] fun D J w hG hs=>Qae QbQ rfl (Zz hs)
 ·exact oy [8,9] [9] fun D J w hG hs=>QaF (V:=.int .u8 o.kind) QcJ hs 0 rfl rfl rfl (Zz hs)
 ·exact oy [8,10] [10] fun D J w hG hs=>QaT rfl rfl (Zz hs)
 ·exact oa [8,11] fun D J w hs=>QbM (h':=decide (o.kind=4)) rfl rfl rfl (Zz hs)
 ·exact oa [12] fun D J w hs=>Qad (V:=.bool (((decide (o.kind=1))||(decide (o.kind=2)))||(decide (o.kind=4)))) rfl (Zz hs)
 rintro J1 w3 J2 hJ hs
 replace hJ:J2=upd (mix (sq 3 13++[2]) J1 _) 2 (.bool (((decide (o.kind=1))||(decide (o.kind=2)))||(decide (o.kind=4)))):=hJ
 subst hJ
 refine Qaw ?_
 refine ⟨_,Qaq (V:=.bool (((decide (o.kind=1))||(decide (o.kind=2)))||(decide (o.kind=4)))) Tryz.results90 rfl,(Zr hs ?_)⟩
 rfl
theorem QjV (w:World) (o:Opn):Calls Tryz.prog 55 #[.agg (oc o).toArray] w (fun e w'=>e = .returned (.bool (Qa4 o))/\Own w no w' []):=by
 refine Qaj (n:=16) Tryz.func55 rfl Tryz.ntmps55 rfl ?_
 have hs:=Own.start w
 refine Qag (Qab (Qaa (QaR (V:=.agg (oc o).toArray) (cs:=oc o) rfl rfl hs fun b1 w2 hs=>(Qaa (Qad (V:=.bool false) rfl (Qaf (Qag (Qbm [some 3,some 4,some 5,some 6,some 7,some 8,some 9,some 10,some 11,some 12,some 13,some 14,some 15,some 2] [] [0,1,3,7,15,31,63,127,255,511,1023,2047,4095,8191] [pv (Pq b1 (0+2)),pv (.int .u8 o.kind),pv (.bool (decide (o.kind=1))),pv (.bool (decide (o.kind=1))),pg ((decide (o.kind=1)) == false) (Pq b1 (0+2)),pg ((decide (o.kind=1)) == false) (.int .u8 o.kind),pg ((decide (o.kind=1)) == false) (.bool (decide (o.kind=2))),pv (.bool ((decide (o.kind=1))||(decide (o.kind=2)))),pv (.bool ((decide (o.kind=1))||(decide (o.kind=2)))),pg (((decide (o.kind=1))||(decide (o.kind=2))) == false) (Pq b1 (0+2)),pg (((decide (o.kind=1))||(decide (o.kind=2))) == false) (.int .u8 o.kind),pg (((decide (o.kind=1))||(decide (o.kind=2))) == false) (.bool (decide (o.kind=4))),pv (.bool (((decide (o.kind=1))||(decide (o.kind=2)))||(decide (o.kind=4)))),pv (.bool (((decide (o.kind=1))||(decide (o.kind=2)))||(decide (o.kind=4))))] (fun _ _=>_) [13] (by kernel_rfl) hs ⟨?_,?_,?_,?_,?_,?_,?_,?_,?_,?_,?_,?_,?_,?_,trivial⟩ ?_))))))))
 ·exact oa [] fun D J w hs=>Qae QbQ rfl (Zz hs)
 ·exact oa [0] fun D J w hs=>QaF (V:=.int .u8 o.kind) QcJ hs 0 rfl rfl rfl (Zz hs)
 ·exact oa [1] fun D J w hs=>QaT rfl rfl (Zz hs)
 ·exact oa [2] fun D J w hs=>Qac (V:=.bool (decide (o.kind=1))) rfl (Zz hs)
 ·exact og [3] fun D J w hG hs=>Qae QbQ rfl (Zz hs)
 ·exact oy [3,4] [4] fun D J w hG hs=>QaF (V:=.int .u8 o.kind) QcJ hs 0 rfl rfl rfl (Zz hs)
 ·exact oy [3,5] [5] fun D J w hG hs=>QaT rfl rfl (Zz hs)
 ·exact oa [3,6] fun D J w hs=>QbM (h':=decide (o.kind=2)) rfl rfl rfl (Zz hs)
 ·exact oa [7] fun D J w hs=>Qac (V:=.bool ((decide (o.kind=1))||(decide (o.kind=2)))) rfl (Zz hs)
 ·exact og [8] fun D J w hG hs=>Qae QbQ rfl (Zz hs)
 ·exact oy [8,9] [9] fun D J w hG hs=>QaF (V:=.int .u8 o.kind) QcJ hs 0 rfl rfl rfl (Zz hs)
 ·exact oy [8,10] [10] fun D J w hG hs=>QaT rfl rfl (Zz hs)
 ·exact oa [8,11] fun D J w hs=>QbM (h':=decide (o.kind=4)) rfl rfl rfl (Zz hs)
 ·exact oa [12] fun D J w hs=>Qad (V:=.bool (((decide (o.kind=1))||(decide (o.kind=2)))||(decide (o.kind=4)))) rfl (Zz hs)
 rintro J1 w3 J2 hJ hs
 replace hJ:J2=upd (mix (sq 3 13++[2]) J1 _) 2 (.bool (((decide (o.kind=1))||(decide (o.kind=2)))||(decide (o.kind=4)))):=hJ
 subst hJ
 refine Qaw ?_
 refine ⟨_,Qaq (V:=.bool (((decide (o.kind=1))||(decide (o.kind=2)))||(decide (o.kind=4)))) Tryz.results55 rfl,(Zr hs ?_)⟩
 rfl
theorem Qll (w:World) (o:Opn) (ho:QbX o.ctx):Calls Tryz.prog 41 #[.agg (oc o).toArray] w (fun e w'=>e = .returned (.int .u64 (QcT o))/\Own w no w' []):=by
 refine Qaj (n:=7) Tryz.func41 rfl Tryz.ntmps41 rfl ?_
 have hs:=Own.start w
 refine Qag (Qab (Qaa (QaR (V:=.agg (oc o).toArray) (cs:=oc o) rfl rfl hs fun b1 w2 hs=>(Qaa (Qad (V:=.int .u64 0) rfl (Qaf (Qag ?_)))))))
 have hb:=Qi1 ho
 refine Qab (Qaa (Qae QdS rfl (Qaa (QbL (vs:=vc o.ctx) Qbt hs 0 rfl rfl rfl rfl (Qaa (Qau (vs:=[.agg (vc o.ctx).toArray]) (V:=.int .u64 (vsum o.ctx)) QuI rfl rfl ?hc hs fun w3 hs=>?_))))))
 case hc=>exact (QrA _ o.ctx (by first|assumption|exact Qb1))
 refine Qaa (QaD (a:=vsum o.ctx) (b:=1) (c:=(vsum o.ctx)+1) rfl rfl (Qdg (by omega) (by omega)) (Qaa (Qad (V:=.int .u64 ((vsum o.ctx)+1)) rfl (Qaf (Qaw ?_)))))
 refine ⟨_,Qaq (V:=.int .u64 ((vsum o.ctx)+1)) Tryz.results41 rfl,(Zr hs ?_)⟩
 rfl
theorem QkX (w:World) (o:Opn) (ho:QbX o.ctx):Calls Tryz.prog 57 #[.agg (oc o).toArray] w (fun e w'=>e = .returned (.int .u64 (QcT o))/\Own w no w' []):=by
 refine Qaj (n:=7) Tryz.func57 rfl Tryz.ntmps57 rfl ?_
 have hs:=Own.start w
 refine Qag (Qab (Qaa (QaR (V:=.agg (oc o).toArray) (cs:=oc o) rfl rfl hs fun b1 w2 hs=>(Qaa (Qad (V:=.int .u64 0) rfl (Qaf (Qag ?_)))))))
 have hb:=Qi1 ho
 refine Qab (Qaa (Qae QdS rfl (Qaa (QbL (vs:=vc o.ctx) Qbt hs 0 rfl rfl rfl rfl (Qaa (Qau (vs:=[.agg (vc o.ctx).toArray]) (V:=.int .u64 (vsum o.ctx)) QvG rfl rfl ?hc hs fun w3 hs=>?_))))))
 case hc=>exact (QqD _ o.ctx (by first|assumption|exact Qb1))
 refine Qaa (QaD (a:=vsum o.ctx) (b:=1) (c:=(vsum o.ctx)+1) rfl rfl (Qdg (by omega) (by omega)) (Qaa (Qad (V:=.int .u64 ((vsum o.ctx)+1)) rfl (Qaf (Qaw ?_)))))
 refine ⟨_,Qaq (V:=.int .u64 ((vsum o.ctx)+1)) Tryz.results57 rfl,(Zr hs ?_)⟩
 rfl
theorem Qop (w:World) (o e:Opn) (he:Qc1 e.dot):Calls Tryz.prog 46 #[.agg (oc o).toArray,.agg (oc e).toArray] w (fun r w'=>r = .returned (.bool (QaZ o e))/\Own w no w' []):=by
 refine Qaj (n:=40) Tryz.func46 rfl Tryz.ntmps46 rfl ?_
 have hs:=Own.start w
 refine Qag (Qab (Qaa (QaR (V:=.agg (oc o).toArray) (cs:=oc o) rfl rfl hs fun b1 w2 hs=>(Qaa (QaR (V:=.agg (oc e).toArray) (cs:=oc e) rfl rfl hs fun b3 w4 hs=>(Qaa (Qad (V:=.bool false) rfl (Qaf (Qag (Qag (Qbm [some 5,some 6,some 7,some 8,some 9,some 10,some 11,some 12,some 13,some 14,some 15,some 16,some 17,some 18,some 19,some 20,some 21,some 22] [] [0,1,3,7,15,31,15,79,255,511,1023,2047,4095,2047,10239,32767,65535,131071] [pv (.agg (oc e).toArray),pv (.bool (Qa4 e)),pv (.bool (!(Qa4 e))),pv (.bool (!(Qa4 e))),pg ((!(Qa4 e)) == false) (Pq b1 (0+3)),pg ((!(Qa4 e)) == false) (I7 o.cart),pg ((!(Qa4 e)) == false) (Pq b3 (0+3)),pg ((!(Qa4 e)) == false) (I7 e.cart),pg ((!(Qa4 e)) == false) (.bool (!decide (o.cart=e.cart))),pv (.bool ((!(Qa4 e))||(!decide (o.cart=e.cart)))),pv (.bool ((!(Qa4 e))||(!decide (o.cart=e.cart)))),pg (((!(Qa4 e))||(!decide (o.cart=e.cart))) == false) (Pq b1 (0+7)),pg (((!(Qa4 e))||(!decide (o.cart=e.cart))) == false) (.agg (vc o.ctx).toArray),pg (((!(Qa4 e))||(!decide (o.cart=e.cart))) == false) (Pq b3 (0+0)),pg (((!(Qa4 e))||(!decide (o.cart=e.cart))) == false) (.agg (dc e.dot).toArray),pg (((!(Qa4 e))||(!decide (o.cart=e.cart))) == false) (.bool (Qbz o.ctx e.dot)),pg (((!(Qa4 e))||(!decide (o.cart=e.cart))) == false) (.bool (!(Qbz o.ctx e.dot))),pv (.bool (((!(Qa4 e))||(!decide (o.cart=e.cart)))||(!(Qbz o.ctx e.dot))))] (fun _ _=>_) [17] (by kernel_rfl) hs ⟨?_,?_,?_,?_,?_,?_,?_,?_,?_,?_,?_,?_,?_,?_,?_,?_,?_,?_,trivial⟩ ?_)))))))))))
 ·exact oa [] fun D J w hs=>QaI (cs:=oc e) QbZ hs 1 rfl rfl rfl (Zz hs)
 ·exact oa [0] fun D J w hs=>Qau (vs:=[.agg (oc e).toArray]) (V:=.bool (Qa4 e)) QuE rfl rfl (Qnv _ e) hs fun _ hs=>Zz hs
 ·exact oa [1] fun D J w hs=>Qbx rfl (Zz hs)
 ·exact oa [2] fun D J w hs=>Qac (V:=.bool (!(Qa4 e))) rfl (Zz hs)
 ·exact og [3] fun D J w hG hs=>Qae QdH rfl (Zz hs)
 ·exact oy [3,4] [4] fun D J w hG hs=>QaF (V:=.int .u16 o.cart) Qar hs 0 rfl rfl rfl (Zz hs)
 ·exact og [3] fun D J w hG hs=>Qae QdH rfl (Zz hs)
 ·exact oy [3,6] [6] fun D J w hG hs=>QaF (V:=.int .u16 e.cart) Qar hs 1 rfl rfl rfl (Zz hs)
 ·exact oy [3,5,7] [5,7] fun D J w hG hs=>Qb7 rfl rfl (Zz hs)
 ·exact oa [3,8] fun D J w hs=>QbM (h':=!decide (o.cart=e.cart)) rfl rfl rfl (Zz hs)
 ·exact oa [9] fun D J w hs=>Qac (V:=.bool ((!(Qa4 e))||(!decide (o.cart=e.cart)))) rfl (Zz hs)
 ·exact og [10] fun D J w hG hs=>Qae QdS rfl (Zz hs)
 ·exact oy [10,11] [11] fun D J w hG hs=>QbL (vs:=vc o.ctx) Qbt hs 0 rfl rfl rfl rfl (Zz hs)
 ·exact og [10] fun D J w hG hs=>Qae Qb0 rfl (Zz hs)
 ·exact oy [10,13] [13] fun D J w hG hs=>QbL (vs:=dc e.dot) QcI hs 1 rfl rfl rfl rfl (Zz hs)
 ·exact oy [10,12,14] [12,14] fun D J w hG hs=>Qau (vs:=[.agg (vc o.ctx).toArray,.agg (dc e.dot).toArray]) (V:=.bool (Qbz o.ctx e.dot)) Qpe rfl rfl (QhR _ o.ctx e.dot (by first|assumption|exact Qdf (by omega) (by omega) (by omega) (by omega))) hs fun _ hs=>Zz hs
 ·exact oy [10,15] [15] fun D J w hG hs=>Qbx rfl (Zz hs)
 ·exact oa [10,16] fun D J w hs=>QbM (h':=!(Qbz o.ctx e.dot)) rfl rfl rfl (Zz hs)
 rintro J1 w7 J2 hJ hs
 replace hJ:J2=upd (mix (sq 5 18) J1 _) 22 (.bool (((!(Qa4 e))||(!decide (o.cart=e.cart)))||(!(Qbz o.ctx e.dot)))):=hJ
 subst hJ
 refine Qan (t:=((!(Qa4 e))||(!decide (o.cart=e.cart)))||(!(Qbz o.ctx e.dot))) rfl (fun c8=>?_) (fun c8=>?_)
 ·
  refine Qag (Qab (Qaa (Qad (V:=.bool false) rfl (Qaf (Qaw ?_)))))
  refine ⟨_,Qaq (V:=.bool false) Tryz.results46 rfl,(Zr hs ?_)⟩
  exact congrArg Value.bool (Qlm c8).symm
 have c8r:=Qeo c8
 replace c8:=Qet c8
 have c8rr:=Qeo c8
 replace c8:=Qet c8
 replace c8:=Qbd c8
 replace c8rr:=Qbd c8rr
 replace c8rr:=QQ1 c8rr
 replace c8r:=Qbd c8r
 refine Qap (Qag (Qag (Qab (Qaa (Qae QbQ rfl (Qaa (QaF (V:=.int .u8 o.kind) QcJ hs 0 rfl rfl rfl (Qaf (Qam (Qag (Qab (Qaa (QaT rfl rfl (Qaa (Qad (V:=.bool (decide (o.kind=5))) rfl (Qaf (Qan (t:=decide (o.kind=5)) rfl (fun c9=>?_) (fun c9=>?_))))))))))))))))))
 ·
  replace c9:=QQ1 c9
  refine Qag (Qab (Qaa (Qad (V:=.bool true) rfl (Qaf (Qaw ?_)))))
  refine ⟨_,Qaq (V:=.bool true) Tryz.results46 rfl,(Zr hs ?_)⟩
  rw [Qfr c8 c8rr c8r]
  refine congrArg Value.bool ?_
  simp_all
 replace c9:=QQ2 c9
 refine Qag (Qag (Qab (Qaa (QaT rfl rfl (Qaa (Qad (V:=.bool (decide (o.kind=3))) rfl (Qaf (Qan (t:=decide (o.kind=3)) rfl (fun c10=>?_) (fun c10=>?_)))))))))
 ·
  replace c10:=QQ1 c10
  refine Qap (Qdm (congrArg Value.bool (QQ3 c10)) ?_)
  refine Qag (Qbm [some 30,some 31,some 32,some 33,some 34,some 35,some 36,some 37,some 38,some 39,some 4] [] [0,1,3,7,15,31,15,79,255,511,1023] [pv (Pq b3 (0+2)),pv (.int .u8 e.kind),pv (.bool (!decide (e.kind=4))),pv (.bool (!decide (e.kind=4))),pg ((!decide (e.kind=4)) == true) (Pq b1 (0+4)),pg ((!decide (e.kind=4)) == true) (I7 o.item),pg ((!decide (e.kind=4)) == true) (Pq b3 (0+4)),pg ((!decide (e.kind=4)) == true) (I7 e.item),pg ((!decide (e.kind=4)) == true) (.bool (decide (o.item=e.item))),pv (.bool ((!decide (e.kind=4))&&(decide (o.item=e.item)))),pv (.bool ((!decide (e.kind=4))&&(decide (o.item=e.item))))] (fun _ _=>_) [10] (by kernel_rfl) hs ⟨?_,?_,?_,?_,?_,?_,?_,?_,?_,?_,?_,trivial⟩ ?_)
  ·exact oa [] fun D J w hs=>Qae QbQ rfl (Zz hs)
  ·exact oa [0] fun D J w hs=>QaF (V:=.int .u8 e.kind) QcJ hs 1 rfl rfl rfl (Zz hs)
  ·exact oa [1] fun D J w hs=>Qb7 rfl rfl (Zz hs)
  ·exact oa [2] fun D J w hs=>Qac (V:=.bool (!decide (e.kind=4))) rfl (Zz hs)
  ·exact og [3] fun D J w hG hs=>Qae QcX rfl (Zz hs)
  ·exact oy [3,4] [4] fun D J w hG hs=>QaF (V:=.int .u16 o.item) Qar hs 0 rfl rfl rfl (Zz hs)
  ·exact og [3] fun D J w hG hs=>Qae QcX rfl (Zz hs)
  ·exact oy [3,6] [6] fun D J w hG hs=>QaF (V:=.int .u16 e.item) Qar hs 1 rfl rfl rfl (Zz hs)
  ·exact oy [3,5,7] [5,7] fun D J w hG hs=>QaT rfl rfl (Zz hs)
  ·exact oa [3,8] fun D J w hs=>Qa7 (h':=decide (o.item=e.item)) rfl rfl rfl (Zz hs)
  ·exact oa [9] fun D J w hs=>Qad (V:=.bool ((!decide (e.kind=4))&&(decide (o.item=e.item)))) rfl (Zz hs)
  rintro J1 w11 J2 hJ hs
  replace hJ:J2=upd (mix (sq 30 10++[4]) J1 _) 4 (.bool ((!decide (e.kind=4))&&(decide (o.item=e.item)))):=hJ
  subst hJ
  refine Qaw ?_
  refine ⟨_,Qaq (V:=.bool ((!decide (e.kind=4))&&(decide (o.item=e.item)))) Tryz.results46 rfl,(Zr hs ?_)⟩
  rw [Qfr c8 c8rr c8r]
  refine congrArg Value.bool ?_
  simp_all
 replace c10:=QQ2 c10
 refine Qab (Qaa (QaT rfl rfl (Qaa (Qad (V:=.bool (decide (o.kind=2))) rfl (Qaf (Qan (t:=decide (o.kind=2)) rfl (fun c12=>?_) (fun c12=>?_)))))))
 ·
  replace c12:=QQ1 c12
  refine Qag (Qbm [some 30,some 31,some 32,some 33,some 34,some 35,some 36,some 37,some 38,some 39,some 4] [] [0,1,3,7,15,31,15,79,255,511,1023] [pv (Pq b3 (0+2)),pv (.int .u8 e.kind),pv (.bool (!decide (e.kind=4))),pv (.bool (!decide (e.kind=4))),pg ((!decide (e.kind=4)) == true) (Pq b1 (0+4)),pg ((!decide (e.kind=4)) == true) (I7 o.item),pg ((!decide (e.kind=4)) == true) (Pq b3 (0+4)),pg ((!decide (e.kind=4)) == true) (I7 e.item),pg ((!decide (e.kind=4)) == true) (.bool (decide (o.item=e.item))),pv (.bool ((!decide (e.kind=4))&&(decide (o.item=e.item)))),pv (.bool ((!decide (e.kind=4))&&(decide (o.item=e.item))))] (fun _ _=>_) [10] (by kernel_rfl) hs ⟨?_,?_,?_,?_,?_,?_,?_,?_,?_,?_,?_,trivial⟩ ?_)
  ·exact oa [] fun D J w hs=>Qae QbQ rfl (Zz hs)
  ·exact oa [0] fun D J w hs=>QaF (V:=.int .u8 e.kind) QcJ hs 1 rfl rfl rfl (Zz hs)
  ·exact oa [1] fun D J w hs=>Qb7 rfl rfl (Zz hs)
  ·exact oa [2] fun D J w hs=>Qac (V:=.bool (!decide (e.kind=4))) rfl (Zz hs)
  ·exact og [3] fun D J w hG hs=>Qae QcX rfl (Zz hs)
  ·exact oy [3,4] [4] fun D J w hG hs=>QaF (V:=.int .u16 o.item) Qar hs 0 rfl rfl rfl (Zz hs)
  ·exact og [3] fun D J w hG hs=>Qae QcX rfl (Zz hs)
  ·exact oy [3,6] [6] fun D J w hG hs=>QaF (V:=.int .u16 e.item) Qar hs 1 rfl rfl rfl (Zz hs)
  ·exact oy [3,5,7] [5,7] fun D J w hG hs=>QaT rfl rfl (Zz hs)
  ·exact oa [3,8] fun D J w hs=>Qa7 (h':=decide (o.item=e.item)) rfl rfl rfl (Zz hs)
  ·exact oa [9] fun D J w hs=>Qad (V:=.bool ((!decide (e.kind=4))&&(decide (o.item=e.item)))) rfl (Zz hs)
  rintro J1 w13 J2 hJ hs
  replace hJ:J2=upd (mix (sq 30 10++[4]) J1 _) 4 (.bool ((!decide (e.kind=4))&&(decide (o.item=e.item)))):=hJ
  subst hJ
  refine Qaw ?_
  refine ⟨_,Qaq (V:=.bool ((!decide (e.kind=4))&&(decide (o.item=e.item)))) Tryz.results46 rfl,(Zr hs ?_)⟩
  rw [Qfr c8 c8rr c8r]
  refine congrArg Value.bool ?_
  simp_all
 replace c12:=QQ2 c12
 refine Qap (Qag (Qab (Qaa (Qad (V:=.bool false) rfl (Qaf (Qaw ?_))))))
 refine ⟨_,Qaq (V:=.bool false) Tryz.results46 rfl,(Zr hs ?_)⟩
 rw [Qfr c8 c8rr c8r]
 refine congrArg Value.bool ?_
 simp_all
theorem QnM (w:World) (o e:Opn) (he:Qc1 e.dot):Calls Tryz.prog 97 #[.agg (oc o).toArray,.agg (oc e).toArray] w (fun r w'=>r = .returned (.bool (QaZ o e))/\Own w no w' []):=by
 refine Qaj (n:=46) Tryz.func97 rfl Tryz.ntmps97 rfl ?_
 have hs:=Own.start w
 refine Qag (Qab (Qaa (QaR (V:=.agg (oc o).toArray) (cs:=oc o) rfl rfl hs fun b1 w2 hs=>(Qaa (QaR (V:=.agg (oc e).toArray) (cs:=oc e) rfl rfl hs fun b3 w4 hs=>(Qaa (Qad (V:=.bool false) rfl (Qaf (Qag (Qag (Qbm [some 5,some 6,some 7,some 8,some 9,some 10,some 11,some 12,some 13,some 14,some 15,some 16,some 17,some 18,some 19,some 20,some 21,some 22] [] [0,1,3,7,15,31,15,79,255,511,1023,2047,4095,2047,10239,32767,65535,131071] [pv (.agg (oc e).toArray),pv (.bool (Qa4 e)),pv (.bool (!(Qa4 e))),pv (.bool (!(Qa4 e))),pg ((!(Qa4 e)) == false) (Pq b1 (0+3)),pg ((!(Qa4 e)) == false) (I7 o.cart),pg ((!(Qa4 e)) == false) (Pq b3 (0+3)),pg ((!(Qa4 e)) == false) (I7 e.cart),pg ((!(Qa4 e)) == false) (.bool (!decide (o.cart=e.cart))),pv (.bool ((!(Qa4 e))||(!decide (o.cart=e.cart)))),pv (.bool ((!(Qa4 e))||(!decide (o.cart=e.cart)))),pg (((!(Qa4 e))||(!decide (o.cart=e.cart))) == false) (Pq b1 (0+7)),pg (((!(Qa4 e))||(!decide (o.cart=e.cart))) == false) (.agg (vc o.ctx).toArray),pg (((!(Qa4 e))||(!decide (o.cart=e.cart))) == false) (Pq b3 (0+0)),pg (((!(Qa4 e))||(!decide (o.cart=e.cart))) == false) (.agg (dc e.dot).toArray),pg (((!(Qa4 e))||(!decide (o.cart=e.cart))) == false) (.bool (Qbz o.ctx e.dot)),pg (((!(Qa4 e))||(!decide (o.cart=e.cart))) == false) (.bool (!(Qbz o.ctx e.dot))),pv (.bool (((!(Qa4 e))||(!decide (o.cart=e.cart)))||(!(Qbz o.ctx e.dot))))] (fun _ _=>_) [17] (by kernel_rfl) hs ⟨?_,?_,?_,?_,?_,?_,?_,?_,?_,?_,?_,?_,?_,?_,?_,?_,?_,?_,trivial⟩ ?_)))))))))))
 ·exact oa [] fun D J w hs=>QaI (cs:=oc e) QbZ hs 1 rfl rfl rfl (Zz hs)
 ·exact oa [0] fun D J w hs=>Qau (vs:=[.agg (oc e).toArray]) (V:=.bool (Qa4 e)) Qt5 rfl rfl (QjV _ e) hs fun _ hs=>Zz hs
 ·exact oa [1] fun D J w hs=>Qbx rfl (Zz hs)
 ·exact oa [2] fun D J w hs=>Qac (V:=.bool (!(Qa4 e))) rfl (Zz hs)
 ·exact og [3] fun D J w hG hs=>Qae QdH rfl (Zz hs)
 ·exact oy [3,4] [4] fun D J w hG hs=>QaF (V:=.int .u16 o.cart) Qar hs 0 rfl rfl rfl (Zz hs)
 ·exact og [3] fun D J w hG hs=>Qae QdH rfl (Zz hs)
 ·exact oy [3,6] [6] fun D J w hG hs=>QaF (V:=.int .u16 e.cart) Qar hs 1 rfl rfl rfl (Zz hs)
 ·exact oy [3,5,7] [5,7] fun D J w hG hs=>Qb7 rfl rfl (Zz hs)
 ·exact oa [3,8] fun D J w hs=>QbM (h':=!decide (o.cart=e.cart)) rfl rfl rfl (Zz hs)
 ·exact oa [9] fun D J w hs=>Qac (V:=.bool ((!(Qa4 e))||(!decide (o.cart=e.cart)))) rfl (Zz hs)
 ·exact og [10] fun D J w hG hs=>Qae QdS rfl (Zz hs)
 ·exact oy [10,11] [11] fun D J w hG hs=>QbL (vs:=vc o.ctx) Qbt hs 0 rfl rfl rfl rfl (Zz hs)
 ·exact og [10] fun D J w hG hs=>Qae Qb0 rfl (Zz hs)
 ·exact oy [10,13] [13] fun D J w hG hs=>QbL (vs:=dc e.dot) QcI hs 1 rfl rfl rfl rfl (Zz hs)
 ·exact oy [10,12,14] [12,14] fun D J w hG hs=>Qau (vs:=[.agg (vc o.ctx).toArray,.agg (dc e.dot).toArray]) (V:=.bool (Qbz o.ctx e.dot)) QoN rfl rfl (QhN _ o.ctx e.dot (by first|assumption|exact Qdf (by omega) (by omega) (by omega) (by omega))) hs fun _ hs=>Zz hs
 ·exact oy [10,15] [15] fun D J w hG hs=>Qbx rfl (Zz hs)
 ·exact oa [10,16] fun D J w hs=>QbM (h':=!(Qbz o.ctx e.dot)) rfl rfl rfl (Zz hs)
 rintro J1 w7 J2 hJ hs
 replace hJ:J2=upd (mix (sq 5 18) J1 _) 22 (.bool (((!(Qa4 e))||(!decide (o.cart=e.cart)))||(!(Qbz o.ctx e.dot)))):=hJ
 subst hJ
 refine Qan (t:=((!(Qa4 e))||(!decide (o.cart=e.cart)))||(!(Qbz o.ctx e.dot))) rfl (fun c8=>?_) (fun c8=>?_)
 ·
  refine Qag (Qab (Qaa (Qad (V:=.bool false) rfl (Qaf (Qaw ?_)))))
  refine ⟨_,Qaq (V:=.bool false) Tryz.results97 rfl,(Zr hs ?_)⟩
  exact congrArg Value.bool (Qlm c8).symm
 have c8r:=Qeo c8
 replace c8:=Qet c8
 have c8rr:=Qeo c8
 replace c8:=Qet c8
 replace c8:=Qbd c8
 replace c8rr:=Qbd c8rr
 replace c8rr:=QQ1 c8rr
 replace c8r:=Qbd c8r
 refine Qap (Qag (Qag (Qab (Qaa (Qae QbQ rfl (Qaa (QaF (V:=.int .u8 o.kind) QcJ hs 0 rfl rfl rfl (Qaa (QaT rfl rfl (Qaf (Qan (t:=decide (o.kind=5)) rfl (fun c9=>?_) (fun c9=>?_))))))))))))
 ·
  replace c9:=QQ1 c9
  refine Qag (Qab (Qaa (Qad (V:=.bool true) rfl (Qaf (Qaw ?_)))))
  refine ⟨_,Qaq (V:=.bool true) Tryz.results97 rfl,(Zr hs ?_)⟩
  rw [Qfr c8 c8rr c8r]
  refine congrArg Value.bool ?_
  simp_all
  try exact Bool.and_assoc _ _ _
 replace c9:=QQ2 c9
 refine Qap (Qag (Qbm [some 26,some 27,some 28,some 29,some 30,some 31,some 32,some 33,some 34,some 35,some 36,some 37,some 38,some 39,some 40,some 41,some 42,some 43,some 44,some 45,some 4] [] [0,1,3,7,15,31,63,127,255,511,1023,2047,4095,8191,16383,32767,16383,81919,262143,524287,1048575] [pv (Pq b1 (0+2)),pv (.int .u8 o.kind),pv (.bool (decide (o.kind=3))),pv (.bool (decide (o.kind=3))),pg ((decide (o.kind=3)) == false) (Pq b1 (0+2)),pg ((decide (o.kind=3)) == false) (.int .u8 o.kind),pg ((decide (o.kind=3)) == false) (.bool (decide (o.kind=2))),pv (.bool ((decide (o.kind=3))||(decide (o.kind=2)))),pv (.bool ((decide (o.kind=3))||(decide (o.kind=2)))),pg (((decide (o.kind=3))||(decide (o.kind=2))) == true) (Pq b3 (0+2)),pg (((decide (o.kind=3))||(decide (o.kind=2))) == true) (.int .u8 e.kind),pg (((decide (o.kind=3))||(decide (o.kind=2))) == true) (.bool (!decide (e.kind=4))),pv (.bool (((decide (o.kind=3))||(decide (o.kind=2)))&&(!decide (e.kind=4)))),pv (.bool (((decide (o.kind=3))||(decide (o.kind=2)))&&(!decide (e.kind=4)))),pg ((((decide (o.kind=3))||(decide (o.kind=2)))&&(!decide (e.kind=4))) == true) (Pq b1 (0+4)),pg ((((decide (o.kind=3))||(decide (o.kind=2)))&&(!decide (e.kind=4))) == true) (I7 o.item),pg ((((decide (o.kind=3))||(decide (o.kind=2)))&&(!decide (e.kind=4))) == true) (Pq b3 (0+4)),pg ((((decide (o.kind=3))||(decide (o.kind=2)))&&(!decide (e.kind=4))) == true) (I7 e.item),pg ((((decide (o.kind=3))||(decide (o.kind=2)))&&(!decide (e.kind=4))) == true) (.bool (decide (o.item=e.item))),pv (.bool ((((decide (o.kind=3))||(decide (o.kind=2)))&&(!decide (e.kind=4)))&&(decide (o.item=e.item)))),pv (.bool ((((decide (o.kind=3))||(decide (o.kind=2)))&&(!decide (e.kind=4)))&&(decide (o.item=e.item))))] (fun _ _=>_) [20] (by kernel_rfl) hs ⟨?_,?_,?_,?_,?_,?_,?_,?_,?_,?_,?_,?_,?_,?_,?_,?_,?_,?_,?_,?_,?_,trivial⟩ ?_))
 ·exact oa [] fun D J w hs=>Qae QbQ rfl (Zz hs)
 ·exact oa [0] fun D J w hs=>QaF (V:=.int .u8 o.kind) QcJ hs 0 rfl rfl rfl (Zz hs)
 ·exact oa [1] fun D J w hs=>QaT rfl rfl (Zz hs)
 ·exact oa [2] fun D J w hs=>Qac (V:=.bool (decide (o.kind=3))) rfl (Zz hs)
 ·exact og [3] fun D J w hG hs=>Qae QbQ rfl (Zz hs)
 ·exact oy [3,4] [4] fun D J w hG hs=>QaF (V:=.int .u8 o.kind) QcJ hs 0 rfl rfl rfl (Zz hs)
 ·exact oy [3,5] [5] fun D J w hG hs=>QaT rfl rfl (Zz hs)
 ·exact oa [3,6] fun D J w hs=>QbM (h':=decide (o.kind=2)) rfl rfl rfl (Zz hs)
 ·exact oa [7] fun D J w hs=>Qac (V:=.bool ((decide (o.kind=3))||(decide (o.kind=2)))) rfl (Zz hs)
 ·exact og [8] fun D J w hG hs=>Qae QbQ rfl (Zz hs)
 ·exact oy [8,9] [9] fun D J w hG hs=>QaF (V:=.int .u8 e.kind) QcJ hs 1 rfl rfl rfl (Zz hs)
 ·exact oy [8,10] [10] fun D J w hG hs=>Qb7 rfl rfl (Zz hs)
 ·exact oa [8,11] fun D J w hs=>Qa7 (h':=!decide (e.kind=4)) rfl rfl rfl (Zz hs)
 ·exact oa [12] fun D J w hs=>Qac (V:=.bool (((decide (o.kind=3))||(decide (o.kind=2)))&&(!decide (e.kind=4)))) rfl (Zz hs)
 ·exact og [13] fun D J w hG hs=>Qae QcX rfl (Zz hs)
 ·exact oy [13,14] [14] fun D J w hG hs=>QaF (V:=.int .u16 o.item) Qar hs 0 rfl rfl rfl (Zz hs)
 ·exact og [13] fun D J w hG hs=>Qae QcX rfl (Zz hs)
 ·exact oy [13,16] [16] fun D J w hG hs=>QaF (V:=.int .u16 e.item) Qar hs 1 rfl rfl rfl (Zz hs)
 ·exact oy [13,15,17] [15,17] fun D J w hG hs=>QaT rfl rfl (Zz hs)
 ·exact oa [13,18] fun D J w hs=>Qa7 (h':=decide (o.item=e.item)) rfl rfl rfl (Zz hs)
 ·exact oa [19] fun D J w hs=>Qad (V:=.bool ((((decide (o.kind=3))||(decide (o.kind=2)))&&(!decide (e.kind=4)))&&(decide (o.item=e.item)))) rfl (Zz hs)
 rintro J1 w10 J2 hJ hs
 replace hJ:J2=upd (mix (sq 26 20++[4]) J1 _) 4 (.bool ((((decide (o.kind=3))||(decide (o.kind=2)))&&(!decide (e.kind=4)))&&(decide (o.item=e.item)))):=hJ
 subst hJ
 refine Qaw ?_
 refine ⟨_,Qaq (V:=.bool ((((decide (o.kind=3))||(decide (o.kind=2)))&&(!decide (e.kind=4)))&&(decide (o.item=e.item)))) Tryz.results97 rfl,(Zr hs ?_)⟩
 rw [Qfr c8 c8rr c8r]
 refine congrArg Value.bool ?_
 simp_all
 try exact Bool.and_assoc _ _ _
theorem QnD (w:World) (o:Opn) (ho:Qdk o):Calls Tryz.prog 151 #[.agg (oc o).toArray] w (fun e w'=>e = .returned (.bool (Qb6 o))/\Own w no w' []):=by
 refine Qaj (n:=28) Tryz.func151 rfl Tryz.ntmps151 rfl ?_
 have hs:=Own.start w
 refine Qag (Qab (Qaa (QaR (V:=.agg (oc o).toArray) (cs:=oc o) rfl rfl hs fun b1 w2 hs=>(Qaa (Qad (V:=.bool false) rfl (Qaf (Qag (Qag (Qab (Qaa (Qae QbQ rfl (Qaa (QaF (V:=.int .u8 o.kind) QcJ hs 0 rfl rfl rfl (Qaf (Qam (Qag (Qab (Qaa (QaT rfl rfl (Qaa (Qad (V:=.bool (decide (o.kind=1))) rfl (Qaf (Qan (t:=decide (o.kind=1)) rfl (fun c3=>?_) (fun c3=>?_))))))))))))))))))))))))
 ·
  replace c3:=QQ1 c3
  refine Qag (Qab (Qaa (Qae Qdo rfl (Qaa (QaF (V:=I7 o.qty) Qar hs 0 rfl rfl rfl (Qaa (QbW rfl rfl (Qaa (Qad (V:=.bool (decide (0<o.qty))) rfl (Qaf (Qaw ?_)))))))))))
  refine ⟨_,Qaq (V:=.bool (decide (0<o.qty))) Tryz.results151 rfl,(Zr hs (congrArg Value.bool ?_))⟩
  unfold Qb6
  have ⟨_,_,_,_,⟨hq1,hq2⟩,_,_⟩:=ho
  simp_all
  try omega
 replace c3:=QQ2 c3
 refine Qag (Qab (Qaa (QaT rfl rfl (Qaa (Qad (V:=.bool (decide (o.kind=2))) rfl (Qaf (Qan (t:=decide (o.kind=2)) rfl (fun c4=>?_) (fun c4=>?_))))))))
 ·
  replace c4:=QQ1 c4
  refine Qag (Qab (Qaa (Qad (V:=.bool true) rfl (Qaf (Qaw ?_)))))
  refine ⟨_,Qaq (V:=.bool true) Tryz.results151 rfl,(Zr hs (congrArg Value.bool ?_))⟩
  unfold Qb6
  have ⟨_,_,_,_,⟨hq1,hq2⟩,_,_⟩:=ho
  simp_all
  try omega
 replace c4:=QQ2 c4
 refine Qag (Qab (Qaa (QaT rfl rfl (Qaa (Qad (V:=.bool (decide (o.kind=3))) rfl (Qaf (Qan (t:=decide (o.kind=3)) rfl (fun c5=>?_) (fun c5=>?_))))))))
 ·
  replace c5:=QQ1 c5
  refine Qag (Qab (Qaa (Qae Qdo rfl (Qaa (QaF (V:=I7 o.qty) Qar hs 0 rfl rfl rfl (Qaa (QaT rfl rfl (Qaa (Qad (V:=.bool (decide (o.qty=0))) rfl (Qaf (Qaw ?_)))))))))))
  refine ⟨_,Qaq (V:=.bool (decide (o.qty=0))) Tryz.results151 rfl,(Zr hs (congrArg Value.bool ?_))⟩
  unfold Qb6
  have ⟨_,_,_,_,⟨hq1,hq2⟩,_,_⟩:=ho
  simp_all
  try omega
 replace c5:=QQ2 c5
 refine Qag (Qag (Qab (Qaa (QaT rfl rfl (Qaa (Qad (V:=.bool (decide (o.kind=4))) rfl (Qaf (Qan (t:=decide (o.kind=4)) rfl (fun c6=>?_) (fun c6=>?_)))))))))
 ·
  replace c6:=QQ1 c6
  refine Qap (Qdm (congrArg Value.bool (QQ3 c6)) ?_)
  refine Qag (Qbm [some 20,some 21,some 22,some 23,some 24,some 25,some 26,some 27,some 2] [] [0,1,3,7,15,31,63,127,255] [pv (Pq b1 (0+4)),pv (I7 o.item),pv (.bool (decide (o.item=0))),pv (.bool (decide (o.item=0))),pg ((decide (o.item=0)) == true) (Pq b1 (0+5)),pg ((decide (o.item=0)) == true) (I7 o.qty),pg ((decide (o.item=0)) == true) (.bool (decide (o.qty=0))),pv (.bool ((decide (o.item=0))&&(decide (o.qty=0)))),pv (.bool ((decide (o.item=0))&&(decide (o.qty=0))))] (fun _ _=>_) [8] (by kernel_rfl) hs ⟨?_,?_,?_,?_,?_,?_,?_,?_,?_,trivial⟩ ?_)
  ·exact oa [] fun D J w hs=>Qae QcX rfl (Zz hs)
  ·exact oa [0] fun D J w hs=>QaF (V:=.int .u16 o.item) Qar hs 0 rfl rfl rfl (Zz hs)
  ·exact oa [1] fun D J w hs=>QaT rfl rfl (Zz hs)
  ·exact oa [2] fun D J w hs=>Qac (V:=.bool (decide (o.item=0))) rfl (Zz hs)
  ·exact og [3] fun D J w hG hs=>Qae Qdo rfl (Zz hs)
  ·exact oy [3,4] [4] fun D J w hG hs=>QaF (V:=.int .u16 o.qty) Qar hs 0 rfl rfl rfl (Zz hs)
  ·exact oy [3,5] [5] fun D J w hG hs=>QaT rfl rfl (Zz hs)
  ·exact oa [3,6] fun D J w hs=>Qa7 (h':=decide (o.qty=0)) rfl rfl rfl (Zz hs)
  ·exact oa [7] fun D J w hs=>Qad (V:=.bool ((decide (o.item=0))&&(decide (o.qty=0)))) rfl (Zz hs)
  rintro J1 w7 J2 hJ hs
  replace hJ:J2=upd (mix (sq 20 8++[2]) J1 _) 2 (.bool ((decide (o.item=0))&&(decide (o.qty=0)))):=hJ
  subst hJ
  refine Qaw ?_
  refine ⟨_,Qaq (V:=.bool ((decide (o.item=0))&&(decide (o.qty=0)))) Tryz.results151 rfl,(Zr hs (congrArg Value.bool ?_))⟩
  unfold Qb6
  have ⟨_,_,_,_,⟨hq1,hq2⟩,_,_⟩:=ho
  simp_all
  try omega
 replace c6:=QQ2 c6
 refine Qab (Qaa (QaT rfl rfl (Qaa (Qad (V:=.bool (decide (o.kind=5))) rfl (Qaf (Qan (t:=decide (o.kind=5)) rfl (fun c8=>?_) (fun c8=>?_)))))))
 ·
  replace c8:=QQ1 c8
  refine Qag (Qbm [some 20,some 21,some 22,some 23,some 24,some 25,some 26,some 27,some 2] [] [0,1,3,7,15,31,63,127,255] [pv (Pq b1 (0+4)),pv (I7 o.item),pv (.bool (decide (o.item=0))),pv (.bool (decide (o.item=0))),pg ((decide (o.item=0)) == true) (Pq b1 (0+5)),pg ((decide (o.item=0)) == true) (I7 o.qty),pg ((decide (o.item=0)) == true) (.bool (decide (o.qty=0))),pv (.bool ((decide (o.item=0))&&(decide (o.qty=0)))),pv (.bool ((decide (o.item=0))&&(decide (o.qty=0))))] (fun _ _=>_) [8] (by kernel_rfl) hs ⟨?_,?_,?_,?_,?_,?_,?_,?_,?_,trivial⟩ ?_)
  ·exact oa [] fun D J w hs=>Qae QcX rfl (Zz hs)
  ·exact oa [0] fun D J w hs=>QaF (V:=.int .u16 o.item) Qar hs 0 rfl rfl rfl (Zz hs)
  ·exact oa [1] fun D J w hs=>QaT rfl rfl (Zz hs)
  ·exact oa [2] fun D J w hs=>Qac (V:=.bool (decide (o.item=0))) rfl (Zz hs)
  ·exact og [3] fun D J w hG hs=>Qae Qdo rfl (Zz hs)
  ·exact oy [3,4] [4] fun D J w hG hs=>QaF (V:=.int .u16 o.qty) Qar hs 0 rfl rfl rfl (Zz hs)
  ·exact oy [3,5] [5] fun D J w hG hs=>QaT rfl rfl (Zz hs)
  ·exact oa [3,6] fun D J w hs=>Qa7 (h':=decide (o.qty=0)) rfl rfl rfl (Zz hs)
  ·exact oa [7] fun D J w hs=>Qad (V:=.bool ((decide (o.item=0))&&(decide (o.qty=0)))) rfl (Zz hs)
  rintro J1 w9 J2 hJ hs
  replace hJ:J2=upd (mix (sq 20 8++[2]) J1 _) 2 (.bool ((decide (o.item=0))&&(decide (o.qty=0)))):=hJ
  subst hJ
  refine Qaw ?_
  refine ⟨_,Qaq (V:=.bool ((decide (o.item=0))&&(decide (o.qty=0)))) Tryz.results151 rfl,(Zr hs (congrArg Value.bool ?_))⟩
  unfold Qb6
  have ⟨_,_,_,_,⟨hq1,hq2⟩,_,_⟩:=ho
  simp_all
  try omega
 replace c8:=QQ2 c8
 refine Qap (Qag (Qab (Qaa (Qad (V:=.bool false) rfl (Qaf (Qaw ?_))))))
 refine ⟨_,Qaq (V:=.bool false) Tryz.results151 rfl,(Zr hs (congrArg Value.bool ?_))⟩
 unfold Qb6
 have ⟨_,_,_,_,⟨hq1,hq2⟩,_,_⟩:=ho
 simp_all
 try omega
theorem Qoi (w:World) (o:Opn) (ho:Qdk o):Calls Tryz.prog 152 #[.agg (oc o).toArray] w (fun e w'=>e = .returned (.bool (Qb6 o))/\Own w no w' []):=by
 refine Qaj (n:=28) Tryz.func152 rfl Tryz.ntmps152 rfl ?_
 have hs:=Own.start w
 refine Qag (Qab (Qaa (QaR (V:=.agg (oc o).toArray) (cs:=oc o) rfl rfl hs fun b1 w2 hs=>(Qaa (Qad (V:=.bool false) rfl (Qaf (Qag (Qag (Qab (Qaa (Qae QbQ rfl (Qaa (QaF (V:=.int .u8 o.kind) QcJ hs 0 rfl rfl rfl (Qaf (Qam (Qag (Qab (Qaa (QaT rfl rfl (Qaa (Qad (V:=.bool (decide (o.kind=1))) rfl (Qaf (Qan (t:=decide (o.kind=1)) rfl (fun c3=>?_) (fun c3=>?_))))))))))))))))))))))))
 ·
  replace c3:=QQ1 c3
  refine Qag (Qab (Qaa (Qae Qdo rfl (Qaa (QaF (V:=I7 o.qty) Qar hs 0 rfl rfl rfl (Qaa (QcC rfl rfl (Qaa (Qad (V:=.bool (decide (1<=o.qty))) rfl (Qaf (Qaw ?_)))))))))))
  refine ⟨_,Qaq (V:=.bool (decide (1<=o.qty))) Tryz.results152 rfl,(Zr hs (congrArg Value.bool ?_))⟩
  unfold Qb6
  have ⟨_,_,_,_,⟨hq1,hq2⟩,_,_⟩:=ho
  simp_all
  try omega
 replace c3:=QQ2 c3
 refine Qag (Qab (Qaa (QaT rfl rfl (Qaa (Qad (V:=.bool (decide (o.kind=2))) rfl (Qaf (Qan (t:=decide (o.kind=2)) rfl (fun c4=>?_) (fun c4=>?_))))))))
 ·
  replace c4:=QQ1 c4
  refine Qag (Qab (Qaa (Qad (V:=.bool true) rfl (Qaf (Qaw ?_)))))
  refine ⟨_,Qaq (V:=.bool true) Tryz.results152 rfl,(Zr hs (congrArg Value.bool ?_))⟩
  unfold Qb6
  have ⟨_,_,_,_,⟨hq1,hq2⟩,_,_⟩:=ho
  simp_all
  try omega
 replace c4:=QQ2 c4
 refine Qag (Qab (Qaa (QaT rfl rfl (Qaa (Qad (V:=.bool (decide (o.kind=3))) rfl (Qaf (Qan (t:=decide (o.kind=3)) rfl (fun c5=>?_) (fun c5=>?_))))))))
 ·
  replace c5:=QQ1 c5
  refine Qag (Qab (Qaa (Qae Qdo rfl (Qaa (QaF (V:=I7 o.qty) Qar hs 0 rfl rfl rfl (Qaa (QaT rfl rfl (Qaa (Qad (V:=.bool (decide (o.qty=0))) rfl (Qaf (Qaw ?_)))))))))))
  refine ⟨_,Qaq (V:=.bool (decide (o.qty=0))) Tryz.results152 rfl,(Zr hs (congrArg Value.bool ?_))⟩
  unfold Qb6
  have ⟨_,_,_,_,⟨hq1,hq2⟩,_,_⟩:=ho
  simp_all
  try omega
 replace c5:=QQ2 c5
 refine Qag (Qag (Qab (Qaa (QaT rfl rfl (Qaa (Qad (V:=.bool (decide (o.kind=4))) rfl (Qaf (Qan (t:=decide (o.kind=4)) rfl (fun c6=>?_) (fun c6=>?_)))))))))
 ·
  replace c6:=QQ1 c6
  refine Qap (Qdm (congrArg Value.bool (QQ3 c6)) ?_)
  refine Qag (Qbm [some 20,some 21,some 22,some 23,some 24,some 25,some 26,some 27,some 2] [] [0,1,3,7,15,31,63,127,255] [pv (Pq b1 (0+4)),pv (I7 o.item),pv (.bool (decide (o.item=0))),pv (.bool (decide (o.item=0))),pg ((decide (o.item=0)) == true) (Pq b1 (0+5)),pg ((decide (o.item=0)) == true) (I7 o.qty),pg ((decide (o.item=0)) == true) (.bool (decide (o.qty=0))),pv (.bool ((decide (o.item=0))&&(decide (o.qty=0)))),pv (.bool ((decide (o.item=0))&&(decide (o.qty=0))))] (fun _ _=>_) [8] (by kernel_rfl) hs ⟨?_,?_,?_,?_,?_,?_,?_,?_,?_,trivial⟩ ?_)
  ·exact oa [] fun D J w hs=>Qae QcX rfl (Zz hs)
  ·exact oa [0] fun D J w hs=>QaF (V:=.int .u16 o.item) Qar hs 0 rfl rfl rfl (Zz hs)
  ·exact oa [1] fun D J w hs=>QaT rfl rfl (Zz hs)
  ·exact oa [2] fun D J w hs=>Qac (V:=.bool (decide (o.item=0))) rfl (Zz hs)
  ·exact og [3] fun D J w hG hs=>Qae Qdo rfl (Zz hs)
  ·exact oy [3,4] [4] fun D J w hG hs=>QaF (V:=.int .u16 o.qty) Qar hs 0 rfl rfl rfl (Zz hs)
  ·exact oy [3,5] [5] fun D J w hG hs=>QaT rfl rfl (Zz hs)
  ·exact oa [3,6] fun D J w hs=>Qa7 (h':=decide (o.qty=0)) rfl rfl rfl (Zz hs)
  ·exact oa [7] fun D J w hs=>Qad (V:=.bool ((decide (o.item=0))&&(decide (o.qty=0)))) rfl (Zz hs)
  rintro J1 w7 J2 hJ hs
  replace hJ:J2=upd (mix (sq 20 8++[2]) J1 _) 2 (.bool ((decide (o.item=0))&&(decide (o.qty=0)))):=hJ
  subst hJ
  refine Qaw ?_
  refine ⟨_,Qaq (V:=.bool ((decide (o.item=0))&&(decide (o.qty=0)))) Tryz.results152 rfl,(Zr hs (congrArg Value.bool ?_))⟩
  unfold Qb6
  have ⟨_,_,_,_,⟨hq1,hq2⟩,_,_⟩:=ho
  simp_all
  try omega
 replace c6:=QQ2 c6
 refine Qab (Qaa (QaT rfl rfl (Qaa (Qad (V:=.bool (decide (o.kind=5))) rfl (Qaf (Qan (t:=decide (o.kind=5)) rfl (fun c8=>?_) (fun c8=>?_)))))))
 ·
  replace c8:=QQ1 c8
  refine Qag (Qbm [some 20,some 21,some 22,some 23,some 24,some 25,some 26,some 27,some 2] [] [0,1,3,7,15,31,63,127,255] [pv (Pq b1 (0+4)),pv (I7 o.item),pv (.bool (decide (o.item=0))),pv (.bool (decide (o.item=0))),pg ((decide (o.item=0)) == true) (Pq b1 (0+5)),pg ((decide (o.item=0)) == true) (I7 o.qty),pg ((decide (o.item=0)) == true) (.bool (decide (o.qty=0))),pv (.bool ((decide (o.item=0))&&(decide (o.qty=0)))),pv (.bool ((decide (o.item=0))&&(decide (o.qty=0))))] (fun _ _=>_) [8] (by kernel_rfl) hs ⟨?_,?_,?_,?_,?_,?_,?_,?_,?_,trivial⟩ ?_)
  ·exact oa [] fun D J w hs=>Qae QcX rfl (Zz hs)
  ·exact oa [0] fun D J w hs=>QaF (V:=.int .u16 o.item) Qar hs 0 rfl rfl rfl (Zz hs)
  ·exact oa [1] fun D J w hs=>QaT rfl rfl (Zz hs)
  ·exact oa [2] fun D J w hs=>Qac (V:=.bool (decide (o.item=0))) rfl (Zz hs)
  ·exact og [3] fun D J w hG hs=>Qae Qdo rfl (Zz hs)
  ·exact oy [3,4] [4] fun D J w hG hs=>QaF (V:=.int .u16 o.qty) Qar hs 0 rfl rfl rfl (Zz hs)
  ·exact oy [3,5] [5] fun D J w hG hs=>QaT rfl rfl (Zz hs)
  ·exact oa [3,6] fun D J w hs=>Qa7 (h':=decide (o.qty=0)) rfl rfl rfl (Zz hs)
  ·exact oa [7] fun D J w hs=>Qad (V:=.bool ((decide (o.item=0))&&(decide (o.qty=0)))) rfl (Zz hs)
  rintro J1 w9 J2 hJ hs
  replace hJ:J2=upd (mix (sq 20 8++[2]) J1 _) 2 (.bool ((decide (o.item=0))&&(decide (o.qty=0)))):=hJ
  subst hJ
  refine Qaw ?_
  refine ⟨_,Qaq (V:=.bool ((decide (o.item=0))&&(decide (o.qty=0)))) Tryz.results152 rfl,(Zr hs (congrArg Value.bool ?_))⟩
  unfold Qb6
  have ⟨_,_,_,_,⟨hq1,hq2⟩,_,_⟩:=ho
  simp_all
  try omega
 replace c8:=QQ2 c8
 refine Qap (Qag (Qab (Qaa (Qad (V:=.bool false) rfl (Qaf (Qaw ?_))))))
 refine ⟨_,Qaq (V:=.bool false) Tryz.results152 rfl,(Zr hs (congrArg Value.bool ?_))⟩
 unfold Qb6
 have ⟨_,_,_,_,⟨hq1,hq2⟩,_,_⟩:=ho
 simp_all
 try omega
theorem Qlx (w:World) (o:Opn) (n:Int) (hO:Qdk o):Calls Tryz.prog 103 #[.agg (oc o).toArray,.int .i64 n] w (fun e w'=>e = .returned (.bool (QaP o n))/\Own w no w' []):=by
 refine Qaj (n:=50) Tryz.func103 rfl Tryz.ntmps103 rfl ?_
 have hs:=Own.start w
 have ⟨⟨⟨hr1,hr2⟩,hr3,hr4⟩,_,_,_,⟨hq1,hq2⟩,_,hctx⟩:=hO
 refine Qag (Qab (Qaa (QaR (V:=.agg (oc o).toArray) (cs:=oc o) rfl rfl hs fun b1 w2 hs=>(Qaa (Qad (V:=.bool false) rfl (Qaf (Qag (Qag (Qbm [some 6,some 7,some 8,some 9,some 10,some 11,some 12,some 13,some 14,some 15,some 16,some 17,some 18,some 19,some 20,some 21,some 22,some 23,some 24,some 25,some 26,some 27,some 28] [] [0,1,0,7,15,31,63,127,255,511,63,2047,4095,8191,16383,32767,65535,131071,262143,524287,1048575,2097151,4194303] [pv (Pq b1 (0+7)),pv (.agg (vc o.ctx).toArray),pv (I6 n),pv (.bool (QaN o.ctx n)),pv (.bool (!(QaN o.ctx n))),pv (.bool (!(QaN o.ctx n))),pg ((!(QaN o.ctx n)) == false) (Pq b1 (0+0)),pg ((!(QaN o.ctx n)) == false) (Pq b1 (0+0+0)),pg ((!(QaN o.ctx n)) == false) (.int .u8 o.dot.rep),pg ((!(QaN o.ctx n)) == false) (I6 o.dot.rep),pg ((!(QaN o.ctx n)) == false) (I6 n),pg ((!(QaN o.ctx n)) == false) (.bool (decide (n<=o.dot.rep))),pv (.bool ((!(QaN o.ctx n))||(decide (n<=o.dot.rep)))),pv (.bool ((!(QaN o.ctx n))||(decide (n<=o.dot.rep)))),pg (((!(QaN o.ctx n))||(decide (n<=o.dot.rep))) == false) (Pq b1 (0+6)),pg (((!(QaN o.ctx n))||(decide (n<=o.dot.rep))) == false) (.int .u32 o.tick),pg (((!(QaN o.ctx n))||(decide (n<=o.dot.rep))) == false) (.bool (decide (1073741824<o.tick))),pv (.bool (((!(QaN o.ctx n))||(decide (n<=o.dot.rep)))||(decide (1073741824<o.tick)))),pv (.bool (((!(QaN o.ctx n))||(decide (n<=o.dot.rep)))||(decide (1073741824<o.tick)))),pg ((((!(QaN o.ctx n))||(decide (n<=o.dot.rep)))||(decide (1073741824<o.tick))) == false) (.agg (oc o).toArray),pg ((((!(QaN o.ctx n))||(decide (n<=o.dot.rep)))||(decide (1073741824<o.tick))) == false) (.bool (Qb6 o)),pg ((((!(QaN o.ctx n))||(decide (n<=o.dot.rep)))||(decide (1073741824<o.tick))) == false) (.bool (!(Qb6 o))),pv (.bool ((((!(QaN o.ctx n))||(decide (n<=o.dot.rep)))||(decide (1073741824<o.tick)))||(!(Qb6 o))))] (fun _ _=>_) [22] (by kernel_rfl) hs ⟨?_,?_,?_,?_,?_,?_,?_,?_,?_,?_,?_,?_,?_,?_,?_,?_,?_,?_,?_,?_,?_,?_,?_,trivial⟩ ?_)))))))))
 ·exact oa [] fun D J w hs=>Qae QdS rfl (Zz hs)
 ·exact oa [0] fun D J w hs=>QbL (vs:=vc o.ctx) Qbt hs 0 rfl rfl rfl rfl (Zz hs)
 ·exact oa [] fun D J w hs=>Qac (V:=.int .i64 n) rfl (Zz hs)
 ·exact oa [1,2] fun D J w hs=>Qau (vs:=[.agg (vc o.ctx).toArray,.int .i64 n]) (V:=.bool (QaN o.ctx n)) Qrz rfl rfl (Qgu _ o.ctx n (by first|assumption|exact Qb1)) hs fun _ hs=>Zz hs
 ·exact oa [3] fun D J w hs=>Qbx rfl (Zz hs)
 ·exact oa [4] fun D J w hs=>Qac (V:=.bool (!(QaN o.ctx n))) rfl (Zz hs)
 ·exact og [5] fun D J w hG hs=>Qae Qb0 rfl (Zz hs)
 ·exact oy [5,6] [6] fun D J w hG hs=>Qae QbH rfl (Zz hs)
 ·exact oy [5,7] [7] fun D J w hG hs=>QaF (V:=.int .u8 o.dot.rep) QcJ hs 0 rfl rfl rfl (Zz hs)
 ·exact oy [5,8] [8] fun D J w hG hs=>Qb4 Qv1 Qh1 rfl (QbK (by omega) (by omega)) (Zz hs)
 ·exact og [5] fun D J w hG hs=>Qac (V:=.int .i64 n) rfl (Zz hs)
 ·exact oy [5,9,10] [9,10] fun D J w hG hs=>QcC rfl rfl (Zz hs)
 ·exact oa [5,11] fun D J w hs=>QbM (h':=decide (n<=o.dot.rep)) rfl rfl rfl (Zz hs)
 ·exact oa [12] fun D J w hs=>Qac (V:=.bool ((!(QaN o.ctx n))||(decide (n<=o.dot.rep)))) rfl (Zz hs)
 ·exact og [13] fun D J w hG hs=>Qae QhE rfl (Zz hs)
 ·exact oy [13,14] [14] fun D J w hG hs=>QaF (V:=.int .u32 o.tick) Qa8 hs 0 rfl rfl rfl (Zz hs)
 ·exact oy [13,15] [15] fun D J w hG hs=>QbW rfl rfl (Zz hs)
 ·exact oa [13,16] fun D J w hs=>QbM (h':=decide (1073741824<o.tick)) rfl rfl rfl (Zz hs)
 ·exact oa [17] fun D J w hs=>Qac (V:=.bool (((!(QaN o.ctx n))||(decide (n<=o.dot.rep)))||(decide (1073741824<o.tick)))) rfl (Zz hs)
 ·exact og [18] fun D J w hG hs=>QaI (cs:=oc o) QbZ hs 0 rfl rfl rfl (Zz hs)
 ·exact oy [18,19] [19] fun D J w hG hs=>Qau (vs:=[.agg (oc o).toArray]) (V:=.bool (Qb6 o)) Qub rfl rfl (QnD _ o (by assumption)) hs fun _ hs=>Zz hs
 ·exact oy [18,20] [20] fun D J w hG hs=>Qbx rfl (Zz hs)
 ·exact oa [18,21] fun D J w hs=>QbM (h':=!(Qb6 o)) rfl rfl rfl (Zz hs)
 rintro J1 w5 J2 hJ hs
 replace hJ:J2=upd (mix (sq 6 23) J1 _) 28 (.bool ((((!(QaN o.ctx n))||(decide (n<=o.dot.rep)))||(decide (1073741824<o.tick)))||(!(Qb6 o)))):=hJ
 subst hJ
 refine Qan (t:=(((!(QaN o.ctx n))||(decide (n<=o.dot.rep)))||(decide (1073741824<o.tick)))||(!(Qb6 o))) rfl (fun c6=>?_) (fun c6=>?_)
 ·
  refine Qag (Qab (Qaa (Qad (V:=.bool false) rfl (Qaf (Qaw ?_)))))
  refine ⟨_,Qaq (V:=.bool false) Tryz.results103 rfl,(Zr hs ?_)⟩
  exact congrArg Value.bool (Qnu c6).symm
 have c6r:=Qeo c6
 replace c6:=Qet c6
 have c6rr:=Qeo c6
 replace c6:=Qet c6
 have c6rrr:=Qeo c6
 replace c6:=Qet c6
 replace c6:=Qbd c6
 replace c6rrr:=QQ2 c6rrr
 replace c6rr:=QQ2 c6rr
 replace c6r:=Qbd c6r
 refine Qap (Qag (Qab (Qaa (Qae Qb0 rfl (Qaa (QbL (vs:=dc o.dot) QcI hs 0 rfl rfl rfl rfl (Qaa (QaK (cs:=dc (⟨0,0⟩:Dot)) QvT rfl hs fun b7 w8 hs=>(Qaa (Qcq (V:=.agg (dc o.dot).toArray) (vs:=dc o.dot) (cs':=dc o.dot) QcI.1 hs 1 rfl rfl rfl rfl rfl (QQ8 rfl) (QsU _) (Qay rfl) fun w9 hs=>(Qaf (Qag ?_))))))))))))
 have hnn:=QhH c6
 refine QaJ HM [some 31,some 32,some 33,some 34,some 35,some 36,some 37,some 38,some 39,some 40,some 41,some 42,some 43,some 44,some 45,some 46,some 47,some 48,some 49,some 4] [] [0,1,3,7,15,31,63,127,255,511,1023,511,4095,8191,511,16895,49663,131071,262143,524287] [pv (Pq b7 (0+1)),pv (.int .u32 o.dot.seq),pv (.bool (decide (1<=o.dot.seq))),pv (.bool (decide (1<=o.dot.seq))),pg ((decide (1<=o.dot.seq)) == true) (Pq b7 (0+1)),pg ((decide (1<=o.dot.seq)) == true) (.int .u32 o.dot.seq),pg ((decide (1<=o.dot.seq)) == true) (.bool (decide (o.dot.seq<=1048576))),pv (.bool ((decide (1<=o.dot.seq))&&(decide (o.dot.seq<=1048576)))),pv (.bool ((decide (1<=o.dot.seq))&&(decide (o.dot.seq<=1048576)))),pg (((decide (1<=o.dot.seq))&&(decide (o.dot.seq<=1048576))) == true) (Pq b7 (0+0)),pg (((decide (1<=o.dot.seq))&&(decide (o.dot.seq<=1048576))) == true) (.int .u8 o.dot.rep),pg (((decide (1<=o.dot.seq))&&(decide (o.dot.seq<=1048576))) == true) (Pq b1 (0+7)),pg (((decide (1<=o.dot.seq))&&(decide (o.dot.seq<=1048576))) == true) (.pointer (some ⟨b1,0+7+o.dot.rep.toNat,none⟩)),pg (((decide (1<=o.dot.seq))&&(decide (o.dot.seq<=1048576))) == true) (.int .u32 (vat o.ctx o.dot.rep.toNat)),pg (((decide (1<=o.dot.seq))&&(decide (o.dot.seq<=1048576))) == true) (Pq b7 (0+1)),pg (((decide (1<=o.dot.seq))&&(decide (o.dot.seq<=1048576))) == true) (.int .u32 o.dot.seq),pg (((decide (1<=o.dot.seq))&&(decide (o.dot.seq<=1048576))) == true) (.int .u32 (o.dot.seq-1)),pg (((decide (1<=o.dot.seq))&&(decide (o.dot.seq<=1048576))) == true) (.bool (decide (vat o.ctx o.dot.rep.toNat=o.dot.seq-1))),pv (.bool (((decide (1<=o.dot.seq))&&(decide (o.dot.seq<=1048576)))&&(decide (vat o.ctx o.dot.rep.toNat=o.dot.seq-1)))),pv (.bool (((decide (1<=o.dot.seq))&&(decide (o.dot.seq<=1048576)))&&(decide (vat o.ctx o.dot.rep.toNat=o.dot.seq-1))))] (fun _ _=>_) [19] (by kernel_rfl) hs ⟨?_,?_,?_,?_,?_,?_,?_,?_,?_,?_,?_,?_,?_,?_,?_,?_,?_,?_,?_,?_,trivial⟩ ?_
 ·exact oa [] fun D J w hs=>Qae QbR rfl (Zz hs)
 ·exact oa [0] fun D J w hs=>QaF (V:=.int .u32 o.dot.seq) Qa8 hs 1 rfl rfl rfl (Zz hs)
 ·exact oa [1] fun D J w hs=>QcC rfl rfl (Zz hs)
 ·exact oa [2] fun D J w hs=>Qac (V:=.bool (decide (1<=o.dot.seq))) rfl (Zz hs)
 ·exact og [3] fun D J w hG hs=>Qae QbR rfl (Zz hs)
 ·exact oy [3,4] [4] fun D J w hG hs=>QaF (V:=.int .u32 o.dot.seq) Qa8 hs 1 rfl rfl rfl (Zz hs)
 ·exact oy [3,5] [5] fun D J w hG hs=>Qdn rfl rfl (Zz hs)
 ·exact oa [3,6] fun D J w hs=>Qa7 (h':=decide (o.dot.seq<=1048576)) rfl rfl rfl (Zz hs)
 ·exact oa [7] fun D J w hs=>Qac (V:=.bool ((decide (1<=o.dot.seq))&&(decide (o.dot.seq<=1048576)))) rfl (Zz hs)
 ·refine og [8] fun D J w hG hs=>?_
  have hg9:=QbC (eq_of_beq hG)
  have hgd:=QQ1 hg9
  exact Qae QbH rfl (Zz hs)
 ·refine oy [8,9] [9] fun D J w hG hs=>?_
  have hg9:=QbC (eq_of_beq hG)
  have hgd:=QQ1 hg9
  exact QaF (V:=.int .u8 o.dot.rep) QcJ hs 1 rfl rfl rfl (Zz hs)
 ·refine og [8] fun D J w hG hs=>?_
  have hg9:=QbC (eq_of_beq hG)
  have hgd:=QQ1 hg9
  exact Qae QdS rfl (Zz hs)
 ·refine oy [8,10,11] [10,11] fun D J w hG hs=>?_
  have hg9:=QbC (eq_of_beq hG)
  have hgd:=QQ1 hg9
  exact Qcx Qe7 Qa8.1 rfl rfl (by omega) (by omega) (Zz hs)
 ·refine oy [8,12] [12] fun D J w hG hs=>?_
  have hg9:=QbC (eq_of_beq hG)
  have hgd:=QQ1 hg9
  exact QaF (V:=.int .u32 (vat o.ctx o.dot.rep.toNat)) Qa8 hs 0 rfl rfl (Qqd (by omega) (by omega)) (Zz hs)
 ·refine og [8] fun D J w hG hs=>?_
  have hg9:=QbC (eq_of_beq hG)
  have hgd:=QQ1 hg9
  exact Qae QbR rfl (Zz hs)
 ·refine oy [8,14] [14] fun D J w hG hs=>?_
  have hg9:=QbC (eq_of_beq hG)
  have hgd:=QQ1 hg9
  exact QaF (V:=.int .u32 o.dot.seq) Qa8 hs 1 rfl rfl rfl (Zz hs)
 ·refine oy [8,15] [15] fun D J w hG hs=>?_
  have hg9:=QbC (eq_of_beq hG)
  have hgd:=QQ1 hg9
  exact Qba (a:=o.dot.seq) (b:=1) (c:=o.dot.seq-1) rfl rfl (Qgv (by omega) (by omega)) (Zz hs)
 ·refine oy [8,13,16] [13,16] fun D J w hG hs=>?_
  have hg9:=QbC (eq_of_beq hG)
  have hgd:=QQ1 hg9
  exact QaT rfl rfl (Zz hs)
 ·exact oa [8,17] fun D J w hs=>Qa7 (h':=decide (vat o.ctx o.dot.rep.toNat=o.dot.seq-1)) rfl rfl rfl (Zz hs)
 ·exact oa [18] fun D J w hs=>Qad (V:=.bool (((decide (1<=o.dot.seq))&&(decide (o.dot.seq<=1048576)))&&(decide (vat o.ctx o.dot.rep.toNat=o.dot.seq-1)))) rfl (Zz hs)
 rintro J1 w10 J2 hJ hs
 replace hJ:J2=upd (mix (sq 31 19++[4]) J1 _) 4 (.bool (((decide (1<=o.dot.seq))&&(decide (o.dot.seq<=1048576)))&&(decide (vat o.ctx o.dot.rep.toNat=o.dot.seq-1)))):=hJ
 subst hJ
 refine Qaw ?_
 refine ⟨_,Qaq (V:=.bool (((decide (1<=o.dot.seq))&&(decide (o.dot.seq<=1048576)))&&(decide (vat o.ctx o.dot.rep.toNat=o.dot.seq-1)))) Tryz.results103 rfl,(Zr hs ?_)⟩
 exact congrArg Value.bool (QnQ c6 c6rrr c6rr c6r).symm
theorem QkN (w:World) (o:Opn) (n:Int) (hO:Qdk o):Calls Tryz.prog 105 #[.agg (oc o).toArray,.int .i64 n] w (fun e w'=>e = .returned (.bool (QaP o n))/\Own w no w' []):=by
 refine Qaj (n:=52) Tryz.func105 rfl Tryz.ntmps105 rfl ?_
 have hs:=Own.start w
 have ⟨⟨⟨hr1,hr2⟩,hr3,hr4⟩,_,_,_,⟨hq1,hq2⟩,_,hctx⟩:=hO
 refine Qag (Qab (Qaa (QaR (V:=.agg (oc o).toArray) (cs:=oc o) rfl rfl hs fun b1 w2 hs=>(Qaa (Qad (V:=.bool false) rfl (Qaf (Qag (Qag (Qbm [some 5,some 6,some 7,some 8,some 9,some 10,some 11,some 12,some 13,some 14,some 15,some 16,some 17,some 18,some 19,some 20,some 21,some 22,some 23,some 24,some 25,some 26,some 27,some 28,some 29,some 30,some 31] [] [0,1,3,7,15,31,63,127,255,511,1023,127,4095,8191,16383,32767,65535,131071,262143,524287,1048575,2097151,4194303,2097151,16777215,33554431,67108863] [pv (I6 n),pv (.bool (decide (n<1))),pv (.bool (decide (n<1))),pg ((decide (n<1)) == false) (I6 n),pg ((decide (n<1)) == false) (.bool (decide (16<n))),pv (.bool ((decide (n<1))||(decide (16<n)))),pv (.bool ((decide (n<1))||(decide (16<n)))),pg (((decide (n<1))||(decide (16<n))) == false) (Pq b1 (0+0)),pg (((decide (n<1))||(decide (16<n))) == false) (Pq b1 (0+0+0)),pg (((decide (n<1))||(decide (16<n))) == false) (.int .u8 o.dot.rep),pg (((decide (n<1))||(decide (16<n))) == false) (I6 o.dot.rep),pg (((decide (n<1))||(decide (16<n))) == false) (I6 n),pg (((decide (n<1))||(decide (16<n))) == false) (.bool (decide (n<=o.dot.rep))),pv (.bool (((decide (n<1))||(decide (16<n)))||(decide (n<=o.dot.rep)))),pv (.bool (((decide (n<1))||(decide (16<n)))||(decide (n<=o.dot.rep)))),pg ((((decide (n<1))||(decide (16<n)))||(decide (n<=o.dot.rep))) == false) (Pq b1 (0+0)),pg ((((decide (n<1))||(decide (16<n)))||(decide (n<=o.dot.rep))) == false) (.agg (dc o.dot).toArray),pg ((((decide (n<1))||(decide (16<n)))||(decide (n<=o.dot.rep))) == false) (.bool (Qb8 o.dot)),pg ((((decide (n<1))||(decide (16<n)))||(decide (n<=o.dot.rep))) == false) (.bool (!(Qb8 o.dot))),pv (.bool ((((decide (n<1))||(decide (16<n)))||(decide (n<=o.dot.rep)))||(!(Qb8 o.dot)))),pv (.bool ((((decide (n<1))||(decide (16<n)))||(decide (n<=o.dot.rep)))||(!(Qb8 o.dot)))),pg (((((decide (n<1))||(decide (16<n)))||(decide (n<=o.dot.rep)))||(!(Qb8 o.dot))) == false) (Pq b1 (0+7)),pg (((((decide (n<1))||(decide (16<n)))||(decide (n<=o.dot.rep)))||(!(Qb8 o.dot))) == false) (.agg (vc o.ctx).toArray),pg (((((decide (n<1))||(decide (16<n)))||(decide (n<=o.dot.rep)))||(!(Qb8 o.dot))) == false) (I6 n),pg (((((decide (n<1))||(decide (16<n)))||(decide (n<=o.dot.rep)))||(!(Qb8 o.dot))) == false) (.bool (QaN o.ctx n)),pg (((((decide (n<1))||(decide (16<n)))||(decide (n<=o.dot.rep)))||(!(Qb8 o.dot))) == false) (.bool (!(QaN o.ctx n))),pv (.bool (((((decide (n<1))||(decide (16<n)))||(decide (n<=o.dot.rep)))||(!(Qb8 o.dot)))||(!(QaN o.ctx n))))] (fun _ _=>_) [26] (by kernel_rfl) hs ⟨?_,?_,?_,?_,?_,?_,?_,?_,?_,?_,?_,?_,?_,?_,?_,?_,?_,?_,?_,?_,?_,?_,?_,?_,?_,?_,?_,trivial⟩ ?_)))))))))
 ·exact oa [] fun D J w hs=>Qac (V:=.int .i64 n) rfl (Zz hs)
 ·exact oa [0] fun D J w hs=>QaS rfl rfl (Zz hs)
 ·exact oa [1] fun D J w hs=>Qac (V:=.bool (decide (n<1))) rfl (Zz hs)
 ·exact og [2] fun D J w hG hs=>Qac (V:=.int .i64 n) rfl (Zz hs)
 ·exact oy [2,3] [3] fun D J w hG hs=>QbW rfl rfl (Zz hs)
 ·exact oa [2,4] fun D J w hs=>QbM (h':=decide (16<n)) rfl rfl rfl (Zz hs)
 ·exact oa [5] fun D J w hs=>Qac (V:=.bool ((decide (n<1))||(decide (16<n)))) rfl (Zz hs)
 ·exact og [6] fun D J w hG hs=>Qae Qb0 rfl (Zz hs)
 ·exact oy [6,7] [7] fun D J w hG hs=>Qae QbH rfl (Zz hs)
 ·exact oy [6,8] [8] fun D J w hG hs=>QaF (V:=.int .u8 o.dot.rep) QcJ hs 0 rfl rfl rfl (Zz hs)
 ·exact oy [6,9] [9] fun D J w hG hs=>Qb4 Qv1 Qh1 rfl (QbK (by omega) (by omega)) (Zz hs)
 ·exact og [6] fun D J w hG hs=>Qac (V:=.int .i64 n) rfl (Zz hs)
 ·exact oy [6,10,11] [10,11] fun D J w hG hs=>QcC rfl rfl (Zz hs)
 ·exact oa [6,12] fun D J w hs=>QbM (h':=decide (n<=o.dot.rep)) rfl rfl rfl (Zz hs)
 ·exact oa [13] fun D J w hs=>Qac (V:=.bool (((decide (n<1))||(decide (16<n)))||(decide (n<=o.dot.rep)))) rfl (Zz hs)
 ·exact og [14] fun D J w hG hs=>Qae Qb0 rfl (Zz hs)
 ·exact oy [14,15] [15] fun D J w hG hs=>QbL (vs:=dc o.dot) QcI hs 0 rfl rfl rfl rfl (Zz hs)
 ·exact oy [14,16] [16] fun D J w hG hs=>Qau (vs:=[.agg (dc o.dot).toArray]) (V:=.bool (Qb8 o.dot)) Qpx rfl rfl (QlO _ o.dot) hs fun _ hs=>Zz hs
 ·exact oy [14,17] [17] fun D J w hG hs=>Qbx rfl (Zz hs)
 ·exact oa [14,18] fun D J w hs=>QbM (h':=!(Qb8 o.dot)) rfl rfl rfl (Zz hs)
 ·exact oa [19] fun D J w hs=>Qac (V:=.bool ((((decide (n<1))||(decide (16<n)))||(decide (n<=o.dot.rep)))||(!(Qb8 o.dot)))) rfl (Zz hs)
 ·exact og [20] fun D J w hG hs=>Qae QdS rfl (Zz hs)
 ·exact oy [20,21] [21] fun D J w hG hs=>QbL (vs:=vc o.ctx) Qbt hs 0 rfl rfl rfl rfl (Zz hs)
 ·exact og [20] fun D J w hG hs=>Qac (V:=.int .i64 n) rfl (Zz hs)
 ·exact oy [20,22,23] [22,23] fun D J w hG hs=>Qau (vs:=[.agg (vc o.ctx).toArray,.int .i64 n]) (V:=.bool (QaN o.ctx n)) QqH rfl rfl (Qgt _ o.ctx n (by first|assumption|exact Qb1)) hs fun _ hs=>Zz hs
 ·exact oy [20,24] [24] fun D J w hG hs=>Qbx rfl (Zz hs)
 ·exact oa [20,25] fun D J w hs=>QbM (h':=!(QaN o.ctx n)) rfl rfl rfl (Zz hs)
 rintro J1 w5 J2 hJ hs
 replace hJ:J2=upd (mix (sq 5 27) J1 _) 31 (.bool (((((decide (n<1))||(decide (16<n)))||(decide (n<=o.dot.rep)))||(!(Qb8 o.dot)))||(!(QaN o.ctx n)))):=hJ
 subst hJ
 refine Qan (t:=((((decide (n<1))||(decide (16<n)))||(decide (n<=o.dot.rep)))||(!(Qb8 o.dot)))||(!(QaN o.ctx n))) rfl (fun c6=>?_) (fun c6=>?_)
 ·
  refine Qag (Qab (Qaa (Qad (V:=.bool false) rfl (Qaf (Qaw ?_)))))
  refine ⟨_,Qaq (V:=.bool false) Tryz.results105 rfl,(Zr hs ?_)⟩
  exact congrArg Value.bool (Qly c6).symm
 have c6r:=Qeo c6
 replace c6:=Qet c6
 have c6rr:=Qeo c6
 replace c6:=Qet c6
 have c6rrr:=Qeo c6
 replace c6:=Qet c6
 have c6rrrr:=Qeo c6
 replace c6:=Qet c6
 replace c6:=QQ2 c6
 replace c6rrrr:=QQ2 c6rrrr
 replace c6rrr:=QQ2 c6rrr
 replace c6rr:=Qbd c6rr
 replace c6r:=Qbd c6r
 refine Qap (Qag ?_)
 have hnn:=QhH c6r
 have hdd:=QaQ c6rr
 refine QaJ HM [some 32,some 33,some 34,some 35,some 36,some 37,some 38,some 39,some 40,some 41,some 42,some 43,some 44,some 45,some 46,some 47,some 48,some 49,some 50,some 51,some 4] [] [0,1,3,0,15,31,0,64,192,448,1023,2047,4095,8191,16383,32767,65535,131071,262143,524287,1048575] [pv (Pq b1 (0+0)),pv (Pq b1 (0+0+0)),pv (.int .u8 o.dot.rep),pv (Pq b1 (0+7)),pv (.pointer (some ⟨b1,0+7+o.dot.rep.toNat,none⟩)),pv (.int .u32 (vat o.ctx o.dot.rep.toNat)),pv (Pq b1 (0+0)),pv (Pq b1 (0+0+1)),pv (.int .u32 o.dot.seq),pv (.int .u32 (o.dot.seq-1)),pv (.bool (decide (vat o.ctx o.dot.rep.toNat=o.dot.seq-1))),pv (.bool (decide (vat o.ctx o.dot.rep.toNat=o.dot.seq-1))),pg ((decide (vat o.ctx o.dot.rep.toNat=o.dot.seq-1)) == true) (Pq b1 (0+6)),pg ((decide (vat o.ctx o.dot.rep.toNat=o.dot.seq-1)) == true) (.int .u32 o.tick),pg ((decide (vat o.ctx o.dot.rep.toNat=o.dot.seq-1)) == true) (.bool (decide (o.tick<=1073741824))),pv (.bool ((decide (vat o.ctx o.dot.rep.toNat=o.dot.seq-1))&&(decide (o.tick<=1073741824)))),pv (.bool ((decide (vat o.ctx o.dot.rep.toNat=o.dot.seq-1))&&(decide (o.tick<=1073741824)))),pg (((decide (vat o.ctx o.dot.rep.toNat=o.dot.seq-1))&&(decide (o.tick<=1073741824))) == true) (.agg (oc o).toArray),pg (((decide (vat o.ctx o.dot.rep.toNat=o.dot.seq-1))&&(decide (o.tick<=1073741824))) == true) (.bool (Qb6 o)),pv (.bool (((decide (vat o.ctx o.dot.rep.toNat=o.dot.seq-1))&&(decide (o.tick<=1073741824)))&&(Qb6 o))),pv (.bool (((decide (vat o.ctx o.dot.rep.toNat=o.dot.seq-1))&&(decide (o.tick<=1073741824)))&&(Qb6 o)))] (fun _ _=>_) [20] (by kernel_rfl) hs ⟨?_,?_,?_,?_,?_,?_,?_,?_,?_,?_,?_,?_,?_,?_,?_,?_,?_,?_,?_,?_,?_,trivial⟩ ?_
 ·exact oa [] fun D J w hs=>Qae Qb0 rfl (Zz hs)
 ·exact oa [0] fun D J w hs=>Qae QbH rfl (Zz hs)
 ·exact oa [1] fun D J w hs=>QaF (V:=.int .u8 o.dot.rep) QcJ hs 0 rfl rfl rfl (Zz hs)
 ·exact oa [] fun D J w hs=>Qae QdS rfl (Zz hs)
 ·exact oa [2,3] fun D J w hs=>Qcx Qe7 Qa8.1 rfl rfl (by omega) (by omega) (Zz hs)
 ·exact oa [4] fun D J w hs=>QaF (V:=.int .u32 (vat o.ctx o.dot.rep.toNat)) Qa8 hs 0 rfl rfl (Qqd (by omega) (by omega)) (Zz hs)
 ·exact oa [] fun D J w hs=>Qae Qb0 rfl (Zz hs)
 ·exact oa [6] fun D J w hs=>Qae QbR rfl (Zz hs)
 ·exact oa [7] fun D J w hs=>QaF (V:=.int .u32 o.dot.seq) Qa8 hs 0 rfl rfl rfl (Zz hs)
 ·exact oa [8] fun D J w hs=>Qba (a:=o.dot.seq) (b:=1) (c:=o.dot.seq-1) rfl rfl (Qgv (by omega) (by omega)) (Zz hs)
 ·exact oa [5,9] fun D J w hs=>QaT rfl rfl (Zz hs)
 ·exact oa [10] fun D J w hs=>Qac (V:=.bool (decide (vat o.ctx o.dot.rep.toNat=o.dot.seq-1))) rfl (Zz hs)
 ·exact og [11] fun D J w hG hs=>Qae QhE rfl (Zz hs)
 ·exact oy [11,12] [12] fun D J w hG hs=>QaF (V:=.int .u32 o.tick) Qa8 hs 0 rfl rfl rfl (Zz hs)
 ·exact oy [11,13] [13] fun D J w hG hs=>Qdn rfl rfl (Zz hs)
 ·exact oa [11,14] fun D J w hs=>Qa7 (h':=decide (o.tick<=1073741824)) rfl rfl rfl (Zz hs)
 ·exact oa [15] fun D J w hs=>Qac (V:=.bool ((decide (vat o.ctx o.dot.rep.toNat=o.dot.seq-1))&&(decide (o.tick<=1073741824)))) rfl (Zz hs)
 ·exact og [16] fun D J w hG hs=>QaI (cs:=oc o) QbZ hs 0 rfl rfl rfl (Zz hs)
 ·exact oy [16,17] [17] fun D J w hG hs=>Qau (vs:=[.agg (oc o).toArray]) (V:=.bool (Qb6 o)) Qsz rfl rfl (Qoi _ o (by assumption)) hs fun _ hs=>Zz hs
 ·exact oa [16,18] fun D J w hs=>Qa7 (h':=Qb6 o) rfl rfl rfl (Zz hs)
 ·exact oa [19] fun D J w hs=>Qad (V:=.bool (((decide (vat o.ctx o.dot.rep.toNat=o.dot.seq-1))&&(decide (o.tick<=1073741824)))&&(Qb6 o))) rfl (Zz hs)
 rintro J1 w8 J2 hJ hs
 replace hJ:J2=upd (mix (sq 32 20++[4]) J1 _) 4 (.bool (((decide (vat o.ctx o.dot.rep.toNat=o.dot.seq-1))&&(decide (o.tick<=1073741824)))&&(Qb6 o))):=hJ
 subst hJ
 refine Qaw ?_
 refine ⟨_,Qaq (V:=.bool (((decide (vat o.ctx o.dot.rep.toNat=o.dot.seq-1))&&(decide (o.tick<=1073741824)))&&(Qb6 o))) Tryz.results105 rfl,(Zr hs ?_)⟩
 exact congrArg Value.bool (QmA c6rrr c6rr c6r).symm
end Tt
end Go.Proofs
namespace Go.Proofs
open Go Go.Vx Go.RowKit
namespace Tt
theorem QlA (w:World) (p:Pst) (a1:Option Addr) (c1:Nat) (a2:Option Addr) (c2:Nat) (a3:Option Addr) (c3:Nat) (hok:Qdw p) (hle:p.base.ents.length<=400) (hlt:p.base.ticks.length<=400) (hlo:p.ops.length<=400) (hr1:Rd w (.slice a1 p.base.ents.length c1) 7 (p.base.ents.map cec)) (hr2:Rd w (.slice a2 p.base.ticks.length c2) 2 (p.base.ticks.map lsc)) (hr3:Rd w (.slice a3 p.ops.length c3) 23 (p.ops.map oc)):Calls Tryz.prog 59 #[.agg (((vc p.base.known)++[(.slice a1 p.base.ents.length c1:Value),(.slice a2 p.base.ticks.length c2:Value) ])++[(.slice a3 p.ops.length c3:Value) ]++(vc p.known)).toArray] w (fun e w'=>e = .returned (.bool (Qb3 p))/\Own w no w' []):=by
 refine Qaj (n:=45) Tryz.func59 rfl Tryz.ntmps59 rfl ?_
 have hs:=Own.start w
 have ⟨hokb,hoko,hokk⟩:=hok
 have hn3:=hr3.sml
 refine Qag (Qab (Qaa (QaR (V:=.agg (((vc p.base.known)++[(.slice a1 p.base.ents.length c1:Value),(.slice a2 p.base.ticks.length c2:Value) ])++[(.slice a3 p.ops.length c3:Value) ]++(vc p.known)).toArray) (cs:=((vc p.base.known)++[(.slice a1 p.base.ents.length c1:Value),(.slice a2 p.base.ticks.length c2:Value) ])++[(.slice a3 p.ops.length c3:Value) ]++(vc p.known)) rfl rfl hs fun b1 w2 hs=>(Qaa (Qad (V:=.bool false) rfl (Qaf (Qag (Qab (Qaa (Qgr rfl hs dv uv fun mr3 w4 hs=>(Qaa (Qad (V:=.map (some mr3)) rfl (Qaf (Qag (Qag (Qab (Qaa (Qae Qlv rfl (Qaa (QaF (V:=.slice a3 p.ops.length c3) Qfk hs 0 rfl rfl rfl (Qaa (QaX (n:=p.ops.length) QdJ (Rd.own' hr3 hs) (by simp) rfl (Qaa (Qac (V:=I6 0) rfl (Qaf (Qam (QaA (fun J μ J' w'=>∃ (Jo:Env) (k:Nat) (sm:List (Dot × Unit)),J'=upd (mix ([2,5,6,7]++sq 12 30) Jo J) 12 (I6 (k:Int))/\(k<=p.ops.length)/\(∀ j:Nat,j<k->QhA p.base.known p.ops j=false)/\(sm=Qia (p.ops.take k))/\μ=p.ops.length-k/\Own w no w' [blk b1 (((vc p.base.known)++[(.slice a1 p.base.ents.length c1:Value),(.slice a2 p.base.ticks.length c2:Value) ])++[(.slice a3 p.ops.length c3:Value) ]++(vc p.known)) 43,QgV mr3 dv uv sm]) ?_ ?_)))))))))))))))))))))))))))
 ·exact ⟨_,_,0,[],Qai (Qao (ds:=([2,5,6,7]++sq 12 30)) (Agr.refl _ _)) rfl,(by omega),(fun j hj=>absurd hj (Nat.not_lt_zero j)),rfl,rfl,hs⟩
 rintro μ J' w5 ⟨Jo,k,sm,rfl,hk,hbo,hsm,rfl,hs⟩
 refine Qag (Qab (Qaa (QaS rfl rfl (Qaf (Qag (Qan (t:=decide ((k:Int)<((p.ops.length:Nat):Int))) rfl (fun c6=>?_) (fun c6=>?_)))))))
 ·
  replace c6:=QQ1 c6
  refine Qap (Qag (Qam (Qag (Qab (Qaa (Qax QdJ QbZ.1 (Rd.own' hr3 hs) rfl rfl (by omega) (by rw [QQ6];omega) (Qaa (QaV (j:=0) (vs:=oc (gd p.ops k)) k QbZ (Rd.own' hr3 hs) (QaW (by omega)) rfl rfl rfl (by omega) (Qaa (QaK (cs:=oc (⟨(⟨0,0⟩:Dot),0,0,0,0,0,vzero⟩:Opn)) Qmf rfl hs fun b7 w8 hs=>(Qaa (Qcq (V:=.agg (oc (gd p.ops k)).toArray) (vs:=oc (gd p.ops k)) (cs':=oc (gd p.ops k)) QbZ.1 hs 2 rfl rfl rfl rfl rfl (QQ8 rfl) (Qep _) (Qay rfl) fun w9 hs=>?_))))))))))))
  replace hs:Own w no w9 [blk b1 (((vc p.base.known)++[(.slice a1 p.base.ents.length c1:Value),(.slice a2 p.base.ticks.length c2:Value) ])++[(.slice a3 p.ops.length c3:Value) ]++(vc p.known)) 43,QgV mr3 dv uv sm,blk b7 (oc (gd p.ops k)) 98]:=hs
  refine Qaf (Qag ?_)
  have hOk:=hoko _ (QbP (l:=p.ops) (i:=k) (by omega))
  have hdk:=hOk.1
  refine Qab (Qaa (Qac (V:=.map (some mr3)) rfl (Qaa (Qae Qb0 rfl (Qaa (QbL (vs:=dc ((gd p.ops k).dot)) QcI hs 2 rfl rfl rfl rfl (Qaa (Qf0 (k:=(gd p.ops k).dot) Qj7 QnY Qks (hs.mapf 1 rfl) rfl rfl (Qaa (Qac (V:=.tuple #[.agg #[],.bool ((mget ((gd p.ops k).dot) sm).isSome)]) rfl (Qaa (Qaz (V:=.agg #[]) rfl rfl (Qaa (Qaz (V:=.bool ((mget ((gd p.ops k).dot) sm).isSome)) rfl rfl (Qaa (QaK (cs:=[]) Qks rfl hs fun b10 w11 hs=>(Qaa (Qcq (V:=.agg #[]) (vs:=[]) (cs':=[]) Qp8.1 hs 3 rfl rfl rfl rfl rfl (QQ8 rfl) Qa9 (Qay rfl) fun w12 hs=>(Qaa (Qad (V:=.bool ((mget ((gd p.ops k).dot) sm).isSome)) rfl (Qaf (Qag (Qag (Qbm [some 23,some 24,some 25,some 26,some 27,some 28,some 29,some 30,some 31,some 32,some 33,some 34,some 35,some 36] [] [0,1,3,7,15,31,63,127,255,511,127,1151,4095,8191] [pv (.bool ((mget ((gd p.ops k).dot) sm).isSome)),pv (.bool ((mget ((gd p.ops k).dot) sm).isSome)),pg (((mget ((gd p.ops k).dot) sm).isSome) == false) (.agg (oc (gd p.ops k)).toArray),pg (((mget ((gd p.ops k).dot) sm).isSome) == false) (.bool (QaP (gd p.ops k) 16)),pg (((mget ((gd p.ops k).dot) sm).isSome) == false) (.bool (!(QaP (gd p.ops k) 16))),pv (.bool (((mget ((gd p.ops k).dot) sm).isSome)||(!(QaP (gd p.ops k) 16)))),pv (.bool (((mget ((gd p.ops k).dot) sm).isSome)||(!(QaP (gd p.ops k) 16)))),pg ((((mget ((gd p.ops k).dot) sm).isSome)||(!(QaP (gd p.ops k) 16))) == false) (Pq b1 (0+0)),pg ((((mget ((gd p.ops k).dot) sm).isSome)||(!(QaP (gd p.ops k) 16))) == false) (Pq b1 (0+0+0)),pg ((((mget ((gd p.ops k).dot) sm).isSome)||(!(QaP (gd p.ops k) 16))) == false) (.agg (vc p.base.known).toArray),pg ((((mget ((gd p.ops k).dot) sm).isSome)||(!(QaP (gd p.ops k) 16))) == false) (Pq b7 (0+0)),pg ((((mget ((gd p.ops k).dot) sm).isSome)||(!(QaP (gd p.ops k) 16))) == false) (.agg (dc ((gd p.ops k).dot)).toArray),pg ((((mget ((gd p.ops k).dot) sm).isSome)||(!(QaP (gd p.ops k) 16))) == false) (.bool (Qbz p.base.known ((gd p.ops k).dot))),pv (.bool ((((mget ((gd p.ops k).dot) sm).isSome)||(!(QaP (gd p.ops k) 16)))||(Qbz p.base.known ((gd p.ops k).dot))))] (fun _ _=>_) [13] (by kernel_rfl) hs ⟨?_,?_,?_,?_,?_,?_,?_,?_,?_,?_,?_,?_,?_,?_,trivial⟩ ?_))))))))))))))))))))))))
  ·exact oa [] fun D J w hs=>Qac (V:=.bool ((mget ((gd p.ops k).dot) sm).isSome)) rfl (Zz hs)
  ·exact oa [0] fun D J w hs=>Qac (V:=.bool ((mget ((gd p.ops k).dot) sm).isSome)) rfl (Zz hs)
  ·exact og [1] fun D J w hG hs=>QaI (cs:=oc (gd p.ops k)) QbZ hs 2 rfl rfl rfl (Zz hs)
  ·exact oy [1,2] [2] fun D J w hG hs=>Qau (vs:=[.agg (oc (gd p.ops k)).toArray,.int .i64 16]) (V:=.bool (QaP (gd p.ops k) 16)) QtM rfl rfl (Qlx _ (gd p.ops k) 16 (by assumption)) hs fun _ hs=>Zz hs
  ·exact oy [1,3] [3] fun D J w hG hs=>Qbx rfl (Zz hs)
  ·exact oa [1,4] fun D J w hs=>QbM (h':=!(QaP (gd p.ops k) 16)) rfl rfl rfl (Zz hs)
  ·exact oa [5] fun D J w hs=>Qac (V:=.bool (((mget ((gd p.ops k).dot) sm).isSome)||(!(QaP (gd p.ops k) 16)))) rfl (Zz hs)
  ·exact og [6] fun D J w hG hs=>Qae Qgw rfl (Zz hs)
  ·exact oy [6,7] [7] fun D J w hG hs=>Qae Qgd rfl (Zz hs)
  ·exact oy [6,8] [8] fun D J w hG hs=>QbL (vs:=vc p.base.known) Qbt hs 0 rfl rfl rfl rfl (Zz hs)
  ·exact og [6] fun D J w hG hs=>Qae Qb0 rfl (Zz hs)
  ·exact oy [6,10] [10] fun D J w hG hs=>QbL (vs:=dc ((gd p.ops k).dot)) QcI hs 2 rfl rfl rfl rfl (Zz hs)
  ·exact oy [6,9,11] [9,11] fun D J w hG hs=>Qau (vs:=[.agg (vc p.base.known).toArray,.agg (dc ((gd p.ops k).dot)).toArray]) (V:=.bool (Qbz p.base.known ((gd p.ops k).dot))) Qpe rfl rfl (QhR _ p.base.known ((gd p.ops k).dot) (by first|assumption|exact Qdf (by omega) (by omega) (by omega) (by omega))) hs fun _ hs=>Zz hs
  ·exact oa [6,12] fun D J w hs=>QbM (h':=Qbz p.base.known ((gd p.ops k).dot)) rfl rfl rfl (Zz hs)
  rintro J1 w15 J2 hJ hs
  replace hJ:J2=upd (mix (sq 23 14) J1 _) 36 (.bool ((((mget ((gd p.ops k).dot) sm).isSome)||(!(QaP (gd p.ops k) 16)))||(Qbz p.base.known ((gd p.ops k).dot)))):=hJ
  subst hJ
  refine Qan (t:=(((mget ((gd p.ops k).dot) sm).isSome)||(!(QaP (gd p.ops k) 16)))||(Qbz p.base.known ((gd p.ops k).dot))) rfl (fun c16=>?_) (fun c16=>?_)
  ·
   refine Qag (Qab (Qaa (Qad (V:=.bool false) rfl (Qaf (Qaw ?_)))))
   refine ⟨_,Qaq (V:=.bool false) Tryz.results59 rfl,(Zr hs (congrArg Value.bool (Qea (i:=k) (by omega) ?_).symm))⟩
   unfold QhA
   rw [← Qim,← hsm]
   have hq:=c16
   revert hq
   cases QaP (gd p.ops k) 16<;>cases Qbz p.base.known (gd p.ops k).dot<;>cases (mget (gd p.ops k).dot sm).isSome<;>simp
  have c16r:=Qeo c16
  replace c16:=Qet c16
  have c16rr:=Qeo c16
  replace c16:=Qet c16
  replace c16rr:=Qbd c16rr
  refine Qap (Qab (Qaa (Qac (V:=.map (some mr3)) rfl (Qaa (Qae Qb0 rfl (Qaa (QbL (vs:=dc ((gd p.ops k).dot)) QcI hs 2 rfl rfl rfl rfl (Qaa (Qby (vs:=[]) (cs:=[]) Qp3 (rfl) rfl (Qaa (QfN (k:=(gd p.ops k).dot) (v:=()) Qj7 QnY hs 1 rfl rfl rfl rfl fun w17 hs=>(Qaf (Qab (Qaa (QaD (a:=(k:Int)) (b:=1) (c:=((k+1:Nat):Int)) rfl rfl (Qak (by omega) (by omega)) (Qaa (Qac (V:=I6 ((k+1:Nat):Int)) rfl (Qaf ?_))))))))))))))))))
  have hbk:QhA p.base.known p.ops k=false:=by
   unfold QhA
   rw [c16rr,c16r,← Qim,← hsm,c16];rfl
  refine ⟨_,?_,_,k+1,mput ((gd p.ops k).dot) () sm,Qai (Qao (ds:=([2,5,6,7]++sq 12 30)) (by repeat (first|exact Agr.refl _ _|refine Agr.upd ?_ rfl|refine Agr.mix ?_ rfl))) rfl,(by omega),(Qca hbo hbk),(by rw [QkD (by omega),← hsm]),rfl,hs.take 2⟩
  omega
 replace c6:=QQ2 c6
 refine QaH (Qag (Qab (Qaa (Qae Qgw rfl (Qaa (QbL (vs:=(vc p.base.known)++[(.slice a1 p.base.ents.length c1:Value),(.slice a2 p.base.ticks.length c2:Value) ]) QcD hs 0 rfl rfl rfl rfl (Qaa (Qau (vs:=[.agg ((vc p.base.known)++[(.slice a1 p.base.ents.length c1:Value),(.slice a2 p.base.ticks.length c2:Value) ]).toArray]) (V:=.bool (Qas p.base)) Qq7 rfl rfl ?hc hs fun w18 hs=>?_))))))))
 case hc=>exact (Qf7 _ p.base a1 c1 a2 c2 hokb (by omega) (by omega) (Rd.own' hr1 hs) (Rd.own' hr2 hs))
 refine Qaa (Qad (V:=.bool (Qas p.base)) rfl (Qaf (Qaw ?_)))
 refine ⟨_,Qaq (V:=.bool (Qas p.base)) Tryz.results59 rfl,(Zr hs ?_)⟩
 exact congrArg Value.bool (QgL fun j hj=>hbo j (by omega)).symm
theorem Qjr (w:World) (p:Pst) (a1:Option Addr) (c1:Nat) (a2:Option Addr) (c2:Nat) (a3:Option Addr) (c3:Nat) (cut:Vec) (hcut:QbX cut) (hok:Qdw p) (hle:p.base.ents.length<=400) (hlt:p.base.ticks.length<=400) (hlo:p.ops.length<=400) (hr1:Rd w (.slice a1 p.base.ents.length c1) 7 (p.base.ents.map cec)) (hr2:Rd w (.slice a2 p.base.ticks.length c2) 2 (p.base.ticks.map lsc)) (hr3:Rd w (.slice a3 p.ops.length c3) 23 (p.ops.map oc)):Calls Tryz.prog 17 #[.agg (((vc p.base.known)++[(.slice a1 p.base.ents.length c1:Value),(.slice a2 p.base.ticks.length c2:Value) ])++[(.slice a3 p.ops.length c3:Value) ]++(vc p.known)).toArray,.agg (vc cut).toArray] w (fun e w'=>e = .returned (.int .i64 (QaY p cut))/\Own w no w' []):=by
 refine Qaj (n:=26) Tryz.func17 rfl Tryz.ntmps17 rfl ?_
 have hs:=Own.start w
 have ⟨hokb,hoko,hokk⟩:=hok
 refine Qag (Qab (Qaa (QaR (V:=.agg (((vc p.base.known)++[(.slice a1 p.base.ents.length c1:Value),(.slice a2 p.base.ticks.length c2:Value) ])++[(.slice a3 p.ops.length c3:Value) ]++(vc p.known)).toArray) (cs:=((vc p.base.known)++[(.slice a1 p.base.ents.length c1:Value),(.slice a2 p.base.ticks.length c2:Value) ])++[(.slice a3 p.ops.length c3:Value) ]++(vc p.known)) rfl rfl hs fun b1 w2 hs=>(Qaa (QaR (V:=.agg (vc cut).toArray) (cs:=vc cut) rfl rfl hs fun b3 w4 hs=>(Qaa (Qad (V:=I6 0) rfl (Qaf (Qag (Qam (Qag (Qab (Qaa (QaI (cs:=((vc p.base.known)++[(.slice a1 p.base.ents.length c1:Value),(.slice a2 p.base.ticks.length c2:Value) ])++[(.slice a3 p.ops.length c3:Value) ]++(vc p.known)) QeE hs 0 rfl rfl rfl (Qaa (Qau (vs:=[.agg (((vc p.base.known)++[(.slice a1 p.base.ents.length c1:Value),(.slice a2 p.base.ticks.length c2:Value) ])++[(.slice a3 p.ops.length c3:Value) ]++(vc p.known)).toArray]) (V:=.bool (Qb3 p)) QvH rfl rfl ?hc hs fun w5 hs=>?_))))))))))))))))
 case hc=>exact (QlA _ p a1 c1 a2 c2 a3 c3 hok hle hlt hlo (Rd.own' hr1 hs) (Rd.own' hr2 hs) (Rd.own' hr3 hs))
 refine Qaa (Qbx rfl (Qaa (Qad (V:=.bool (!(Qb3 p))) rfl (Qaf (Qan (t:=!(Qb3 p)) rfl (fun c6=>?_) (fun c6=>?_))))))
 ·
  replace c6:=Qbs c6
  refine Qag (Qab (Qaa (Qad (V:=I6 2) rfl (Qaf (Qaw ?_)))))
  refine ⟨_,Qaq (V:=I6 2) Tryz.results17 rfl,(Zr hs (congrArg (Value.int .i64) ?_))⟩
  unfold QaY
  rw [c6];rfl
 replace c6:=Qbd c6
 refine Qag (Qab (Qaa (QaI (cs:=vc cut) Qbt hs 1 rfl rfl rfl (Qaa (Qau (vs:=[.agg (vc cut).toArray,I6 16]) (V:=.bool (QaN cut 16)) Qrz rfl rfl ?hc hs fun w7 hs=>?_)))))
 case hc=>exact (Qgu _ cut 16 (by first|assumption|exact Qb1))
 refine Qaa (Qbx rfl (Qaa (Qad (V:=.bool (!(QaN cut 16))) rfl (Qaf (Qan (t:=!(QaN cut 16)) rfl (fun c8=>?_) (fun c8=>?_))))))
 ·
  replace c8:=Qbs c8
  refine Qag (Qab (Qaa (Qad (V:=I6 13) rfl (Qaf (Qaw ?_)))))
  refine ⟨_,Qaq (V:=I6 13) Tryz.results17 rfl,(Zr hs (congrArg (Value.int .i64) ?_))⟩
  unfold QaY
  rw [c6,c8];rfl
 replace c8:=Qbd c8
 refine Qag (Qab (Qaa (QaI (cs:=vc cut) Qbt hs 1 rfl rfl rfl (Qaa (Qae QrP rfl (Qaa (QbL (vs:=vc p.known) Qbt hs 0 rfl rfl rfl rfl (Qaa (Qau (vs:=[.agg (vc cut).toArray,.agg (vc p.known).toArray]) (V:=.bool (vle cut p.known)) Qqu rfl rfl ?hc hs fun w9 hs=>?_)))))))))
 case hc=>exact (QgK _ cut p.known)
 refine Qaa (Qbx rfl (Qaa (Qad (V:=.bool (!(vle cut p.known))) rfl (Qaf (Qan (t:=!(vle cut p.known)) rfl (fun c10=>?_) (fun c10=>?_))))))
 ·
  replace c10:=Qbs c10
  refine Qag (Qab (Qaa (Qad (V:=I6 11) rfl (Qaf (Qaw ?_)))))
  refine ⟨_,Qaq (V:=I6 11) Tryz.results17 rfl,(Zr hs (congrArg (Value.int .i64) ?_))⟩
  unfold QaY
  rw [c6,c8,c10];rfl
 replace c10:=Qbd c10
 refine Qag (Qab (Qaa (Qae Qgw rfl (Qaa (Qae Qgd rfl (Qaa (QbL (vs:=vc p.base.known) Qbt hs 0 rfl rfl rfl rfl (Qaa (QaI (cs:=vc cut) Qbt hs 1 rfl rfl rfl (Qaa (Qau (vs:=[.agg (vc p.base.known).toArray,.agg (vc cut).toArray]) (V:=.bool (vle p.base.known cut)) Qqu rfl rfl ?hc hs fun w11 hs=>?_)))))))))))
 case hc=>exact (QgK _ p.base.known cut)
 refine Qaa (Qbx rfl (Qaa (Qad (V:=.bool (!(vle p.base.known cut))) rfl (Qaf (Qan (t:=!(vle p.base.known cut)) rfl (fun c12=>?_) (fun c12=>?_))))))
 ·
  replace c12:=Qbs c12
  refine Qag (Qab (Qaa (Qad (V:=I6 12) rfl (Qaf (Qaw ?_)))))
  refine ⟨_,Qaq (V:=I6 12) Tryz.results17 rfl,(Zr hs (congrArg (Value.int .i64) ?_))⟩
  unfold QaY
  rw [c6,c8,c10,c12];rfl
 replace c12:=Qbd c12
 refine Qap (Qag (Qab (Qaa (Qad (V:=I6 0) rfl (Qaf (Qaw ?_))))))
 refine ⟨_,Qaq (V:=I6 0) Tryz.results17 rfl,(Zr hs (congrArg (Value.int .i64) ?_))⟩
 unfold QaY
 rw [c6,c8,c10,c12];rfl
end Tt
end Go.Proofs
namespace Go.Proofs
open Go Go.Vx Go.RowKit
namespace Tt
theorem Qkr (w:World) (x y:Cen):Calls Tryz.prog 98 #[.agg (cec x).toArray,.agg (cec y).toArray] w (fun e w'=>e = .returned (.bool (Qbl x y))/\Own w no w' []):=by
 refine Qaj (n:=36) Tryz.func98 rfl Tryz.ntmps98 rfl ?_
 have hs:=Own.start w
 refine Qag (Qab (Qaa (QaR (V:=.agg (cec x).toArray) (cs:=cec x) rfl rfl hs fun b1 w2 hs=>(Qaa (QaR (V:=.agg (cec y).toArray) (cs:=cec y) rfl rfl hs fun b3 w4 hs=>(Qaa (Qad (V:=.bool false) rfl (Qaf (Qag (Qag (Qab (Qaa (Qae Qda rfl (Qaa (QaF (V:=I7 x.cart) Qar hs 0 rfl rfl rfl (Qaa (Qae Qda rfl (Qaa (QaF (V:=I7 y.cart) Qar hs 1 rfl rfl rfl (Qaa (Qb7 rfl rfl (Qaf (Qan (t:=!decide (x.cart=y.cart)) rfl (fun c5=>?_) (fun c5=>?_))))))))))))))))))))))))
 ·
  replace c5:=Qbs c5
  replace c5:=QQ2 c5
  refine Qag (Qab (Qaa (Qae Qda rfl (Qaa (QaF (V:=I7 x.cart) Qar hs 0 rfl rfl rfl (Qaa (Qae Qda rfl (Qaa (QaF (V:=I7 y.cart) Qar hs 1 rfl rfl rfl (Qaa (QaS rfl rfl (Qaa (Qad (V:=.bool (decide (x.cart<y.cart))) rfl (Qaf (Qaw ?_)))))))))))))))
  refine ⟨_,Qaq (V:=.bool (decide (x.cart<y.cart))) Tryz.results98 rfl,(Zr hs ?_)⟩
  unfold Qbl;rw [if_neg c5]
 replace c5:=Qbd c5
 replace c5:=QQ1 c5
 refine Qap (Qag (Qag (Qab (Qaa (Qae QbN rfl (Qaa (Qae QbH rfl (Qaa (QaF (V:=.int .u8 x.dot.rep) QcJ hs 0 rfl rfl rfl (Qaa (Qae QbN rfl (Qaa (Qae QbH rfl (Qaa (QaF (V:=.int .u8 y.dot.rep) QcJ hs 1 rfl rfl rfl (Qaa (Qb7 rfl rfl (Qaf (Qan (t:=!decide (x.dot.rep=y.dot.rep)) rfl (fun c6=>?_) (fun c6=>?_))))))))))))))))))))
 ·
  replace c6:=Qbs c6
  replace c6:=QQ2 c6
  refine Qag (Qab (Qaa (Qae QbN rfl (Qaa (Qae QbH rfl (Qaa (QaF (V:=.int .u8 x.dot.rep) QcJ hs 0 rfl rfl rfl (Qaa (Qae QbN rfl (Qaa (Qae QbH rfl (Qaa (QaF (V:=.int .u8 y.dot.rep) QcJ hs 1 rfl rfl rfl (Qaa (QaS rfl rfl (Qaa (Qad (V:=.bool (decide (x.dot.rep<y.dot.rep))) rfl (Qaf (Qaw ?_)))))))))))))))))))
  refine ⟨_,Qaq (V:=.bool (decide (x.dot.rep<y.dot.rep))) Tryz.results98 rfl,(Zr hs ?_)⟩
  unfold Qbl;rw [if_pos c5,if_neg c6]
 replace c6:=Qbd c6
 replace c6:=QQ1 c6
 refine Qap (Qag (Qab (Qaa (Qae QbN rfl (Qaa (Qae QbR rfl (Qaa (QaF (V:=.int .u32 x.dot.seq) Qa8 hs 0 rfl rfl rfl (Qaa (Qae QbN rfl (Qaa (Qae QbR rfl (Qaa (QaF (V:=.int .u32 y.dot.seq) Qa8 hs 1 rfl rfl rfl (Qaa (QaS rfl rfl (Qaa (Qad (V:=.bool (decide (x.dot.seq<y.dot.seq))) rfl (Qaf (Qaw ?_))))))))))))))))))))
 refine ⟨_,Qaq (V:=.bool (decide (x.dot.seq<y.dot.seq))) Tryz.results98 rfl,(Zr hs ?_)⟩
 unfold Qbl;rw [if_pos c5,if_pos c6]
theorem QjI (w:World) (s:Sta) (a1:Option Addr) (c1:Nat) (a2:Option Addr) (c2:Nat) (c:Int) (hr1:Rd w (.slice a1 s.ents.length c1) 7 (s.ents.map cec)) (hr2:Rd w (.slice a2 s.ticks.length c2) 2 (s.ticks.map lsc)):Calls Tryz.prog 101 #[.agg ((vc s.known)++[(.slice a1 s.ents.length c1:Value),(.slice a2 s.ticks.length c2:Value) ]).toArray,.int .u16 c] w (fun e w'=>e = .returned (.tuple #[.int .u32 ((QaC s.ticks c).getD 0),.bool (QaC s.ticks c).isSome])/\Own w no w' []):=by
 refine Qaj (n:=28) Tryz.func101 rfl Tryz.ntmps101 rfl ?_
 have hs:=Own.start w
 have hn2:=hr2.sml
 refine Qag (Qab (Qaa (QaR (V:=.agg ((vc s.known)++[(.slice a1 s.ents.length c1:Value),(.slice a2 s.ticks.length c2:Value) ]).toArray) (cs:=(vc s.known)++[(.slice a1 s.ents.length c1:Value),(.slice a2 s.ticks.length c2:Value) ]) rfl rfl hs fun b1 w2 hs=>(Qaa (Qad (V:=.int .u32 0) rfl (Qaa (Qad (V:=.bool false) rfl (Qaf (Qag (Qag (Qab (Qaa (Qad (V:=I6 0) rfl (Qaf (Qam (QaA (fun J μ J' w'=>∃ (Jo:Env) (k:Nat),J'=upd (mix (sq 4 24) Jo J) 6 (I6 (k:Int))/\(k<=s.ticks.length)/\(∀ j:Nat,j<k->decide ((gd s.ticks j).cart=c)=false)/\μ=s.ticks.length-k/\Own w no w' [blk b1 ((vc s.known)++[(.slice a1 s.ents.length c1:Value),(.slice a2 s.ticks.length c2:Value) ]) 28]) ?_ ?_))))))))))))))))
 ·exact ⟨_,_,0,Qai (Qao (ds:=(sq 4 24)) (Agr.refl _ _)) rfl,(by omega),(fun j hj=>absurd hj (Nat.not_lt_zero j)),rfl,hs⟩
 rintro μ J' w3 ⟨Jo,k,rfl,hk,hno,rfl,hs⟩
 refine Qag (Qag (Qab (Qaa (Qac (V:=I6 (k:Int)) rfl (Qaa (Qae Qb5 rfl (Qaa (QaF (V:=.slice a2 s.ticks.length c2) Qd6 hs 0 rfl rfl rfl (Qaa (QaX (n:=s.ticks.length) QdU (Rd.own' hr2 hs) (by simp) rfl (Qaa (QaS rfl rfl (Qaf (Qan (t:=decide ((k:Int)<((s.ticks.length:Nat):Int))) rfl (fun c4=>?_) (fun c4=>?_)))))))))))))))
 ·
  replace c4:=QQ1 c4
  refine Qap (Qag (Qam (Qag (Qab (Qaa (Qae Qb5 rfl (Qaa (QaF (V:=.slice a2 s.ticks.length c2) Qd6 hs 0 rfl rfl rfl (Qaa (Qac (V:=I6 (k:Int)) rfl (Qaa (Qax QdU Qcu.1 (Rd.own' hr2 hs) rfl rfl (by omega) (by rw [QQ6];omega) (Qaa (Qae QeV rfl (Qaa (QaU (j:=0) (V:=I7 ((gd s.ticks k).cart)) k Qar (Rd.own' hr2 hs) (QaW (by omega)) rfl rfl (by omega) (Qaa (Qac (V:=I7 c) rfl (Qaa (QaT rfl rfl (Qaf (Qan (t:=decide ((gd s.ticks k).cart=c)) rfl (fun c5=>?_) (fun c5=>?_)))))))))))))))))))))))
  ·
   replace c5:=QQ1 c5
   refine Qag (Qab (Qaa (Qae Qb5 rfl (Qaa (QaF (V:=.slice a2 s.ticks.length c2) Qd6 hs 0 rfl rfl rfl (Qaa (Qac (V:=I6 (k:Int)) rfl (Qaa (Qax QdU Qcu.1 (Rd.own' hr2 hs) rfl rfl (by omega) (by rw [QQ6];omega) (Qaa (Qae QfT rfl (Qaa (QaU (j:=1) (V:=.int .u32 ((gd s.ticks k).tick)) k Qa8 (Rd.own' hr2 hs) (QaW (by omega)) rfl rfl (by omega) (Qaa (Qad (V:=.int .u32 ((gd s.ticks k).tick)) rfl (Qaa (Qad (V:=.bool true) rfl (Qaf (Qaw ?_)))))))))))))))))))
   refine ⟨_,Qbw (U:=.int .u32 ((gd s.ticks k).tick)) (V:=.bool true) Tryz.results101 rfl rfl,(Zr hs ?_)⟩
   have hX:=Qov (by omega) hno c5
   rw [hX];rfl
  replace c5:=QQ2 c5
  refine Qap (Qab (Qaa (Qac (V:=I6 (k:Int)) rfl (Qaa (QaD (a:=(k:Int)) (b:=1) (c:=((k+1:Nat):Int)) rfl rfl (Qak (by omega) (by omega)) (Qaa (Qad (V:=I6 ((k+1:Nat):Int)) rfl (Qaf ?_))))))))
  refine ⟨_,?_,_,k+1,Qai (Qao (ds:=(sq 4 24)) (by repeat (first|exact Agr.refl _ _|refine Agr.upd ?_ rfl|refine Agr.mix ?_ rfl))) rfl,(by omega),(Qca hno (QQ4 c5)),rfl,hs.take 1⟩
  omega
 replace c4:=QQ2 c4
 refine QaH (Qag (Qab (Qaa (Qad (V:=.int .u32 0) rfl (Qaa (Qad (V:=.bool false) rfl (Qaf (Qaw ?_))))))))
 refine ⟨_,Qbw (U:=.int .u32 0) (V:=.bool false) Tryz.results101 rfl rfl,(Zr hs ?_)⟩
 have hX:=QkV (ts:=s.ticks) (c:=c) fun j hj=>hno j (by omega)
 rw [hX];rfl
theorem Qm6 (w:World) (s:Sta) (a1:Option Addr) (c1:Nat) (a2:Option Addr) (c2:Nat) (x:Cen) (hx:QeM x) (hr1:Rd w (.slice a1 s.ents.length c1) 7 (s.ents.map cec)) (hr2:Rd w (.slice a2 s.ticks.length c2) 2 (s.ticks.map lsc)):Calls Tryz.prog 149 #[.agg ((vc s.known)++[(.slice a1 s.ents.length c1:Value),(.slice a2 s.ticks.length c2:Value) ]).toArray,.agg (cec x).toArray] w (fun e w'=>e = .returned (.bool (Qdz s x))/\Own w no w' []):=by
 refine Qaj (n:=36) Tryz.func149 rfl Tryz.ntmps149 rfl ?_
 have hs:=Own.start w
 have hdx:=hx.2.2.2.2.1
 refine Qag (Qab (Qaa (QaR (V:=.agg ((vc s.known)++[(.slice a1 s.ents.length c1:Value),(.slice a2 s.ticks.length c2:Value) ]).toArray) (cs:=(vc s.known)++[(.slice a1 s.ents.length c1:Value),(.slice a2 s.ticks.length c2:Value) ]) rfl rfl hs fun b1 w2 hs=>(Qaa (QaR (V:=.agg (cec x).toArray) (cs:=cec x) rfl rfl hs fun b3 w4 hs=>(Qaa (Qad (V:=.bool false) rfl (Qaf (Qag (Qab (Qaa (QaI (cs:=(vc s.known)++[(.slice a1 s.ents.length c1:Value),(.slice a2 s.ticks.length c2:Value) ]) Qdj hs 0 rfl rfl rfl (Qaa (Qae Qda rfl (Qaa (QaF (V:=I7 x.cart) Qar hs 1 rfl rfl rfl (Qaa (Qau (vs:=[.agg ((vc s.known)++[(.slice a1 s.ents.length c1:Value),(.slice a2 s.ticks.length c2:Value) ]).toArray,I7 x.cart]) (V:=.tuple #[.int .u32 ((QaC s.ticks x.cart).getD 0),.bool ((QaC s.ticks x.cart).isSome)]) QpS rfl rfl ?hc hs fun w5 hs=>?_))))))))))))))))))
 case hc=>exact (QjI _ s a1 c1 a2 c2 x.cart (Rd.own' hr1 hs) (Rd.own' hr2 hs))
 refine Qaa (Qac (V:=.tuple #[.int .u32 ((QaC s.ticks x.cart).getD 0),.bool ((QaC s.ticks x.cart).isSome)]) rfl (Qaa (Qaz (V:=.int .u32 ((QaC s.ticks x.cart).getD 0)) rfl rfl (Qaa (Qaz (V:=.bool ((QaC s.ticks x.cart).isSome)) rfl rfl (Qaa (Qad (V:=.int .u32 ((QaC s.ticks x.cart).getD 0)) rfl (Qaa (Qad (V:=.bool ((QaC s.ticks x.cart).isSome)) rfl (Qaf (Qag (Qbm [some 14,some 15,some 16,some 17,some 18,some 19,some 20,some 21,some 22,some 23,some 24,some 25,some 26,some 27,some 28,some 29,some 30,some 31,some 32,some 33,some 34,some 35,some 4] [] [0,1,3,7,15,31,63,127,63,319,1023,2047,4095,8191,16383,32767,65535,131071,262143,524287,1048575,2097151,4194303] [pv (.bool ((QaC s.ticks x.cart).isSome)),pv (.bool ((QaC s.ticks x.cart).isSome)),pg (((QaC s.ticks x.cart).isSome) == true) (.agg (cec x).toArray),pg (((QaC s.ticks x.cart).isSome) == true) (.bool (Qa3 x)),pv (.bool (((QaC s.ticks x.cart).isSome)&&(Qa3 x))),pv (.bool (((QaC s.ticks x.cart).isSome)&&(Qa3 x))),pg ((((QaC s.ticks x.cart).isSome)&&(Qa3 x)) == true) (Pq b1 (0+0)),pg ((((QaC s.ticks x.cart).isSome)&&(Qa3 x)) == true) (.agg (vc s.known).toArray),pg ((((QaC s.ticks x.cart).isSome)&&(Qa3 x)) == true) (Pq b3 (0+4)),pg ((((QaC s.ticks x.cart).isSome)&&(Qa3 x)) == true) (.agg (dc x.dot).toArray),pg ((((QaC s.ticks x.cart).isSome)&&(Qa3 x)) == true) (.bool (Qbz s.known x.dot)),pv (.bool ((((QaC s.ticks x.cart).isSome)&&(Qa3 x))&&(Qbz s.known x.dot))),pv (.bool ((((QaC s.ticks x.cart).isSome)&&(Qa3 x))&&(Qbz s.known x.dot))),pg (((((QaC s.ticks x.cart).isSome)&&(Qa3 x))&&(Qbz s.known x.dot)) == true) (Pq b3 (0+6)),pg (((((QaC s.ticks x.cart).isSome)&&(Qa3 x))&&(Qbz s.known x.dot)) == true) (.int .u64 x.count),pg (((((QaC s.ticks x.cart).isSome)&&(Qa3 x))&&(Qbz s.known x.dot)) == true) (.bool (decide (1<=x.count))),pv (.bool (((((QaC s.ticks x.cart).isSome)&&(Qa3 x))&&(Qbz s.known x.dot))&&(decide (1<=x.count)))),pv (.bool (((((QaC s.ticks x.cart).isSome)&&(Qa3 x))&&(Qbz s.known x.dot))&&(decide (1<=x.count)))),pg ((((((QaC s.ticks x.cart).isSome)&&(Qa3 x))&&(Qbz s.known x.dot))&&(decide (1<=x.count))) == true) (Pq b3 (0+6)),pg ((((((QaC s.ticks x.cart).isSome)&&(Qa3 x))&&(Qbz s.known x.dot))&&(decide (1<=x.count))) == true) (.int .u64 x.count),pg ((((((QaC s.ticks x.cart).isSome)&&(Qa3 x))&&(Qbz s.known x.dot))&&(decide (1<=x.count))) == true) (.bool (decide (x.count<=16777217))),pv (.bool ((((((QaC s.ticks x.cart).isSome)&&(Qa3 x))&&(Qbz s.known x.dot))&&(decide (1<=x.count)))&&(decide (x.count<=16777217)))),pv (.bool ((((((QaC s.ticks x.cart).isSome)&&(Qa3 x))&&(Qbz s.known x.dot))&&(decide (1<=x.count)))&&(decide (x.count<=16777217))))] (fun _ _=>_) [22] (by kernel_rfl) hs ⟨?_,?_,?_,?_,?_,?_,?_,?_,?_,?_,?_,?_,?_,?_,?_,?_,?_,?_,?_,?_,?_,?_,?_,trivial⟩ ?_))))))))))))
 ·exact oa [] fun D J w hs=>Qac (V:=.bool ((QaC s.ticks x.cart).isSome)) rfl (Zz hs)
 ·exact oa [0] fun D J w hs=>Qac (V:=.bool ((QaC s.ticks x.cart).isSome)) rfl (Zz hs)
 ·exact og [1] fun D J w hG hs=>QaI (cs:=cec x) Qbp hs 1 rfl rfl rfl (Zz hs)
 ·exact oy [1,2] [2] fun D J w hG hs=>Qau (vs:=[.agg (cec x).toArray]) (V:=.bool (Qa3 x)) Qud rfl rfl (Qk8 _ x hx) hs fun _ hs=>Zz hs
 ·exact oa [1,3] fun D J w hs=>Qa7 (h':=Qa3 x) rfl rfl rfl (Zz hs)
 ·exact oa [4] fun D J w hs=>Qac (V:=.bool (((QaC s.ticks x.cart).isSome)&&(Qa3 x))) rfl (Zz hs)
 ·exact og [5] fun D J w hG hs=>Qae Qew rfl (Zz hs)
 ·exact oy [5,6] [6] fun D J w hG hs=>QbL (vs:=vc s.known) Qbt hs 0 rfl rfl rfl rfl (Zz hs)
 ·exact og [5] fun D J w hG hs=>Qae QbN rfl (Zz hs)
 ·exact oy [5,8] [8] fun D J w hG hs=>QbL (vs:=dc x.dot) QcI hs 1 rfl rfl rfl rfl (Zz hs)
 ·exact oy [5,7,9] [7,9] fun D J w hG hs=>Qau (vs:=[.agg (vc s.known).toArray,.agg (dc x.dot).toArray]) (V:=.bool (Qbz s.known x.dot)) QoN rfl rfl (QhN _ s.known x.dot (by first|assumption|exact Qdf (by omega) (by omega) (by omega) (by omega))) hs fun _ hs=>Zz hs
 ·exact oa [5,10] fun D J w hs=>Qa7 (h':=Qbz s.known x.dot) rfl rfl rfl (Zz hs)
 ·exact oa [11] fun D J w hs=>Qac (V:=.bool ((((QaC s.ticks x.cart).isSome)&&(Qa3 x))&&(Qbz s.known x.dot))) rfl (Zz hs)
 ·exact og [12] fun D J w hG hs=>Qae Qed rfl (Zz hs)
 ·exact oy [12,13] [13] fun D J w hG hs=>QaF (V:=.int .u64 x.count) Qer hs 1 rfl rfl rfl (Zz hs)
 ·exact oy [12,14] [14] fun D J w hG hs=>QcC rfl rfl (Zz hs)
 ·exact oa [12,15] fun D J w hs=>Qa7 (h':=decide (1<=x.count)) rfl rfl rfl (Zz hs)
 ·exact oa [16] fun D J w hs=>Qac (V:=.bool (((((QaC s.ticks x.cart).isSome)&&(Qa3 x))&&(Qbz s.known x.dot))&&(decide (1<=x.count)))) rfl (Zz hs)
 ·exact og [17] fun D J w hG hs=>Qae Qed rfl (Zz hs)
 ·exact oy [17,18] [18] fun D J w hG hs=>QaF (V:=.int .u64 x.count) Qer hs 1 rfl rfl rfl (Zz hs)
 ·exact oy [17,19] [19] fun D J w hG hs=>Qdn rfl rfl (Zz hs)
 ·exact oa [17,20] fun D J w hs=>Qa7 (h':=decide (x.count<=16777217)) rfl rfl rfl (Zz hs)
 ·exact oa [21] fun D J w hs=>Qad (V:=.bool ((((((QaC s.ticks x.cart).isSome)&&(Qa3 x))&&(Qbz s.known x.dot))&&(decide (1<=x.count)))&&(decide (x.count<=16777217)))) rfl (Zz hs)
 rintro J1 w8 J2 hJ hs
 replace hJ:J2=upd (mix (sq 14 22++[4]) J1 _) 4 (.bool ((((((QaC s.ticks x.cart).isSome)&&(Qa3 x))&&(Qbz s.known x.dot))&&(decide (1<=x.count)))&&(decide (x.count<=16777217)))):=hJ
 subst hJ
 refine Qaw ?_
 refine ⟨_,Qaq (V:=.bool ((((((QaC s.ticks x.cart).isSome)&&(Qa3 x))&&(Qbz s.known x.dot))&&(decide (1<=x.count)))&&(decide (x.count<=16777217)))) Tryz.results149 rfl,(Zr hs ?_)⟩
 rfl
theorem Qhj (w:World) (s:Sta) (a1:Option Addr) (c1:Nat) (a2:Option Addr) (c2:Nat) (hok:QdI s) (hr1:Rd w (.slice a1 s.ents.length c1) 7 (s.ents.map cec)) (hr2:Rd w (.slice a2 s.ticks.length c2) 2 (s.ticks.map lsc)):Calls Tryz.prog 100 #[.agg ((vc s.known)++[(.slice a1 s.ents.length c1:Value),(.slice a2 s.ticks.length c2:Value) ]).toArray] w (fun e w'=>e = .returned (.bool (Qas s))/\Own w no w' []):=by
 refine Qaj (n:=95) Tryz.func100 rfl Tryz.ntmps100 rfl ?_
 have hs:=Own.start w
 have ⟨hv0,hE0,hT0⟩:=hok
 have hn1:=hr1.sml
 have hn2:=hr2.sml
 refine Qag (Qab (Qaa (QaR (V:=.agg ((vc s.known)++[(.slice a1 s.ents.length c1:Value),(.slice a2 s.ticks.length c2:Value) ]).toArray) (cs:=(vc s.known)++[(.slice a1 s.ents.length c1:Value),(.slice a2 s.ticks.length c2:Value) ]) rfl rfl hs fun b1 w2 hs=>(Qaa (Qad (V:=.bool false) rfl (Qaf (Qag (Qag (Qab (Qaa (Qad (V:=I6 0) rfl (Qaf (Qam (QaA (fun J μ J' w'=>∃ (Jo:Env) (k:Nat),J'=upd (mix ([2,3]++sq 6 34) Jo J) 3 (I6 (k:Int))/\(k<=s.ticks.length)/\(∀ j:Nat,j<k->Qjd s.ticks j=false)/\μ=s.ticks.length-k/\Own w no w' [blk b1 ((vc s.known)++[(.slice a1 s.ents.length c1:Value),(.slice a2 s.ticks.length c2:Value) ]) 28]) ?_ ?_))))))))))))))
 ·exact ⟨_,_,0,Qai (Qao (ds:=([2,3]++sq 6 34)) (Agr.refl _ _)) rfl,(by omega),(fun j hj=>absurd hj (Nat.not_lt_zero j)),rfl,hs⟩
 rintro μ J' w3 ⟨Jo,k,rfl,hk,hbt,rfl,hs⟩
 refine Qag (Qag (Qab (Qaa (Qac (V:=I6 (k:Int)) rfl (Qaa (Qae Qb5 rfl (Qaa (QaF (V:=.slice a2 s.ticks.length c2) Qd6 hs 0 rfl rfl rfl (Qaa (QaX (n:=s.ticks.length) QdU (Rd.own' hr2 hs) (by simp) rfl (Qaa (QaS rfl rfl (Qaf (Qan (t:=decide ((k:Int)<((s.ticks.length:Nat):Int))) rfl (fun c4=>?_) (fun c4=>?_)))))))))))))))
 ·
  replace c4:=QQ1 c4
  refine Qap (Qag (Qam (Qag (QaJ HM [some 13,some 14,some 15,some 16,some 17,some 18,some 19,some 20,some 21,some 22,some 23,some 24,some 25,some 26,some 27,some 28,some 29,some 30,some 31,some 32,some 33,some 34,some 35,some 36,some 37,some 38,some 39] [] [0,1,0,7,15,31,63,127,255,511,1023,2047,4095,2047,10239,32767,65535,131071,2047,264191,2047,1837055,3934207,8128511,16777215,33554431,67108863] [pv (Pq b1 (0+17)),pv (.slice a2 s.ticks.length c2),pv (I6 (k:Int)),pv (.pointer (some ⟨bkS (.slice a2 s.ticks.length c2),ofS (.slice a2 s.ticks.length c2)+(k:Int).toNat*2,none⟩)),pv (.pointer (some ⟨bkS (.slice a2 s.ticks.length c2),ofS (.slice a2 s.ticks.length c2)+(k:Int).toNat*2+1,none⟩)),pv (.int .u32 ((gd s.ticks k).tick)),pv (.bool (decide (1073741824<(gd s.ticks k).tick))),pv (.bool (decide (1073741824<(gd s.ticks k).tick))),pg ((decide (1073741824<(gd s.ticks k).tick)) == false) (I6 (k:Int)),pg ((decide (1073741824<(gd s.ticks k).tick)) == false) (.bool (decide (0<(k:Int)))),pg ((decide (1073741824<(gd s.ticks k).tick)) == false) (.bool (decide (0<(k:Int)))),pg (((decide (1073741824<(gd s.ticks k).tick)) == false)&&((decide (0<(k:Int))) == true)) (Pq b1 (0+17)),pg (((decide (1073741824<(gd s.ticks k).tick)) == false)&&((decide (0<(k:Int))) == true)) (.slice a2 s.ticks.length c2),pg (((decide (1073741824<(gd s.ticks k).tick)) == false)&&((decide (0<(k:Int))) == true)) (I6 (k:Int)),pg (((decide (1073741824<(gd s.ticks k).tick)) == false)&&((decide (0<(k:Int))) == true)) (I6 ((k-1:Nat):Int)),pg (((decide (1073741824<(gd s.ticks k).tick)) == false)&&((decide (0<(k:Int))) == true)) (.pointer (some ⟨bkS (.slice a2 s.ticks.length c2),ofS (.slice a2 s.ticks.length c2)+((k-1:Nat):Int).toNat*2,none⟩)),pg (((decide (1073741824<(gd s.ticks k).tick)) == false)&&((decide (0<(k:Int))) == true)) (.pointer (some ⟨bkS (.slice a2 s.ticks.length c2),ofS (.slice a2 s.ticks.length c2)+((k-1:Nat):Int).toNat*2+0,none⟩)),pg (((decide (1073741824<(gd s.ticks k).tick)) == false)&&((decide (0<(k:Int))) == true)) (I7 ((gd s.ticks (k-1)).cart)),pg (((decide (1073741824<(gd s.ticks k).tick)) == false)&&((decide (0<(k:Int))) == true)) (Pq b1 (0+17)),pg (((decide (1073741824<(gd s.ticks k).tick)) == false)&&((decide (0<(k:Int))) == true)) (.slice a2 s.ticks.length c2),pg (((decide (1073741824<(gd s.ticks k).tick)) == false)&&((decide (0<(k:Int))) == true)) (I6 (k:Int)),pg (((decide (1073741824<(gd s.ticks k).tick)) == false)&&((decide (0<(k:Int))) == true)) (.pointer (some ⟨bkS (.slice a2 s.ticks.length c2),ofS (.slice a2 s.ticks.length c2)+(k:Int).toNat*2,none⟩)),pg (((decide (1073741824<(gd s.ticks k).tick)) == false)&&((decide (0<(k:Int))) == true)) (.pointer (some ⟨bkS (.slice a2 s.ticks.length c2),ofS (.slice a2 s.ticks.length c2)+(k:Int).toNat*2+0,none⟩)),pg (((decide (1073741824<(gd s.ticks k).tick)) == false)&&((decide (0<(k:Int))) == true)) (I7 ((gd s.ticks k).cart)),pg (((decide (1073741824<(gd s.ticks k).tick)) == false)&&((decide (0<(k:Int))) == true)) (.bool (decide ((gd s.ticks k).cart<=(gd s.ticks (k-1)).cart))),pg ((decide (1073741824<(gd s.ticks k).tick)) == false) (.bool ((decide (0<(k:Int)))&&(decide ((gd s.ticks k).cart<=(gd s.ticks (k-1)).cart)))),pv (.bool ((decide (1073741824<(gd s.ticks k).tick))||((decide (0<(k:Int)))&&(decide ((gd s.ticks k).cart<=(gd s.ticks (k-1)).cart)))))] (fun _ _=>_) [26] (by kernel_rfl) hs ⟨?_,?_,?_,?_,?_,?_,?_,?_,?_,?_,?_,?_,?_,?_,?_,?_,?_,?_,?_,?_,?_,?_,?_,?_,?_,?_,?_,trivial⟩ ?_))))
  ·exact oa [] fun D J w hs=>Qae Qb5 rfl (Zz hs)
  ·exact oa [0] fun D J w hs=>QaF (V:=.slice a2 s.ticks.length c2) Qd6 hs 0 rfl rfl rfl (Zz hs)
  ·exact oa [] fun D J w hs=>Qac (V:=.int .i64 (k:Int)) rfl (Zz hs)
  ·exact oa [1,2] fun D J w hs=>Qax QdU Qcu.1 (Rd.own' hr2 hs) rfl rfl (by omega) (by rw [QQ6];omega) (Zz hs)
  ·exact oa [3] fun D J w hs=>Qae QfT rfl (Zz hs)
  ·exact oa [4] fun D J w hs=>QaU (j:=1) (V:=.int .u32 ((gd s.ticks k).tick)) k Qa8 (Rd.own' hr2 hs) (QaW (by omega)) rfl rfl (by omega) (Zz hs)
  ·exact oa [5] fun D J w hs=>QbW rfl rfl (Zz hs)
  ·exact oa [6] fun D J w hs=>Qac (V:=.bool (decide (1073741824<(gd s.ticks k).tick))) rfl (Zz hs)
  ·exact og [7] fun D J w hG hs=>Qac (V:=.int .i64 (k:Int)) rfl (Zz hs)
  ·exact oy [7,8] [8] fun D J w hG hs=>QbW rfl rfl (Zz hs)
  ·exact oy [7,9] [9] fun D J w hG hs=>Qac (V:=.bool (decide (0<(k:Int)))) rfl (Zz hs)
  ·exact og [10] fun D J w hG hs=>Qae Qb5 rfl (Zz hs)
  ·exact oy [10,11] [11] fun D J w hG hs=>QaF (V:=.slice a2 s.ticks.length c2) Qd6 hs 0 rfl rfl rfl (Zz hs)
  ·exact og [10] fun D J w hG hs=>Qac (V:=.int .i64 (k:Int)) rfl (Zz hs)
  ·refine oy [10,13] [13] fun D J w hG hs=>?_
   have hgd0:=QQ2 (eq_of_beq (QbC (hG)))
   have hgd1:=QQ1 (eq_of_beq (QbG (hG)))
   exact Qba (a:=(k:Int)) (b:=1) (c:=((k-1:Nat):Int)) rfl rfl (Qak (by omega) (by omega)) (Zz hs)
  ·refine oy [10,12,14] [12,14] fun D J w hG hs=>?_
   have hgd0:=QQ2 (eq_of_beq (QbC (hG)))
   have hgd1:=QQ1 (eq_of_beq (QbG (hG)))
   exact Qax QdU Qcu.1 (Rd.own' hr2 hs) rfl rfl (by omega) (by rw [QQ6];omega) (Zz hs)
  ·exact oy [10,15] [15] fun D J w hG hs=>Qae QeV rfl (Zz hs)
  ·refine oy [10,16] [16] fun D J w hG hs=>?_
   have hgd0:=QQ2 (eq_of_beq (QbC (hG)))
   have hgd1:=QQ1 (eq_of_beq (QbG (hG)))
   exact QaU (j:=0) (V:=.int .u16 ((gd s.ticks (k-1)).cart)) (k-1) Qar (Rd.own' hr2 hs) (QaW (by omega)) rfl rfl (by omega) (Zz hs)
  ·exact og [10] fun D J w hG hs=>Qae Qb5 rfl (Zz hs)
  ·exact oy [10,18] [18] fun D J w hG hs=>QaF (V:=.slice a2 s.ticks.length c2) Qd6 hs 0 rfl rfl rfl (Zz hs)
  ·exact og [10] fun D J w hG hs=>Qac (V:=.int .i64 (k:Int)) rfl (Zz hs)
  ·refine oy [10,19,20] [19,20] fun D J w hG hs=>?_
   have hgd0:=QQ2 (eq_of_beq (QbC (hG)))
   have hgd1:=QQ1 (eq_of_beq (QbG (hG)))
   exact Qax QdU Qcu.1 (Rd.own' hr2 hs) rfl rfl (by omega) (by rw [QQ6];omega) (Zz hs)
  ·exact oy [10,21] [21] fun D J w hG hs=>Qae QeV rfl (Zz hs)
  ·refine oy [10,22] [22] fun D J w hG hs=>?_
   have hgd0:=QQ2 (eq_of_beq (QbC (hG)))
   have hgd1:=QQ1 (eq_of_beq (QbG (hG)))
   exact QaU (j:=0) (V:=.int .u16 ((gd s.ticks k).cart)) k Qar (Rd.own' hr2 hs) (QaW (by omega)) rfl rfl (by omega) (Zz hs)
  ·exact oy [10,17,23] [17,23] fun D J w hG hs=>QcC rfl rfl (Zz hs)
  ·exact oy [7,10,24] [10] fun D J w hG hs=>QfY (h':=decide ((gd s.ticks k).cart<=(gd s.ticks (k-1)).cart)) (G:=((decide (1073741824<(gd s.ticks k).tick)) == false)) hG rfl rfl rfl (Zz hs)
  ·exact oa [7,25] fun D J w hs=>QbM (h':=(decide (0<(k:Int)))&&(decide ((gd s.ticks k).cart<=(gd s.ticks (k-1)).cart))) rfl rfl rfl (Zz hs)
  rintro J1 w5 J2 hJ hs
  replace hJ:J2=upd (mix (sq 13 27) J1 _) 39 (.bool ((decide (1073741824<(gd s.ticks k).tick))||((decide (0<(k:Int)))&&(decide ((gd s.ticks k).cart<=(gd s.ticks (k-1)).cart))))):=hJ
  subst hJ
  refine Qan (t:=(decide (1073741824<(gd s.ticks k).tick))||((decide (0<(k:Int)))&&(decide ((gd s.ticks k).cart<=(gd s.ticks (k-1)).cart)))) rfl (fun c6=>?_) (fun c6=>?_)
  ·
   refine Qag (Qab (Qaa (Qad (V:=.bool false) rfl (Qaf (Qaw ?_)))))
   refine ⟨_,Qaq (V:=.bool false) Tryz.results100 rfl,(Zr hs ?_)⟩
   exact congrArg Value.bool (Qhp (i:=k) (by omega) (by unfold Qjd;have hq:=c6;simpa using hq)).symm
  have c6r:=Qeo c6
  replace c6:=Qet c6
  replace c6:=QQ2 c6
  refine Qap (Qab (Qaa (Qac (V:=I6 (k:Int)) rfl (Qaa (QaD (a:=(k:Int)) (b:=1) (c:=((k+1:Nat):Int)) rfl rfl (Qak (by omega) (by omega)) (Qaa (Qad (V:=I6 ((k+1:Nat):Int)) rfl (Qaf ?_))))))))
  refine ⟨_,?_,_,k+1,Qai (Qao (ds:=([2,3]++sq 6 34)) (by repeat (first|exact Agr.refl _ _|refine Agr.upd ?_ rfl|refine Agr.mix ?_ rfl))) rfl,(by omega),(Qca hbt (by unfold Qjd;rw [QQ4 c6,Bool.false_or];have hq:=c6r;simpa using hq)),rfl,hs.take 1⟩
  omega
 replace c4:=QQ2 c4
 refine QaH (Qag (Qag (Qab (Qaa (Qad (V:=I6 0) rfl (Qaf (Qam (QaA (fun J μ J' w'=>∃ (Jo:Env) (k2:Nat),J'=upd (mix ([2,4,5]++sq 40 52) Jo J) 4 (I6 (k2:Int))/\(k2<=s.ents.length)/\(∀ j:Nat,j<k2->QgN s j=false)/\μ=s.ents.length-k2/\Own w no w' [blk b1 ((vc s.known)++[(.slice a1 s.ents.length c1:Value),(.slice a2 s.ticks.length c2:Value) ]) 28]) ?_ ?_))))))))
 ·exact ⟨_,_,0,Qai (Qao (ds:=([2,4,5]++sq 40 52)) (Agr.refl _ _)) rfl,(by omega),(fun j hj=>absurd hj (Nat.not_lt_zero j)),rfl,hs⟩
 rintro μ J' w7 ⟨Jo,k2,rfl,hk2,hbe,rfl,hs⟩
 refine Qag (Qag (Qab (Qaa (Qac (V:=I6 (k2:Int)) rfl (Qaa (Qae Qbv rfl (Qaa (QaF (V:=.slice a1 s.ents.length c1) QcL hs 0 rfl rfl rfl (Qaa (QaX (n:=s.ents.length) Qcv (Rd.own' hr1 hs) (by simp) rfl (Qaa (QaS rfl rfl (Qaf (Qan (t:=decide ((k2:Int)<((s.ents.length:Nat):Int))) rfl (fun c8=>?_) (fun c8=>?_)))))))))))))))
 ·
  replace c8:=QQ1 c8
  refine Qap (Qag (Qam (Qag (Qag (QaJ HM [some 47,some 48,some 49,some 50,some 51,some 52,some 53,some 54,some 55,some 56,some 57,some 58,some 59,some 60,some 61,some 62,some 63,some 64,some 65,some 66,some 67,some 68,some 69,some 70,some 71,some 72,some 73] [] [0,0,2,0,14,30,63,127,255,511,1023,2047,4095,8191,4095,20479,65535,131071,4095,266239,4095,1839103,3936255,8388607,16777215,33554431,67108863] [pv (.agg ((vc s.known)++[(.slice a1 s.ents.length c1:Value),(.slice a2 s.ticks.length c2:Value) ]).toArray),pv (Pq b1 (0+16)),pv (.slice a1 s.ents.length c1),pv (I6 (k2:Int)),pv (.pointer (some ⟨bkS (.slice a1 s.ents.length c1),ofS (.slice a1 s.ents.length c1)+(k2:Int).toNat*7,none⟩)),pv (.agg (cec (gd s.ents k2)).toArray),pv (.bool (Qdz s (gd s.ents k2))),pv (.bool (!(Qdz s (gd s.ents k2)))),pv (.bool (!(Qdz s (gd s.ents k2)))),pg ((!(Qdz s (gd s.ents k2))) == false) (I6 (k2:Int)),pg ((!(Qdz s (gd s.ents k2))) == false) (.bool (decide (0<(k2:Int)))),pg ((!(Qdz s (gd s.ents k2))) == false) (.bool (decide (0<(k2:Int)))),pg (((!(Qdz s (gd s.ents k2))) == false)&&((decide (0<(k2:Int))) == true)) (Pq b1 (0+16)),pg (((!(Qdz s (gd s.ents k2))) == false)&&((decide (0<(k2:Int))) == true)) (.slice a1 s.ents.length c1),pg (((!(Qdz s (gd s.ents k2))) == false)&&((decide (0<(k2:Int))) == true)) (I6 (k2:Int)),pg (((!(Qdz s (gd s.ents k2))) == false)&&((decide (0<(k2:Int))) == true)) (I6 ((k2-1:Nat):Int)),pg (((!(Qdz s (gd s.ents k2))) == false)&&((decide (0<(k2:Int))) == true)) (.pointer (some ⟨bkS (.slice a1 s.ents.length c1),ofS (.slice a1 s.ents.length c1)+((k2-1:Nat):Int).toNat*7,none⟩)),pg (((!(Qdz s (gd s.ents k2))) == false)&&((decide (0<(k2:Int))) == true)) (.agg (cec (gd s.ents (k2-1))).toArray),pg (((!(Qdz s (gd s.ents k2))) == false)&&((decide (0<(k2:Int))) == true)) (Pq b1 (0+16)),pg (((!(Qdz s (gd s.ents k2))) == false)&&((decide (0<(k2:Int))) == true)) (.slice a1 s.ents.length c1),pg (((!(Qdz s (gd s.ents k2))) == false)&&((decide (0<(k2:Int))) == true)) (I6 (k2:Int)),pg (((!(Qdz s (gd s.ents k2))) == false)&&((decide (0<(k2:Int))) == true)) (.pointer (some ⟨bkS (.slice a1 s.ents.length c1),ofS (.slice a1 s.ents.length c1)+(k2:Int).toNat*7,none⟩)),pg (((!(Qdz s (gd s.ents k2))) == false)&&((decide (0<(k2:Int))) == true)) (.agg (cec (gd s.ents k2)).toArray),pg (((!(Qdz s (gd s.ents k2))) == false)&&((decide (0<(k2:Int))) == true)) (.bool (Qbl (gd s.ents (k2-1)) (gd s.ents k2))),pg (((!(Qdz s (gd s.ents k2))) == false)&&((decide (0<(k2:Int))) == true)) (.bool (!(Qbl (gd s.ents (k2-1)) (gd s.ents k2)))),pg ((!(Qdz s (gd s.ents k2))) == false) (.bool ((decide (0<(k2:Int)))&&(!(Qbl (gd s.ents (k2-1)) (gd s.ents k2))))),pv (.bool ((!(Qdz s (gd s.ents k2)))||((decide (0<(k2:Int)))&&(!(Qbl (gd s.ents (k2-1)) (gd s.ents k2))))))] (fun _ _=>_) [26] (by kernel_rfl) hs ⟨?_,?_,?_,?_,?_,?_,?_,?_,?_,?_,?_,?_,?_,?_,?_,?_,?_,?_,?_,?_,?_,?_,?_,?_,?_,?_,?_,trivial⟩ ?_)))))
  ·exact oa [] fun D J w hs=>QaI (cs:=(vc s.known)++[(.slice a1 s.ents.length c1:Value),(.slice a2 s.ticks.length c2:Value) ]) Qdj hs 0 rfl rfl rfl (Zz hs)
  ·exact oa [] fun D J w hs=>Qae Qbv rfl (Zz hs)
  ·exact oa [1] fun D J w hs=>QaF (V:=.slice a1 s.ents.length c1) QcL hs 0 rfl rfl rfl (Zz hs)
  ·exact oa [] fun D J w hs=>Qac (V:=.int .i64 (k2:Int)) rfl (Zz hs)
  ·exact oa [2,3] fun D J w hs=>Qax Qcv Qbp.1 (Rd.own' hr1 hs) rfl rfl (by omega) (by rw [QQ6];omega) (Zz hs)
  ·exact oa [4] fun D J w hs=>QaV (j:=0) (vs:=cec (gd s.ents k2)) k2 Qbp (Rd.own' hr1 hs) (QaW (by omega)) rfl rfl rfl (by omega) (Zz hs)
  ·exact oa [0,5] fun D J w hs=>Qau (vs:=[.agg ((vc s.known)++[(.slice a1 s.ents.length c1:Value),(.slice a2 s.ticks.length c2:Value) ]).toArray,.agg (cec (gd s.ents k2)).toArray]) (V:=.bool (Qdz s (gd s.ents k2))) Qtg rfl rfl (Qm6 _ s a1 c1 a2 c2 (gd s.ents k2) (hE0 _ (QbP (by omega))) (Rd.own' hr1 hs) (Rd.own' hr2 hs)) hs fun _ hs=>Zz hs
  ·exact oa [6] fun D J w hs=>Qbx rfl (Zz hs)
  ·exact oa [7] fun D J w hs=>Qac (V:=.bool (!(Qdz s (gd s.ents k2)))) rfl (Zz hs)
  ·exact og [8] fun D J w hG hs=>Qac (V:=.int .i64 (k2:Int)) rfl (Zz hs)
  ·exact oy [8,9] [9] fun D J w hG hs=>QbW rfl rfl (Zz hs)
  ·exact oy [8,10] [10] fun D J w hG hs=>Qac (V:=.bool (decide (0<(k2:Int)))) rfl (Zz hs)
  ·exact og [11] fun D J w hG hs=>Qae Qbv rfl (Zz hs)
  ·exact oy [11,12] [12] fun D J w hG hs=>QaF (V:=.slice a1 s.ents.length c1) QcL hs 0 rfl rfl rfl (Zz hs)
  ·exact og [11] fun D J w hG hs=>Qac (V:=.int .i64 (k2:Int)) rfl (Zz hs)
  ·refine oy [11,14] [14] fun D J w hG hs=>?_
   have hgd1:=QQ1 (eq_of_beq (QbG (hG)))
   exact Qba (a:=(k2:Int)) (b:=1) (c:=((k2-1:Nat):Int)) rfl rfl (Qak (by omega) (by omega)) (Zz hs)
  ·refine oy [11,13,15] [13,15] fun D J w hG hs=>?_
   have hgd1:=QQ1 (eq_of_beq (QbG (hG)))
   exact Qax Qcv Qbp.1 (Rd.own' hr1 hs) rfl rfl (by omega) (by rw [QQ6];omega) (Zz hs)
  ·refine oy [11,16] [16] fun D J w hG hs=>?_
   have hgd1:=QQ1 (eq_of_beq (QbG (hG)))
   exact QaV (j:=0) (vs:=cec (gd s.ents (k2-1))) (k2-1) Qbp (Rd.own' hr1 hs) (QaW (by omega)) rfl rfl rfl (by omega) (Zz hs)
  ·exact og [11] fun D J w hG hs=>Qae Qbv rfl (Zz hs)
  ·exact oy [11,18] [18] fun D J w hG hs=>QaF (V:=.slice a1 s.ents.length c1) QcL hs 0 rfl rfl rfl (Zz hs)
  ·exact og [11] fun D J w hG hs=>Qac (V:=.int .i64 (k2:Int)) rfl (Zz hs)
  ·refine oy [11,19,20] [19,20] fun D J w hG hs=>?_
   have hgd1:=QQ1 (eq_of_beq (QbG (hG)))
   exact Qax Qcv Qbp.1 (Rd.own' hr1 hs) rfl rfl (by omega) (by rw [QQ6];omega) (Zz hs)
  ·refine oy [11,21] [21] fun D J w hG hs=>?_
   have hgd1:=QQ1 (eq_of_beq (QbG (hG)))
   exact QaV (j:=0) (vs:=cec (gd s.ents k2)) k2 Qbp (Rd.own' hr1 hs) (QaW (by omega)) rfl rfl rfl (by omega) (Zz hs)
  ·exact oy [11,17,22] [17,22] fun D J w hG hs=>Qau (vs:=[.agg (cec (gd s.ents (k2-1))).toArray,.agg (cec (gd s.ents k2)).toArray]) (V:=.bool (Qbl (gd s.ents (k2-1)) (gd s.ents k2))) Qsx rfl rfl (Qkr _ (gd s.ents (k2-1)) (gd s.ents k2)) hs fun _ hs=>Zz hs
  ·exact oy [11,23] [23] fun D J w hG hs=>Qbx rfl (Zz hs)
  ·exact oy [8,11,24] [11] fun D J w hG hs=>QfY (h':=!(Qbl (gd s.ents (k2-1)) (gd s.ents k2))) (G:=((!(Qdz s (gd s.ents k2))) == false)) hG rfl rfl rfl (Zz hs)
  ·exact oa [8,25] fun D J w hs=>QbM (h':=(decide (0<(k2:Int)))&&(!(Qbl (gd s.ents (k2-1)) (gd s.ents k2)))) rfl rfl rfl (Zz hs)
  rintro J1 w11 J2 hJ hs
  replace hJ:J2=upd (mix (sq 47 27) J1 _) 73 (.bool ((!(Qdz s (gd s.ents k2)))||((decide (0<(k2:Int)))&&(!(Qbl (gd s.ents (k2-1)) (gd s.ents k2)))))):=hJ
  subst hJ
  refine Qan (t:=(!(Qdz s (gd s.ents k2)))||((decide (0<(k2:Int)))&&(!(Qbl (gd s.ents (k2-1)) (gd s.ents k2))))) rfl (fun c12=>?_) (fun c12=>?_)
  ·
   refine Qag (Qab (Qaa (Qad (V:=.bool false) rfl (Qaf (Qaw ?_)))))
   refine ⟨_,Qaq (V:=.bool false) Tryz.results100 rfl,(Zr hs (congrArg Value.bool (Qcn (i:=k2) (by omega) ?_).symm))⟩
   have hq:=c12
   unfold QgN
   revert hq
   rcases Nat.eq_zero_or_pos k2 with q9|q9
   ·subst q9;cases Qdz s (gd s.ents 0)<;>simp
   rw [QQ3 (p:=0<k2) q9,QQ3 (p:=(0:Int)<_) (by omega)];cases Qdz s (gd s.ents k2)<;>cases Qbl (gd s.ents (k2-1)) (gd s.ents k2)<;>simp
  have c12r:=Qeo c12
  replace c12:=Qet c12
  replace c12:=Qbd c12
  refine Qap (Qag (Qab (Qaa (Qad (V:=I6 0) rfl (Qaf (Qam ?_))))))
  have hen:=c12
  have hah:(decide (0<k2)&&!Qbl (gd s.ents (k2-1)) (gd s.ents k2))=false:=by have hq:=c12r;simpa using hq
  refine QaA (fun J μ J' w'=>∃ (Jo:Env) (k3:Nat),J'=upd (mix ([2,5]++sq 74 18) Jo J) 5 (I6 (k3:Int))/\(k3<=k2)/\(∀ j:Nat,j<k3->decide ((gd s.ents j).dot=(gd s.ents k2).dot)=false)/\μ=k2-k3/\Own w no w' [blk b1 ((vc s.known)++[(.slice a1 s.ents.length c1:Value),(.slice a2 s.ticks.length c2:Value) ]) 28]) ?_ ?_
  ·exact ⟨_,_,0,Qai (Qao (ds:=([2,5]++sq 74 18)) (Agr.refl _ _)) rfl,(by omega),(fun j hj=>absurd hj (Nat.not_lt_zero j)),rfl,hs⟩
  rintro μ J' w13 ⟨Jo,k3,rfl,hk3,hdd,rfl,hs⟩
  refine Qag (Qag (Qab (Qaa (Qac (V:=I6 (k3:Int)) rfl (Qaa (Qac (V:=I6 (k2:Int)) rfl (Qaa (QaS rfl rfl (Qaf (Qan (t:=decide ((k3:Int)<(k2:Int))) rfl (fun c14=>?_) (fun c14=>?_)))))))))))
  ·
   replace c14:=QQ1 c14
   refine Qap (Qag (Qam (Qag (QaJ HM [some 79,some 80,some 81,some 82,some 83,some 84,some 85,some 86,some 87,some 88,some 89,some 90,some 91] [] [0,1,0,7,15,31,0,64,0,448,960,1984,4095] [pv (Pq b1 (0+16)),pv (.slice a1 s.ents.length c1),pv (I6 (k3:Int)),pv (.pointer (some ⟨bkS (.slice a1 s.ents.length c1),ofS (.slice a1 s.ents.length c1)+(k3:Int).toNat*7,none⟩)),pv (.pointer (some ⟨bkS (.slice a1 s.ents.length c1),ofS (.slice a1 s.ents.length c1)+(k3:Int).toNat*7+4,none⟩)),pv (.agg (dc ((gd s.ents k3).dot)).toArray),pv (Pq b1 (0+16)),pv (.slice a1 s.ents.length c1),pv (I6 (k2:Int)),pv (.pointer (some ⟨bkS (.slice a1 s.ents.length c1),ofS (.slice a1 s.ents.length c1)+(k2:Int).toNat*7,none⟩)),pv (.pointer (some ⟨bkS (.slice a1 s.ents.length c1),ofS (.slice a1 s.ents.length c1)+(k2:Int).toNat*7+4,none⟩)),pv (.agg (dc ((gd s.ents k2).dot)).toArray),pv (.bool (decide ((gd s.ents k3).dot=(gd s.ents k2).dot)))] (fun _ _=>_) [12] (by kernel_rfl) hs ⟨?_,?_,?_,?_,?_,?_,?_,?_,?_,?_,?_,?_,?_,trivial⟩ ?_))))
   ·exact oa [] fun D J w hs=>Qae Qbv rfl (Zz hs)
   ·exact oa [0] fun D J w hs=>QaF (V:=.slice a1 s.ents.length c1) QcL hs 0 rfl rfl rfl (Zz hs)
   ·exact oa [] fun D J w hs=>Qac (V:=.int .i64 (k3:Int)) rfl (Zz hs)
   ·exact oa [1,2] fun D J w hs=>Qax Qcv Qbp.1 (Rd.own' hr1 hs) rfl rfl (by omega) (by rw [QQ6];omega) (Zz hs)
   ·exact oa [3] fun D J w hs=>Qae QbN rfl (Zz hs)
   ·exact oa [4] fun D J w hs=>QaV (j:=4) (vs:=dc ((gd s.ents k3).dot)) k3 QcI (Rd.own' hr1 hs) (QaW (by omega)) rfl rfl rfl (by omega) (Zz hs)
   ·exact oa [] fun D J w hs=>Qae Qbv rfl (Zz hs)
   ·exact oa [6] fun D J w hs=>QaF (V:=.slice a1 s.ents.length c1) QcL hs 0 rfl rfl rfl (Zz hs)
   ·exact oa [] fun D J w hs=>Qac (V:=.int .i64 (k2:Int)) rfl (Zz hs)
   ·exact oa [7,8] fun D J w hs=>Qax Qcv Qbp.1 (Rd.own' hr1 hs) rfl rfl (by omega) (by rw [QQ6];omega) (Zz hs)
   ·exact oa [9] fun D J w hs=>Qae QbN rfl (Zz hs)
   ·exact oa [10] fun D J w hs=>QaV (j:=4) (vs:=dc ((gd s.ents k2).dot)) k2 QcI (Rd.own' hr1 hs) (QaW (by omega)) rfl rfl rfl (by omega) (Zz hs)
   ·exact oa [5,11] fun D J w hs=>QnZ (xs:=dc ((gd s.ents k3).dot)) (ys:=dc ((gd s.ents k2).dot)) Tryz.eqGuardType96 (Qor ((gd s.ents k3).dot) ((gd s.ents k2).dot)) rfl rfl rfl (Zz hs)
   rintro J1 w15 J2 hJ hs
   replace hJ:J2=upd (mix (sq 79 13) J1 _) 91 (.bool (decide ((gd s.ents k3).dot=(gd s.ents k2).dot))):=hJ
   subst hJ
   refine Qan (t:=decide ((gd s.ents k3).dot=(gd s.ents k2).dot)) rfl (fun c16=>?_) (fun c16=>?_)
   ·
    replace c16:=QQ1 c16
    refine Qag (Qab (Qaa (Qad (V:=.bool false) rfl (Qaf (Qaw ?_)))))
    refine ⟨_,Qaq (V:=.bool false) Tryz.results100 rfl,(Zr hs ?_)⟩
    exact congrArg Value.bool (Qcn (i:=k2) (by omega) (QnI (j:=k3) (by omega) (by omega) c16)).symm
   replace c16:=QQ2 c16
   refine Qap (Qab (Qaa (Qac (V:=I6 (k3:Int)) rfl (Qaa (QaD (a:=(k3:Int)) (b:=1) (c:=((k3+1:Nat):Int)) rfl rfl (Qak (by omega) (by omega)) (Qaa (Qad (V:=I6 ((k3+1:Nat):Int)) rfl (Qaf ?_))))))))
   refine ⟨_,?_,_,k3+1,Qai (Qao (ds:=([2,5]++sq 74 18)) (by repeat (first|exact Agr.refl _ _|refine Agr.upd ?_ rfl|refine Agr.mix ?_ rfl))) rfl,(by omega),(Qca hdd (QQ4 c16)),rfl,hs.take 1⟩
   omega
  replace c14:=QQ2 c14
  refine QaH (Qab (Qaa (Qac (V:=I6 (k2:Int)) rfl (Qaa (QaD (a:=(k2:Int)) (b:=1) (c:=((k2+1:Nat):Int)) rfl rfl (Qak (by omega) (by omega)) (Qaa (Qad (V:=I6 ((k2+1:Nat):Int)) rfl (Qaf ?_))))))))
  refine ⟨_,?_,_,k2+1,Qai (Qao (ds:=([2,4,5]++sq 40 52)) (by repeat (first|exact Agr.refl _ _|refine Agr.upd ?_ rfl|refine Agr.mix ?_ rfl))) rfl,(by omega),(Qca hbe (Qrl (by omega) hen hah fun j hj=>hdd j (by omega))),rfl,hs.take 1⟩
  omega
 replace c8:=QQ2 c8
 refine QaH (Qag (Qab (Qaa (Qae Qew rfl (Qaa (QbL (vs:=vc s.known) Qbt hs 0 rfl rfl rfl rfl (Qaa (Qau (vs:=[.agg (vc s.known).toArray,I6 16]) (V:=.bool (QaN s.known 16)) QqH rfl rfl ?hc hs fun w17 hs=>?_))))))))
 case hc=>exact (Qgt _ s.known 16 (by first|assumption|exact Qb1))
 refine Qaa (Qad (V:=.bool (QaN s.known 16)) rfl (Qaf (Qaw ?_)))
 refine ⟨_,Qaq (V:=.bool (QaN s.known 16)) Tryz.results100 rfl,(Zr hs ?_)⟩
 exact congrArg Value.bool (QkB (fun i hi=>hbt i (by omega)) fun i hi=>hbe i (by omega)).symm
theorem QsZ (w:World) (s:Sta) (a1:Option Addr) (c1:Nat) (a2:Option Addr) (c2:Nat) (hr1:Rd w (.slice a1 s.ents.length c1) 7 (s.ents.map cec)) (hr2:Rd w (.slice a2 s.ticks.length c2) 2 (s.ticks.map lsc)):Calls Tryz.prog 38 #[.agg ((vc s.known)++[(.slice a1 s.ents.length c1:Value),(.slice a2 s.ticks.length c2:Value) ]).toArray] w (fun e w'=>e = .returned (.bool (QhQ s))/\Own w no w' []):=by
 refine Qaj (n:=13) Tryz.func38 rfl Tryz.ntmps38 rfl ?_
 have hs:=Own.start w
 refine Qag (Qab (Qaa (QaR (V:=.agg ((vc s.known)++[(.slice a1 s.ents.length c1:Value),(.slice a2 s.ticks.length c2:Value) ]).toArray) (cs:=(vc s.known)++[(.slice a1 s.ents.length c1:Value),(.slice a2 s.ticks.length c2:Value) ]) rfl rfl hs fun b1 w2 hs=>(Qaa (Qad (V:=.bool false) rfl (Qaf (Qag (Qbm [some 3,some 4,some 5,some 6,some 7,some 8,some 9,some 10,some 11,some 12,some 2] [] [0,1,3,7,15,31,63,127,255,511,1023] [pv (Pq b1 (0+16)),pv (.slice a1 s.ents.length c1),pv (I6 ((s.ents.length:Nat):Int)),pv (.bool (decide (((s.ents.length:Nat):Int)<=60))),pv (.bool (decide (((s.ents.length:Nat):Int)<=60))),pg ((decide (((s.ents.length:Nat):Int)<=60)) == true) (Pq b1 (0+17)),pg ((decide (((s.ents.length:Nat):Int)<=60)) == true) (.slice a2 s.ticks.length c2),pg ((decide (((s.ents.length:Nat):Int)<=60)) == true) (I6 ((s.ticks.length:Nat):Int)),pg ((decide (((s.ents.length:Nat):Int)<=60)) == true) (.bool (decide (((s.ticks.length:Nat):Int)<=60))),pv (.bool ((decide (((s.ents.length:Nat):Int)<=60))&&(decide (((s.ticks.length:Nat):Int)<=60)))),pv (.bool ((decide (((s.ents.length:Nat):Int)<=60))&&(decide (((s.ticks.length:Nat):Int)<=60))))] (fun _ _=>_) [10] (by kernel_rfl) hs ⟨?_,?_,?_,?_,?_,?_,?_,?_,?_,?_,?_,trivial⟩ ?_))))))))
 ·exact oa [] fun D J w hs=>Qae Qbv rfl (Zz hs)
 ·exact oa [0] fun D J w hs=>QaF (V:=.slice a1 s.ents.length c1) QcL hs 0 rfl rfl rfl (Zz hs)
 ·exact oa [1] fun D J w hs=>QaX (n:=s.ents.length) Qcv (Rd.own' hr1 hs) (by simp) rfl (Zz hs)
 ·exact oa [2] fun D J w hs=>Qdn rfl rfl (Zz hs)
 ·exact oa [3] fun D J w hs=>Qac (V:=.bool (decide (((s.ents.length:Nat):Int)<=60))) rfl (Zz hs)
 ·exact og [4] fun D J w hG hs=>Qae Qb5 rfl (Zz hs)
 ·exact oy [4,5] [5] fun D J w hG hs=>QaF (V:=.slice a2 s.ticks.length c2) Qd6 hs 0 rfl rfl rfl (Zz hs)
 ·exact oy [4,6] [6] fun D J w hG hs=>QaX (n:=s.ticks.length) QdU (Rd.own' hr2 hs) (by simp) rfl (Zz hs)
 ·exact oy [4,7] [7] fun D J w hG hs=>Qdn rfl rfl (Zz hs)
 ·exact oa [4,8] fun D J w hs=>Qa7 (h':=decide (((s.ticks.length:Nat):Int)<=60)) rfl rfl rfl (Zz hs)
 ·exact oa [9] fun D J w hs=>Qad (V:=.bool ((decide (((s.ents.length:Nat):Int)<=60))&&(decide (((s.ticks.length:Nat):Int)<=60)))) rfl (Zz hs)
 rintro J1 w3 J2 hJ hs
 replace hJ:J2=upd (mix (sq 3 10++[2]) J1 _) 2 (.bool ((decide (((s.ents.length:Nat):Int)<=60))&&(decide (((s.ticks.length:Nat):Int)<=60)))):=hJ
 subst hJ
 refine Qaw ?_
 refine ⟨_,Qaq (V:=.bool ((decide (((s.ents.length:Nat):Int)<=60))&&(decide (((s.ticks.length:Nat):Int)<=60)))) Tryz.results38 rfl,(Zr hs ?_)⟩
 rfl
end Tt
end Go.Proofs
namespace Go.Proofs
open Go Go.Vx Go.RowKit
namespace Tt
theorem Qk5 (w:World) (p:Pst) (a1:Option Addr) (c1:Nat) (a2:Option Addr) (c2:Nat) (a3:Option Addr) (c3:Nat) (hok:Qdw p) (hr1:Rd w (.slice a1 p.base.ents.length c1) 7 (p.base.ents.map cec)) (hr2:Rd w (.slice a2 p.base.ticks.length c2) 2 (p.base.ticks.map lsc)) (hr3:Rd w (.slice a3 p.ops.length c3) 23 (p.ops.map oc)):Calls Tryz.prog 62 #[.agg (((vc p.base.known)++[(.slice a1 p.base.ents.length c1:Value),(.slice a2 p.base.ticks.length c2:Value) ])++[(.slice a3 p.ops.length c3:Value) ]++(vc p.known)).toArray] w (fun e w'=>e = .returned (.bool (Qb3 p))/\Own w no w' []):=by
 refine Qaj (n:=52) Tryz.func62 rfl Tryz.ntmps62 rfl ?_
 have hs:=Own.start w
 have ⟨hokb,hoko,hokk⟩:=hok
 have hn3:=hr3.sml
 refine Qag (Qab (Qaa (QaR (V:=.agg (((vc p.base.known)++[(.slice a1 p.base.ents.length c1:Value),(.slice a2 p.base.ticks.length c2:Value) ])++[(.slice a3 p.ops.length c3:Value) ]++(vc p.known)).toArray) (cs:=((vc p.base.known)++[(.slice a1 p.base.ents.length c1:Value),(.slice a2 p.base.ticks.length c2:Value) ])++[(.slice a3 p.ops.length c3:Value) ]++(vc p.known)) rfl rfl hs fun b1 w2 hs=>(Qaa (Qad (V:=.bool false) rfl (Qaf (Qag (Qag (Qab (Qaa (Qad (V:=I6 0) rfl (Qaf (Qam (QaA (fun J μ J' w'=>∃ (Jo:Env) (k:Nat),J'=upd (mix (sq 2 47) Jo J) 3 (I6 (k:Int))/\(k<=p.ops.length)/\(∀ j:Nat,j<k->QhA p.base.known p.ops j=false)/\μ=p.ops.length-k/\Own w no w' [blk b1 (((vc p.base.known)++[(.slice a1 p.base.ents.length c1:Value),(.slice a2 p.base.ticks.length c2:Value) ])++[(.slice a3 p.ops.length c3:Value) ]++(vc p.known)) 31]) ?_ ?_))))))))))))))
 ·exact ⟨_,_,0,Qai (Qao (ds:=(sq 2 47)) (Agr.refl _ _)) rfl,(by omega),(fun j hj=>absurd hj (Nat.not_lt_zero j)),rfl,hs⟩
 rintro μ J' w3 ⟨Jo,k,rfl,hk,hbo,rfl,hs⟩
 refine Qag (Qag (Qab (Qaa (Qac (V:=I6 (k:Int)) rfl (Qaa (Qae Qd5 rfl (Qaa (QaF (V:=.slice a3 p.ops.length c3) Qfk hs 0 rfl rfl rfl (Qaa (QaX (n:=p.ops.length) QdJ (Rd.own' hr3 hs) (by simp) rfl (Qaa (QaS rfl rfl (Qaf (Qan (t:=decide ((k:Int)<((p.ops.length:Nat):Int))) rfl (fun c4=>?_) (fun c4=>?_)))))))))))))))
 ·
  replace c4:=QQ1 c4
  refine Qap (Qag (Qam (Qag (Qag ?_))))
  have hOk:=hoko _ (QbP (l:=p.ops) (i:=k) (by omega))
  have hdk:=hOk.1
  refine QaJ HM [some 12,some 13,some 14,some 15,some 16,some 17,some 18,some 19,some 20,some 21,some 22,some 23,some 24,some 25,some 26,some 27,some 28,some 29,some 30] [] [0,1,0,7,15,31,63,127,255,511,1023,255,2303,255,14591,30975,63743,131071,262143] [pv (Pq b1 (0+18)),pv (.slice a3 p.ops.length c3),pv (I6 (k:Int)),pv (.pointer (some ⟨bkS (.slice a3 p.ops.length c3),ofS (.slice a3 p.ops.length c3)+(k:Int).toNat*23,none⟩)),pv (.agg (oc (gd p.ops k)).toArray),pv (.bool (QaP (gd p.ops k) 16)),pv (.bool (!(QaP (gd p.ops k) 16))),pv (.bool (!(QaP (gd p.ops k) 16))),pg ((!(QaP (gd p.ops k) 16)) == false) (Pq b1 (0+0)),pg ((!(QaP (gd p.ops k) 16)) == false) (Pq b1 (0+0+0)),pg ((!(QaP (gd p.ops k) 16)) == false) (.agg (vc p.base.known).toArray),pg ((!(QaP (gd p.ops k) 16)) == false) (Pq b1 (0+18)),pg ((!(QaP (gd p.ops k) 16)) == false) (.slice a3 p.ops.length c3),pg ((!(QaP (gd p.ops k) 16)) == false) (I6 (k:Int)),pg ((!(QaP (gd p.ops k) 16)) == false) (.pointer (some ⟨bkS (.slice a3 p.ops.length c3),ofS (.slice a3 p.ops.length c3)+(k:Int).toNat*23,none⟩)),pg ((!(QaP (gd p.ops k) 16)) == false) (.pointer (some ⟨bkS (.slice a3 p.ops.length c3),ofS (.slice a3 p.ops.length c3)+(k:Int).toNat*23+0,none⟩)),pg ((!(QaP (gd p.ops k) 16)) == false) (.agg (dc ((gd p.ops k).dot)).toArray),pg ((!(QaP (gd p.ops k) 16)) == false) (.bool (Qbz p.base.known ((gd p.ops k).dot))),pv (.bool ((!(QaP (gd p.ops k) 16))||(Qbz p.base.known ((gd p.ops k).dot))))] (fun _ _=>_) [18] (by kernel_rfl) hs ⟨?_,?_,?_,?_,?_,?_,?_,?_,?_,?_,?_,?_,?_,?_,?_,?_,?_,?_,?_,trivial⟩ ?_
  ·exact oa [] fun D J w hs=>Qae Qd5 rfl (Zz hs)
  ·exact oa [0] fun D J w hs=>QaF (V:=.slice a3 p.ops.length c3) Qfk hs 0 rfl rfl rfl (Zz hs)
  ·exact oa [] fun D J w hs=>Qac (V:=.int .i64 (k:Int)) rfl (Zz hs)
  ·exact oa [1,2] fun D J w hs=>Qax QdJ QbZ.1 (Rd.own' hr3 hs) rfl rfl (by omega) (by rw [QQ6];omega) (Zz hs)
  ·exact oa [3] fun D J w hs=>QaV (j:=0) (vs:=oc (gd p.ops k)) k QbZ (Rd.own' hr3 hs) (QaW (by omega)) rfl rfl rfl (by omega) (Zz hs)
  ·exact oa [4] fun D J w hs=>Qau (vs:=[.agg (oc (gd p.ops k)).toArray,.int .i64 16]) (V:=.bool (QaP (gd p.ops k) 16)) QtV rfl rfl (QkN _ (gd p.ops k) 16 (hoko _ (QbP (by omega)))) hs fun _ hs=>Zz hs
  ·exact oa [5] fun D J w hs=>Qbx rfl (Zz hs)
  ·exact oa [6] fun D J w hs=>Qac (V:=.bool (!(QaP (gd p.ops k) 16))) rfl (Zz hs)
  ·exact og [7] fun D J w hG hs=>Qae QdT rfl (Zz hs)
  ·exact oy [7,8] [8] fun D J w hG hs=>Qae Qew rfl (Zz hs)
  ·exact oy [7,9] [9] fun D J w hG hs=>QbL (vs:=vc p.base.known) Qbt hs 0 rfl rfl rfl rfl (Zz hs)
  ·exact og [7] fun D J w hG hs=>Qae Qd5 rfl (Zz hs)
  ·exact oy [7,11] [11] fun D J w hG hs=>QaF (V:=.slice a3 p.ops.length c3) Qfk hs 0 rfl rfl rfl (Zz hs)
  ·exact og [7] fun D J w hG hs=>Qac (V:=.int .i64 (k:Int)) rfl (Zz hs)
  ·exact oy [7,12,13] [12,13] fun D J w hG hs=>Qax QdJ QbZ.1 (Rd.own' hr3 hs) rfl rfl (by omega) (by rw [QQ6];omega) (Zz hs)
  ·exact oy [7,14] [14] fun D J w hG hs=>Qae Qb0 rfl (Zz hs)
  ·exact oy [7,15] [15] fun D J w hG hs=>QaV (j:=0) (vs:=dc ((gd p.ops k).dot)) k QcI (Rd.own' hr3 hs) (QaW (by omega)) rfl rfl rfl (by omega) (Zz hs)
  ·exact oy [7,10,16] [10,16] fun D J w hG hs=>Qau (vs:=[.agg (vc p.base.known).toArray,.agg (dc ((gd p.ops k).dot)).toArray]) (V:=.bool (Qbz p.base.known ((gd p.ops k).dot))) QoN rfl rfl (QhN _ p.base.known ((gd p.ops k).dot) (by first|assumption|exact Qdf (by omega) (by omega) (by omega) (by omega))) hs fun _ hs=>Zz hs
  ·exact oa [7,17] fun D J w hs=>QbM (h':=Qbz p.base.known ((gd p.ops k).dot)) rfl rfl rfl (Zz hs)
  rintro J1 w7 J2 hJ hs
  replace hJ:J2=upd (mix (sq 12 19) J1 _) 30 (.bool ((!(QaP (gd p.ops k) 16))||(Qbz p.base.known ((gd p.ops k).dot)))):=hJ
  subst hJ
  refine Qan (t:=(!(QaP (gd p.ops k) 16))||(Qbz p.base.known ((gd p.ops k).dot))) rfl (fun c8=>?_) (fun c8=>?_)
  ·
   refine Qag (Qab (Qaa (Qad (V:=.bool false) rfl (Qaf (Qaw ?_)))))
   refine ⟨_,Qaq (V:=.bool false) Tryz.results62 rfl,(Zr hs (congrArg Value.bool (Qea (i:=k) (by omega) ?_).symm))⟩
   have hq:=c8
   unfold QhA
   rw [hq,Bool.true_or]
  have c8r:=Qeo c8
  replace c8:=Qet c8
  replace c8:=Qbd c8
  refine Qap (Qag (Qab (Qaa (Qad (V:=I6 0) rfl (Qaf (Qam ?_))))))
  have hz1:(!QaP (gd p.ops k) 16||Qbz p.base.known (gd p.ops k).dot)=false:=by rw [c8,c8r];rfl
  refine QaA (fun J μ J' w'=>∃ (Jo:Env) (k2:Nat),J'=upd (mix ([2,4]++sq 31 18) Jo J) 4 (I6 (k2:Int))/\(k2<=k)/\(∀ j:Nat,j<k2->decide ((gd p.ops j).dot=(gd p.ops k).dot)=false)/\μ=k-k2/\Own w no w' [blk b1 (((vc p.base.known)++[(.slice a1 p.base.ents.length c1:Value),(.slice a2 p.base.ticks.length c2:Value) ])++[(.slice a3 p.ops.length c3:Value) ]++(vc p.known)) 31]) ?_ ?_
  ·exact ⟨_,_,0,Qai (Qao (ds:=([2,4]++sq 31 18)) (Agr.refl _ _)) rfl,(by omega),(fun j hj=>absurd hj (Nat.not_lt_zero j)),rfl,hs⟩
  rintro μ J' w9 ⟨Jo,k2,rfl,hk2,hdd,rfl,hs⟩
  refine Qag (Qag (Qab (Qaa (Qac (V:=I6 (k2:Int)) rfl (Qaa (Qac (V:=I6 (k:Int)) rfl (Qaa (QaS rfl rfl (Qaf (Qan (t:=decide ((k2:Int)<(k:Int))) rfl (fun c10=>?_) (fun c10=>?_)))))))))))
  ·
   replace c10:=QQ1 c10
   refine Qap (Qag (Qam (Qag (QaJ HM [some 36,some 37,some 38,some 39,some 40,some 41,some 42,some 43,some 44,some 45,some 46,some 47,some 48] [] [0,1,0,7,15,31,0,64,0,448,960,1984,4095] [pv (Pq b1 (0+18)),pv (.slice a3 p.ops.length c3),pv (I6 (k2:Int)),pv (.pointer (some ⟨bkS (.slice a3 p.ops.length c3),ofS (.slice a3 p.ops.length c3)+(k2:Int).toNat*23,none⟩)),pv (.pointer (some ⟨bkS (.slice a3 p.ops.length c3),ofS (.slice a3 p.ops.length c3)+(k2:Int).toNat*23+0,none⟩)),pv (.agg (dc ((gd p.ops k2).dot)).toArray),pv (Pq b1 (0+18)),pv (.slice a3 p.ops.length c3),pv (I6 (k:Int)),pv (.pointer (some ⟨bkS (.slice a3 p.ops.length c3),ofS (.slice a3 p.ops.length c3)+(k:Int).toNat*23,none⟩)),pv (.pointer (some ⟨bkS (.slice a3 p.ops.length c3),ofS (.slice a3 p.ops.length c3)+(k:Int).toNat*23+0,none⟩)),pv (.agg (dc ((gd p.ops k).dot)).toArray),pv (.bool (decide ((gd p.ops k2).dot=(gd p.ops k).dot)))] (fun _ _=>_) [12] (by kernel_rfl) hs ⟨?_,?_,?_,?_,?_,?_,?_,?_,?_,?_,?_,?_,?_,trivial⟩ ?_))))
   ·exact oa [] fun D J w hs=>Qae Qd5 rfl (Zz hs)
   ·exact oa [0] fun D J w hs=>QaF (V:=.slice a3 p.ops.length c3) Qfk hs 0 rfl rfl rfl (Zz hs)
   ·exact oa [] fun D J w hs=>Qac (V:=.int .i64 (k2:Int)) rfl (Zz hs)
   ·exact oa [1,2] fun D J w hs=>Qax QdJ QbZ.1 (Rd.own' hr3 hs) rfl rfl (by omega) (by rw [QQ6];omega) (Zz hs)
   ·exact oa [3] fun D J w hs=>Qae Qb0 rfl (Zz hs)
   ·exact oa [4] fun D J w hs=>QaV (j:=0) (vs:=dc ((gd p.ops k2).dot)) k2 QcI (Rd.own' hr3 hs) (QaW (by omega)) rfl rfl rfl (by omega) (Zz hs)
   ·exact oa [] fun D J w hs=>Qae Qd5 rfl (Zz hs)
   ·exact oa [6] fun D J w hs=>QaF (V:=.slice a3 p.ops.length c3) Qfk hs 0 rfl rfl rfl (Zz hs)
   ·exact oa [] fun D J w hs=>Qac (V:=.int .i64 (k:Int)) rfl (Zz hs)
   ·exact oa [7,8] fun D J w hs=>Qax QdJ QbZ.1 (Rd.own' hr3 hs) rfl rfl (by omega) (by rw [QQ6];omega) (Zz hs)
   ·exact oa [9] fun D J w hs=>Qae Qb0 rfl (Zz hs)
   ·exact oa [10] fun D J w hs=>QaV (j:=0) (vs:=dc ((gd p.ops k).dot)) k QcI (Rd.own' hr3 hs) (QaW (by omega)) rfl rfl rfl (by omega) (Zz hs)
   ·exact oa [5,11] fun D J w hs=>QnZ (xs:=dc ((gd p.ops k2).dot)) (ys:=dc ((gd p.ops k).dot)) Tryz.eqGuardType96 (Qor ((gd p.ops k2).dot) ((gd p.ops k).dot)) rfl rfl rfl (Zz hs)
   rintro J1 w11 J2 hJ hs
   replace hJ:J2=upd (mix (sq 36 13) J1 _) 48 (.bool (decide ((gd p.ops k2).dot=(gd p.ops k).dot))):=hJ
   subst hJ
   refine Qan (t:=decide ((gd p.ops k2).dot=(gd p.ops k).dot)) rfl (fun c12=>?_) (fun c12=>?_)
   ·
    replace c12:=QQ1 c12
    refine Qag (Qab (Qaa (Qad (V:=.bool false) rfl (Qaf (Qaw ?_)))))
    refine ⟨_,Qaq (V:=.bool false) Tryz.results62 rfl,(Zr hs ?_)⟩
    exact congrArg Value.bool (Qea (i:=k) (by omega) (QnJ (j:=k2) (by omega) (by omega) c12)).symm
   replace c12:=QQ2 c12
   refine Qap (Qab (Qaa (Qac (V:=I6 (k2:Int)) rfl (Qaa (QaD (a:=(k2:Int)) (b:=1) (c:=((k2+1:Nat):Int)) rfl rfl (Qak (by omega) (by omega)) (Qaa (Qad (V:=I6 ((k2+1:Nat):Int)) rfl (Qaf ?_))))))))
   refine ⟨_,?_,_,k2+1,Qai (Qao (ds:=([2,4]++sq 31 18)) (by repeat (first|exact Agr.refl _ _|refine Agr.upd ?_ rfl|refine Agr.mix ?_ rfl))) rfl,(by omega),(Qca hdd (QQ4 c12)),rfl,hs.take 1⟩
   omega
  replace c10:=QQ2 c10
  refine QaH (Qab (Qaa (Qac (V:=I6 (k:Int)) rfl (Qaa (QaD (a:=(k:Int)) (b:=1) (c:=((k+1:Nat):Int)) rfl rfl (Qak (by omega) (by omega)) (Qaa (Qad (V:=I6 ((k+1:Nat):Int)) rfl (Qaf ?_))))))))
  refine ⟨_,?_,_,k+1,Qai (Qao (ds:=(sq 2 47)) (by repeat (first|exact Agr.refl _ _|refine Agr.upd ?_ rfl|refine Agr.mix ?_ rfl))) rfl,(by omega),(Qca hbo (QrI (by omega) hz1 fun j hj=>hdd j (by omega))),rfl,hs.take 1⟩
  omega
 replace c4:=QQ2 c4
 refine QaH (Qag (Qab (Qaa (Qae QdT rfl (Qaa (QbL (vs:=(vc p.base.known)++[(.slice a1 p.base.ents.length c1:Value),(.slice a2 p.base.ticks.length c2:Value) ]) Qdj hs 0 rfl rfl rfl rfl (Qaa (Qau (vs:=[.agg ((vc p.base.known)++[(.slice a1 p.base.ents.length c1:Value),(.slice a2 p.base.ticks.length c2:Value) ]).toArray]) (V:=.bool (Qas p.base)) Qp1 rfl rfl ?hc hs fun w13 hs=>?_))))))))
 case hc=>exact (Qhj _ p.base a1 c1 a2 c2 hokb (Rd.own' hr1 hs) (Rd.own' hr2 hs))
 refine Qaa (Qad (V:=.bool (Qas p.base)) rfl (Qaf (Qaw ?_)))
 refine ⟨_,Qaq (V:=.bool (Qas p.base)) Tryz.results62 rfl,(Zr hs ?_)⟩
 exact congrArg Value.bool (QgL fun j hj=>hbo j (by omega)).symm
theorem QmG (w:World) (p:Pst) (a1:Option Addr) (c1:Nat) (a2:Option Addr) (c2:Nat) (a3:Option Addr) (c3:Nat) (cut:Vec) (hcut:QbX cut) (hok:Qdw p) (hr1:Rd w (.slice a1 p.base.ents.length c1) 7 (p.base.ents.map cec)) (hr2:Rd w (.slice a2 p.base.ticks.length c2) 2 (p.base.ticks.map lsc)) (hr3:Rd w (.slice a3 p.ops.length c3) 23 (p.ops.map oc)):Calls Tryz.prog 18 #[.agg (((vc p.base.known)++[(.slice a1 p.base.ents.length c1:Value),(.slice a2 p.base.ticks.length c2:Value) ])++[(.slice a3 p.ops.length c3:Value) ]++(vc p.known)).toArray,.agg (vc cut).toArray] w (fun e w'=>e = .returned (.int .i64 (QaY p cut))/\Own w no w' []):=by
 refine Qaj (n:=26) Tryz.func18 rfl Tryz.ntmps18 rfl ?_
 have hs:=Own.start w
 have ⟨hokb,hoko,hokk⟩:=hok
 refine Qag (Qab (Qaa (QaR (V:=.agg (((vc p.base.known)++[(.slice a1 p.base.ents.length c1:Value),(.slice a2 p.base.ticks.length c2:Value) ])++[(.slice a3 p.ops.length c3:Value) ]++(vc p.known)).toArray) (cs:=((vc p.base.known)++[(.slice a1 p.base.ents.length c1:Value),(.slice a2 p.base.ticks.length c2:Value) ])++[(.slice a3 p.ops.length c3:Value) ]++(vc p.known)) rfl rfl hs fun b1 w2 hs=>(Qaa (QaR (V:=.agg (vc cut).toArray) (cs:=vc cut) rfl rfl hs fun b3 w4 hs=>(Qaa (Qad (V:=I6 0) rfl (Qaf (Qag (Qam (Qag (Qab (Qaa (QaI (cs:=((vc p.base.known)++[(.slice a1 p.base.ents.length c1:Value),(.slice a2 p.base.ticks.length c2:Value) ])++[(.slice a3 p.ops.length c3:Value) ]++(vc p.known)) QgQ hs 0 rfl rfl rfl (Qaa (Qau (vs:=[.agg (((vc p.base.known)++[(.slice a1 p.base.ents.length c1:Value),(.slice a2 p.base.ticks.length c2:Value) ])++[(.slice a3 p.ops.length c3:Value) ]++(vc p.known)).toArray]) (V:=.bool (Qb3 p)) QuN rfl rfl ?hc hs fun w5 hs=>?_))))))))))))))))
 case hc=>exact (Qk5 _ p a1 c1 a2 c2 a3 c3 hok (Rd.own' hr1 hs) (Rd.own' hr2 hs) (Rd.own' hr3 hs))
 refine Qaa (Qbx rfl (Qaa (Qad (V:=.bool (!(Qb3 p))) rfl (Qaf (Qan (t:=!(Qb3 p)) rfl (fun c6=>?_) (fun c6=>?_))))))
 ·
  replace c6:=Qbs c6
  refine Qag (Qab (Qaa (Qad (V:=I6 2) rfl (Qaf (Qaw ?_)))))
  refine ⟨_,Qaq (V:=I6 2) Tryz.results18 rfl,(Zr hs (congrArg (Value.int .i64) ?_))⟩
  unfold QaY
  rw [c6];rfl
 replace c6:=Qbd c6
 refine Qag (Qab (Qaa (QaI (cs:=vc cut) Qbt hs 1 rfl rfl rfl (Qaa (Qau (vs:=[.agg (vc cut).toArray,I6 16]) (V:=.bool (QaN cut 16)) QqH rfl rfl ?hc hs fun w7 hs=>?_)))))
 case hc=>exact (Qgt _ cut 16 (by first|assumption|exact Qb1))
 refine Qaa (Qbx rfl (Qaa (Qad (V:=.bool (!(QaN cut 16))) rfl (Qaf (Qan (t:=!(QaN cut 16)) rfl (fun c8=>?_) (fun c8=>?_))))))
 ·
  replace c8:=Qbs c8
  refine Qag (Qab (Qaa (Qad (V:=I6 13) rfl (Qaf (Qaw ?_)))))
  refine ⟨_,Qaq (V:=I6 13) Tryz.results18 rfl,(Zr hs (congrArg (Value.int .i64) ?_))⟩
  unfold QaY
  rw [c6,c8];rfl
 replace c8:=Qbd c8
 refine Qag (Qab (Qaa (QaI (cs:=vc cut) Qbt hs 1 rfl rfl rfl (Qaa (Qae Qm4 rfl (Qaa (QbL (vs:=vc p.known) Qbt hs 0 rfl rfl rfl rfl (Qaa (Qau (vs:=[.agg (vc cut).toArray,.agg (vc p.known).toArray]) (V:=.bool (vle cut p.known)) Qr8 rfl rfl ?hc hs fun w9 hs=>?_)))))))))
 case hc=>exact (Qiw _ cut p.known)
 refine Qaa (Qbx rfl (Qaa (Qad (V:=.bool (!(vle cut p.known))) rfl (Qaf (Qan (t:=!(vle cut p.known)) rfl (fun c10=>?_) (fun c10=>?_))))))
 ·
  replace c10:=Qbs c10
  refine Qag (Qab (Qaa (Qad (V:=I6 11) rfl (Qaf (Qaw ?_)))))
  refine ⟨_,Qaq (V:=I6 11) Tryz.results18 rfl,(Zr hs (congrArg (Value.int .i64) ?_))⟩
  unfold QaY
  rw [c6,c8,c10];rfl
 replace c10:=Qbd c10
 refine Qag (Qab (Qaa (Qae QdT rfl (Qaa (Qae Qew rfl (Qaa (QbL (vs:=vc p.base.known) Qbt hs 0 rfl rfl rfl rfl (Qaa (QaI (cs:=vc cut) Qbt hs 1 rfl rfl rfl (Qaa (Qau (vs:=[.agg (vc p.base.known).toArray,.agg (vc cut).toArray]) (V:=.bool (vle p.base.known cut)) Qr8 rfl rfl ?hc hs fun w11 hs=>?_)))))))))))
 case hc=>exact (Qiw _ p.base.known cut)
 refine Qaa (Qbx rfl (Qaa (Qad (V:=.bool (!(vle p.base.known cut))) rfl (Qaf (Qan (t:=!(vle p.base.known cut)) rfl (fun c12=>?_) (fun c12=>?_))))))
 ·
  replace c12:=Qbs c12
  refine Qag (Qab (Qaa (Qad (V:=I6 12) rfl (Qaf (Qaw ?_)))))
  refine ⟨_,Qaq (V:=I6 12) Tryz.results18 rfl,(Zr hs (congrArg (Value.int .i64) ?_))⟩
  unfold QaY
  rw [c6,c8,c10,c12];rfl
 replace c12:=Qbd c12
 refine Qap (Qag (Qab (Qaa (Qad (V:=I6 0) rfl (Qaf (Qaw ?_))))))
 refine ⟨_,Qaq (V:=I6 0) Tryz.results18 rfl,(Zr hs (congrArg (Value.int .i64) ?_))⟩
 unfold QaY
 rw [c6,c8,c10,c12];rfl
end Tt
end Go.Proofs
namespace Go.Proofs
open Go Go.Vx Go.RowKit
namespace Tt
theorem QnG (w:World) (x:Cen):Calls Tryz.prog 47 #[.agg (cec x).toArray] w (fun e w'=>e = .returned (.agg (oc (Qbn x)).toArray)/\Own w no w' []):=by
 refine Qaj (n:=14) Tryz.func47 rfl Tryz.ntmps47 rfl ?_
 have hs:=Own.start w
 refine Qag (Qab (Qaa (QaR (V:=.agg (cec x).toArray) (cs:=cec x) rfl rfl hs fun b1 w2 hs=>(Qaa (QaK (cs:=oc (⟨(⟨0,0⟩:Dot),0,0,0,0,0,vzero⟩:Opn)) Qmf rfl hs fun b3 w4 hs=>(Qaf (Qag (Qab (Qaa (Qae QbO rfl (Qaa (QbL (vs:=dc x.dot) QcI hs 0 rfl rfl rfl rfl (Qaa (Qae QeU rfl (Qaa (QaF (V:=.int .u8 x.kind) QcJ hs 0 rfl rfl rfl (Qaa (Qae QdM rfl (Qaa (QaF (V:=I7 x.cart) Qar hs 0 rfl rfl rfl (Qaa (Qae QdK rfl (Qaa (QaF (V:=I7 x.item) Qar hs 0 rfl rfl rfl (Qaa (Qae Qe1 rfl (Qaa (QaF (V:=I7 x.qty) Qar hs 0 rfl rfl rfl (Qaa (Qcs (vs:=[(0,.agg (dc x.dot).toArray),(1,.int .u8 x.kind),(2,I7 x.cart),(3,I7 x.item),(4,I7 x.qty)]) (cs:=oc (⟨x.dot,x.kind,x.cart,x.item,x.qty,0,vzero⟩:Opn)) [dc (⟨0,0⟩:Dot),[(.int .u8 0:Value)],[(I7 0:Value)],[(I7 0:Value)],[(I7 0:Value)],[(.int .u32 0:Value)],vc vzero] [dc x.dot,[(.int .u8 x.kind:Value)],[(I7 x.cart:Value)],[(I7 x.item:Value)],[(I7 x.qty:Value)],[(.int .u32 0:Value)],vc vzero] Qqt rfl (rfl) rfl rfl (Qaa (Qcq (V:=.agg (oc (⟨x.dot,x.kind,x.cart,x.item,x.qty,0,vzero⟩:Opn)).toArray) (vs:=oc (⟨x.dot,x.kind,x.cart,x.item,x.qty,0,vzero⟩:Opn)) (cs':=oc (⟨x.dot,x.kind,x.cart,x.item,x.qty,0,vzero⟩:Opn)) QbZ.1 hs 1 rfl rfl rfl rfl rfl (QQ8 rfl) (Qep _) (Qay rfl) fun w5 hs=>(Qaf (Qaw ?_))))))))))))))))))))))))))))))))))
 refine ⟨_,QcB (cs:=oc (⟨x.dot,x.kind,x.cart,x.item,x.qty,0,vzero⟩:Opn)) Tryz.results47 QbZ hs 1 rfl rfl rfl,(Zr hs ?_)⟩
 rfl
theorem QoA (w:World) (x:Cen):Calls Tryz.prog 53 #[.agg (cec x).toArray] w (fun e w'=>e = .returned (.agg (oc (Qbn x)).toArray)/\Own w no w' []):=by
 refine Qaj (n:=14) Tryz.func53 rfl Tryz.ntmps53 rfl ?_
 have hs:=Own.start w
 refine Qag (Qab (Qaa (QaR (V:=.agg (cec x).toArray) (cs:=cec x) rfl rfl hs fun b1 w2 hs=>(Qaa (QaK (cs:=oc (⟨(⟨0,0⟩:Dot),0,0,0,0,0,vzero⟩:Opn)) Qmf rfl hs fun b3 w4 hs=>(Qaf (Qag (Qab (Qaa (Qae QbN rfl (Qaa (QbL (vs:=dc x.dot) QcI hs 0 rfl rfl rfl rfl (Qaa (Qae Qeh rfl (Qaa (QaF (V:=.int .u8 x.kind) QcJ hs 0 rfl rfl rfl (Qaa (Qae Qda rfl (Qaa (QaF (V:=I7 x.cart) Qar hs 0 rfl rfl rfl (Qaa (Qae QfJ rfl (Qaa (QaF (V:=I7 x.item) Qar hs 0 rfl rfl rfl (Qaa (Qae QeY rfl (Qaa (QaF (V:=I7 x.qty) Qar hs 0 rfl rfl rfl (Qaa (Qcs (vs:=[(0,.agg (dc x.dot).toArray),(1,.int .u8 x.kind),(2,I7 x.cart),(3,I7 x.item),(4,I7 x.qty)]) (cs:=oc (⟨x.dot,x.kind,x.cart,x.item,x.qty,0,vzero⟩:Opn)) [dc (⟨0,0⟩:Dot),[(.int .u8 0:Value)],[(I7 0:Value)],[(I7 0:Value)],[(I7 0:Value)],[(.int .u32 0:Value)],vc vzero] [dc x.dot,[(.int .u8 x.kind:Value)],[(I7 x.cart:Value)],[(I7 x.item:Value)],[(I7 x.qty:Value)],[(.int .u32 0:Value)],vc vzero] Qqt rfl (rfl) rfl rfl (Qaa (Qcq (V:=.agg (oc (⟨x.dot,x.kind,x.cart,x.item,x.qty,0,vzero⟩:Opn)).toArray) (vs:=oc (⟨x.dot,x.kind,x.cart,x.item,x.qty,0,vzero⟩:Opn)) (cs':=oc (⟨x.dot,x.kind,x.cart,x.item,x.qty,0,vzero⟩:Opn)) QbZ.1 hs 1 rfl rfl rfl rfl rfl (QQ8 rfl) (Qep _) (Qay rfl) fun w5 hs=>(Qaf (Qaw ?_))))))))))))))))))))))))))))))))))
 refine ⟨_,QcB (cs:=oc (⟨x.dot,x.kind,x.cart,x.item,x.qty,0,vzero⟩:Opn)) Tryz.results53 QbZ hs 1 rfl rfl rfl,(Zr hs ?_)⟩
 rfl
theorem order_ok (w:World) (x y:Cen):Calls Tryz.prog 49 #[.agg (cec x).toArray,.agg (cec y).toArray] w (fun e w'=>e = .returned (.int .i64 (QcF x y))/\Own w no w' []):=by
 refine Qaj (n:=26) Tryz.func49 rfl Tryz.ntmps49 rfl ?_
 have hs:=Own.start w
 refine Qag (Qab (Qaa (QaR (V:=.agg (cec x).toArray) (cs:=cec x) rfl rfl hs fun b1 w2 hs=>(Qaa (QaR (V:=.agg (cec y).toArray) (cs:=cec y) rfl rfl hs fun b3 w4 hs=>(Qaa (Qad (V:=I6 0) rfl (Qaf (Qag ?_)))))))))
 replace hs:=hs.more emp trivial
 refine QaJ HM [some 5,some 6,some 7,some 8,some 9,some 10,some 11,some 12,some 13,some 14,some 15,some 16,some 17,some 18,some 19,some 20,some 21,some 22,some 23,some 24,some 25,some 4] [[],[],[],[],[],[],[],[],[],[],[],[],[],[],[],[],[],[],[],[24]] [0,1,0,4,15,0,32,96,0,256,768,2047,0,4096,12288,0,32768,98304,262143,524287,1048575,2097151] [pv (Pq b1 (0+0)),pv (I7 x.cart),pv (Pq b3 (0+0)),pv (I7 y.cart),pv (I6 (Qa5 x.cart y.cart)),pv (Pq b1 (0+4)),pv (Pq b1 (0+4+0)),pv (.int .u8 x.dot.rep),pv (Pq b3 (0+4)),pv (Pq b3 (0+4+0)),pv (.int .u8 y.dot.rep),pv (I6 (Qa5 x.dot.rep y.dot.rep)),pv (Pq b1 (0+4)),pv (Pq b1 (0+4+1)),pv (.int .u32 x.dot.seq),pv (Pq b3 (0+4)),pv (Pq b3 (0+4+1)),pv (.int .u32 y.dot.seq),pv (I6 (Qa5 x.dot.seq y.dot.seq)),(true,fun J=>.slice (some ⟨(bOf (J 24)),0,none⟩) 3 3),pv (I6 (orI [Qa5 x.cart y.cart,Qa5 x.dot.rep y.dot.rep,Qa5 x.dot.seq y.dot.seq])),pv (I6 (orI [Qa5 x.cart y.cart,Qa5 x.dot.rep y.dot.rep,Qa5 x.dot.seq y.dot.seq]))] (fun D J=>[blk b1 (cec x) 106,blk b3 (cec y) 106,cond (D 19) (row (.slice (some ⟨(bOf (J 24)),0,none⟩) 3 3) ([Qa5 x.cart y.cart,Qa5 x.dot.rep y.dot.rep,Qa5 x.dot.seq y.dot.seq].map (ic .i64)) 3 1) (emp)]) [21] (by kernel_rfl) hs ⟨?_,?_,?_,?_,?_,?_,?_,?_,?_,?_,?_,?_,?_,?_,?_,?_,?_,?_,?_,?_,?_,?_,trivial⟩ ?_
 ·exact oa [] fun D J w hs=>Qae QdM rfl (Zz hs)
 ·exact oa [0] fun D J w hs=>QaF (V:=.int .u16 x.cart) Qar hs 0 rfl rfl rfl (Zz hs)
 ·exact oa [] fun D J w hs=>Qae QdM rfl (Zz hs)
 ·exact oa [2] fun D J w hs=>QaF (V:=.int .u16 y.cart) Qar hs 1 rfl rfl rfl (Zz hs)
 ·exact oa [1,3] fun D J w hs=>Qau (vs:=[.int .u16 x.cart,.int .u16 y.cart]) (V:=.int .i64 (Qa5 x.cart y.cart)) Qos rfl rfl (Qc0 _ x.cart y.cart) hs fun _ hs=>Zz hs
 ·exact oa [] fun D J w hs=>Qae QbO rfl (Zz hs)
 ·exact oa [5] fun D J w hs=>Qae QbH rfl (Zz hs)
 ·exact oa [6] fun D J w hs=>QaF (V:=.int .u8 x.dot.rep) QcJ hs 0 rfl rfl rfl (Zz hs)
 ·exact oa [] fun D J w hs=>Qae QbO rfl (Zz hs)
 ·exact oa [8] fun D J w hs=>Qae QbH rfl (Zz hs)
 ·exact oa [9] fun D J w hs=>QaF (V:=.int .u8 y.dot.rep) QcJ hs 1 rfl rfl rfl (Zz hs)
 ·exact oa [7,10] fun D J w hs=>Qau (vs:=[.int .u8 x.dot.rep,.int .u8 y.dot.rep]) (V:=.int .i64 (Qa5 x.dot.rep y.dot.rep)) Qqs rfl rfl (QdW _ x.dot.rep y.dot.rep) hs fun _ hs=>Zz hs
 ·exact oa [] fun D J w hs=>Qae QbO rfl (Zz hs)
 ·exact oa [12] fun D J w hs=>Qae QbR rfl (Zz hs)
 ·exact oa [13] fun D J w hs=>QaF (V:=.int .u32 x.dot.seq) Qa8 hs 0 rfl rfl rfl (Zz hs)
 ·exact oa [] fun D J w hs=>Qae QbO rfl (Zz hs)
 ·exact oa [15] fun D J w hs=>Qae QbR rfl (Zz hs)
 ·exact oa [16] fun D J w hs=>QaF (V:=.int .u32 y.dot.seq) Qa8 hs 1 rfl rfl rfl (Zz hs)
 ·exact oa [14,17] fun D J w hs=>Qau (vs:=[.int .u32 x.dot.seq,.int .u32 y.dot.seq]) (V:=.int .i64 (Qa5 x.dot.seq y.dot.seq)) QqO rfl rfl (QdG _ x.dot.seq y.dot.seq) hs fun _ hs=>Zz hs
 ·exact oa [4,11,18] fun D J w hs=>QeP (vals:=[.int .i64 (Qa5 x.cart y.cart),.int .i64 (Qa5 x.dot.rep y.dot.rep),.int .i64 (Qa5 x.dot.seq y.dot.seq)]) (ls:=List.map (ic .i64) ([Qa5 x.cart y.cart,Qa5 x.dot.rep y.dot.rep,Qa5 x.dot.seq y.dot.seq]:List Int)) Qlg rfl rfl rfl (Qbi (enc:=(ic .i64)) (fun _=>rfl) _) (QaL (QfA .i64) _) (QQ8 rfl) hs fun _ _ hs=>⟨rfl,hs.put 2 (QQ8 rfl)⟩
 ·exact oa [19] fun D J w hs=>Qau (vs:=[.slice (some ⟨(bOf (J 24)),0,none⟩) 3 3]) (V:=.int .i64 (orI [Qa5 x.cart y.cart,Qa5 x.dot.rep y.dot.rep,Qa5 x.dot.seq y.dot.seq])) QrQ rfl rfl (Qrj _ (some ⟨(bOf (J 24)),0,none⟩) 3 [Qa5 x.cart y.cart,Qa5 x.dot.rep y.dot.rep,Qa5 x.dot.seq y.dot.seq] (hs.rd 2 rfl)) hs fun _ hs=>Zz hs
 ·exact oa [20] fun D J w hs=>Qad (V:=.int .i64 (orI [Qa5 x.cart y.cart,Qa5 x.dot.rep y.dot.rep,Qa5 x.dot.seq y.dot.seq])) rfl (Zz hs)
 rintro J1 w10 J2 hJ hs
 replace hJ:J2=upd (mix (sq 5 21++[4]) J1 _) 4 (I6 (orI [Qa5 x.cart y.cart,Qa5 x.dot.rep y.dot.rep,Qa5 x.dot.seq y.dot.seq])):=hJ
 replace hs:Own w no w10 [blk b1 (cec x) 106,blk b3 (cec y) 106,row (.slice (some ⟨(bOf (J1 24)),0,none⟩) 3 3) ([Qa5 x.cart y.cart,Qa5 x.dot.rep y.dot.rep,Qa5 x.dot.seq y.dot.seq].map (ic .i64)) 3 1]:=hs
 generalize (bOf (J1 24))=b11 at hs
 subst hJ
 refine Qaw ?_
 refine ⟨_,Qaq (V:=I6 (orI [Qa5 x.cart y.cart,Qa5 x.dot.rep y.dot.rep,Qa5 x.dot.seq y.dot.seq])) Tryz.results49 rfl,(Zr hs ?_)⟩
 rfl
theorem Qkj (w:World) (b:Bool):Calls Tryz.prog 106 #[.bool b] w (fun e w'=>e = .returned (.int .u32 (Qe3 b))/\Own w no w' []):=by
 refine Qaj (n:=4) Tryz.func106 rfl Tryz.ntmps106 rfl ?_
 have hs:=Own.start w
 refine Qag (Qab (Qaa (Qad (V:=.int .u32 0) rfl (Qaf (Qag (Qag (Qab (Qaa (Qac (V:=.bool b) rfl (Qaf (Qan (t:=b) rfl (fun c1=>?_) (fun c1=>?_))))))))))))
 ·
  refine Qag (Qab (Qaa (Qad (V:=.int .u32 1) rfl (Qaf (Qaw ?_)))))
  refine ⟨_,Qaq (V:=.int .u32 1) Tryz.results106 rfl,(Zr hs ?_)⟩
  cases b<;>simp_all [Qe3]
 refine Qap (Qag (Qab (Qaa (Qad (V:=.int .u32 0) rfl (Qaf (Qaw ?_))))))
 refine ⟨_,Qaq (V:=.int .u32 0) Tryz.results106 rfl,(Zr hs ?_)⟩
 cases b<;>simp_all [Qe3]
end Tt
end Go.Proofs
namespace Go.Proofs
open Go Go.Vx Go.RowKit
namespace Tt
theorem Qpj (w:World) (a:Option Addr) (c:Nat) (l:List Opn) (g:Nat) (caps:List Value) (hg:En Tryz.prog g) (p:Opn->Bool) (hp:∀ (w1:World) (L1:List Res),Own w no w1 L1->∀ x∈l,Calls Tryz.prog g ([(.agg (oc x).toArray:Value)]++caps).toArray w1 (fun e w'=>e = .returned (.bool (p x))/\Own w1 no w' [])) (hr:Rd w (.slice a l.length c) 23 (l.map oc)):Calls Tryz.prog 89 #[.slice a l.length c,.func (.func g) #[] caps.toArray] w (fun e w'=>e = .returned (.int .i64 (QeC p l))/\Own w no w' []):=by
 refine Qaj (n:=19) Tryz.func89 rfl Tryz.ntmps89 rfl ?_
 have hs:=Own.start w
 have hn:=hr.sml
 refine Qag (Qab (Qaa (Qad (V:=I6 0) rfl (Qaf (Qag (Qag (Qab (Qaa (Qac (V:=.slice a l.length c) rfl (Qaa (QaX (n:=l.length) QdJ (Rd.own' hr hs) (by simp) rfl (Qaa (Qac (V:=I6 0) rfl (Qaf (Qam (QaA (fun J μ J' w'=>∃ (Jo:Env) (k:Nat),J'=upd (mix ([4,5]++sq 8 11) Jo J) 8 (I6 (k:Int))/\(k<=l.length)/\(∀ j:Nat,j<k->p (gd l j)=false)/\μ=l.length-k/\Own w no w' []) ?_ ?_))))))))))))))))
 ·exact ⟨_,_,0,Qai (Qao (ds:=([4,5]++sq 8 11)) (Agr.refl _ _)) rfl,(by omega),(fun j hj=>absurd hj (Nat.not_lt_zero j)),rfl,hs⟩
 rintro μ J' w1 ⟨Jo,k,rfl,hk,hno,rfl,hs⟩
 refine Qag (Qab (Qaa (QaS rfl rfl (Qaf (Qag (Qan (t:=decide ((k:Int)<((l.length:Nat):Int))) rfl (fun c2=>?_) (fun c2=>?_)))))))
 ·
  replace c2:=QQ1 c2
  refine Qap (Qag (Qam (Qag (Qab (Qaa (Qac (V:=I6 (k:Int)) rfl (Qaa (Qad (V:=I6 (k:Int)) rfl (Qaf (Qag (Qab (Qaa (Qac (V:=.func (.func g) #[] caps.toArray) rfl (Qaa (Qac (V:=.slice a l.length c) rfl (Qaa (Qac (V:=I6 (k:Int)) rfl (Qaa (Qax QdJ QbZ.1 (Rd.own' hr hs) rfl rfl (by omega) (by rw [QQ6];omega) (Qaa (QaV (j:=0) (vs:=oc (gd l k)) k QbZ (Rd.own' hr hs) (QaW (by omega)) rfl rfl rfl (by omega) (Qaa (Qf1 (vs:=[.agg (oc (gd l k)).toArray]) (cs:=caps) (V:=.bool (p (gd l k))) hg rfl rfl (hp _ _ hs (gd l k) (QbP (by omega))) hs fun w3 hs=>(Qaf (Qan (t:=p (gd l k)) rfl (fun c4=>?_) (fun c4=>?_))))))))))))))))))))))))))
  ·
   refine Qag (Qab (Qaa (Qac (V:=I6 (k:Int)) rfl (Qaa (Qad (V:=I6 (k:Int)) rfl (Qaf (Qaw ?_)))))))
   refine ⟨_,Qaq (V:=I6 (k:Int)) Tryz.results89 rfl,(Zr hs ?_)⟩
   exact congrArg (Value.int .i64) (Qi7 (by omega) hno c4).symm
  refine Qap (Qab (Qaa (QaD (a:=(k:Int)) (b:=1) (c:=(k:Int)+1) rfl rfl (QbK (by omega) (by omega)) (Qaa (Qac (V:=I6 ((k:Int)+1)) rfl (Qaf ?_))))))
  refine ⟨_,?_,_,k+1,Qai (Qao (ds:=([4,5]++sq 8 11)) (by repeat (first|exact Agr.refl _ _|refine Agr.upd ?_ rfl|refine Agr.mix ?_ rfl))) rfl,(by omega),(Qca hno c4),rfl,hs.take 0⟩
  omega
 replace c2:=QQ2 c2
 refine QaH (Qag (Qab (Qaa (Qad (V:=I6 (-1)) rfl (Qaf (Qaw ?_))))))
 refine ⟨_,Qaq (V:=I6 (-1)) Tryz.results89 rfl,(Zr hs ?_)⟩
 exact congrArg (Value.int .i64) (Qlo fun j hj=>hno j (by omega)).symm
theorem QnA (w:World) (a:Option Addr) (c:Nat) (l:List Opn) (g:Nat) (caps:List Value) (hg:En Tryz.prog g) (p:Opn->Bool) (hp:∀ (w1:World) (L1:List Res),Own w no w1 L1->∀ x∈l,Calls Tryz.prog g ([(.agg (oc x).toArray:Value)]++caps).toArray w1 (fun e w'=>e = .returned (.bool (p x))/\Own w1 no w' [])) (hr:Rd w (.slice a l.length c) 23 (l.map oc)):Calls Tryz.prog 44 #[.slice a l.length c,.func (.func g) #[] caps.toArray] w (fun e w'=>e = .returned (.bool (l.any p))/\Own w no w' []):=by
 refine Qaj (n:=9) Tryz.func44 rfl Tryz.ntmps44 rfl ?_
 have hs:=Own.start w
 have hn:=hr.sml
 refine Qag (Qab (Qaa (Qad (V:=.bool false) rfl (Qaf (Qag (Qab (Qaa (Qac (V:=.slice a l.length c) rfl (Qaa (Qac (V:=.func (.func g) #[] caps.toArray) rfl (Qaa (Qau (vs:=[.slice a l.length c,.func (.func g) #[] caps.toArray]) (V:=I6 (QeC p l)) Quq rfl rfl ?hc hs fun w1 hs=>?_))))))))))))
 case hc=>exact (Qpj _ a c l g caps hg p (fun w1 L1 h=>hp w1 _ (hs.call h)) (Rd.own' hr hs))
 refine Qaa (QcC rfl rfl (Qaa (Qad (V:=.bool (decide (0<=QeC p l))) rfl (Qaf (Qaw ?_)))))
 refine ⟨_,Qaq (V:=.bool (decide (0<=QeC p l))) Tryz.results44 rfl,(Zr hs ?_)⟩
 exact congrArg Value.bool Qrs
theorem QkK (w:World) (o:Opn) (x:Cen) (bx:Nat) (hx:Qc1 x.dot) (hc:Qch w bx (cec x)):Calls Tryz.prog 45 #[.agg (oc o).toArray,.pointer (some ⟨bx,0,none⟩)] w (fun e w'=>e = .returned (.bool (QaZ o (Qbn x)))/\Own w no w' []):=by
 refine Qaj (n:=8) Tryz.func45 rfl Tryz.ntmps45 rfl ?_
 have hs:=Own.start w
 refine Qag (Qab (Qaa (QaR (V:=.agg (oc o).toArray) (cs:=oc o) rfl rfl hs fun b1 w2 hs=>(Qaa (Qad (V:=.bool false) rfl (Qaf (Qag (QaJ HM [some 4,some 5,some 6,some 7,some 3] [] [0,0,2,7,15] [pv (.agg (oc o).toArray),pv (.agg (cec x).toArray),pv (.agg (oc (Qbn x)).toArray),pv (.bool (QaZ o (Qbn x))),pv (.bool (QaZ o (Qbn x)))] (fun _ _=>_) [4] (by kernel_rfl) hs ⟨?_,?_,?_,?_,?_,trivial⟩ ?_))))))))
 ·exact oa [] fun D J w hs=>QaI (cs:=oc o) QbZ hs 0 rfl rfl rfl (Zz hs)
 ·exact oa [] fun D J w hs=>Qp0 (vs:=cec x) QaG (hc.own' hs) rfl rfl rfl (Zz hs)
 ·exact oa [1] fun D J w hs=>Qau (vs:=[.agg (cec x).toArray]) (V:=.agg (oc (Qbn x)).toArray) Qu0 rfl rfl (QnG _ x) hs fun _ hs=>Zz hs
 ·exact oa [0,2] fun D J w hs=>Qau (vs:=[.agg (oc o).toArray,.agg (oc (Qbn x)).toArray]) (V:=.bool (QaZ o (Qbn x))) Qu6 rfl rfl (Qop _ o (Qbn x) hx) hs fun _ hs=>Zz hs
 ·exact oa [3] fun D J w hs=>Qad (V:=.bool (QaZ o (Qbn x))) rfl (Zz hs)
 rintro J1 w5 J2 hJ hs
 replace hJ:J2=upd (mix [4,5,6,7,3] J1 _) 3 (.bool (QaZ o (Qbn x))):=hJ
 subst hJ
 refine Qaw ?_
 refine ⟨_,Qaq (V:=.bool (QaZ o (Qbn x))) Tryz.results45 rfl,(Zr hs ?_)⟩
 rfl
theorem QmH (w:World) (x:Cen) (bx:Nat) (a:Option Addr) (c:Nat) (l:List Opn) (hx:Qc1 x.dot) (hc:Qch w bx [(.slice a l.length c:Value)]) (hr:Rd w (.slice a l.length c) 23 (l.map oc)):Calls Tryz.prog 43 #[.agg (cec x).toArray,.pointer (some ⟨bx,0,none⟩)] w (fun e w'=>e = .returned (.bool (l.any fun o=>QaZ o (Qbn x)))/\Own w no w' []):=by
 refine Qaj (n:=7) Tryz.func43 rfl Tryz.ntmps43 rfl ?_
 have hs:=Own.start w
 refine Qag (Qab (Qaa (QaR (V:=.agg (cec x).toArray) (cs:=cec x) rfl rfl hs fun b1 w2 hs=>(Qaa (Qad (V:=.bool false) rfl (Qaf (Qag (Qab (Qaa (QnS (V:=.slice a l.length c) Qfk (hc.own' hs) rfl rfl (Qaa (QdA (cs:=[Pq b1 0]) rfl rfl (Qaa (Qau (vs:=[.slice a l.length c,.func (.func 45) #[] #[Pq b1 0]]) (V:=.bool (l.any (fun o=>QaZ o (Qbn x)))) Qum rfl rfl ?hc hs fun w3 hs=>?_))))))))))))))
 case hc=>exact (QnA _ a c l 45 [.pointer (some ⟨b1,0,none⟩)] QuX (fun o=>QaZ o (Qbn x)) (fun w1 L1 h o _=>QkK w1 o x b1 hx ((hs.cellsf 0 rfl).own' h)) (Rd.own' hr hs))
 refine Qaa (Qad (V:=.bool (l.any (fun o=>QaZ o (Qbn x)))) rfl (Qaf (Qaw ?_)))
 refine ⟨_,Qaq (V:=.bool (l.any (fun o=>QaZ o (Qbn x)))) Tryz.results43 rfl,(Zr hs ?_)⟩
 rfl
end Tt
end Go.Proofs
namespace Go.Proofs
open Go Go.Vx Go.RowKit
namespace Tt
theorem Qlh (w:World) (f N:Nat) (caps:List Value) (hf:En Tryz.prog f) (hN:N*3<=140737488355328) (G:List Value->Prop) (hcall:Gives Tryz.prog f caps (okS (Value.int .u16) N) G w):Calls Tryz.prog 159 #[.slice none 0 0,.func (.func f) #[] caps.toArray] w (fun e w'=>∃ x:List Int × Option Addr × Nat,e = .returned (.slice x.2.1 x.1.length x.2.2)/\Own w no w' [row (.slice x.2.1 x.1.length x.2.2) (x.1.map (ic .u16)) 32 1]/\G (x.1.map (Value.int .u16))/\x.1.length<=N):=by
 refine Qi3 (n:=13) Tryz.func159 rfl Tryz.ntmps159 rfl ?_
 have hs:=Own.start w
 refine Qlf (Qab (Qaa (QaR (V:=.slice none 0 0) (cs:=[.slice none 0 0]) rfl rfl hs fun b1 w2 hs=>(Qaa (Qad (V:=.slice none 0 0) rfl (Qaf (Qrf (Qlf (Qab (Qaa (Qac (V:=.func (.func f) #[] caps.toArray) rfl (Qaf (Qpp ?_)))))))))))))
 replace hs:=hs.more (row (.slice none 0 0) (List.map (ic .u16) []) 32 1) (Qbo _ _ _ _)
 replace hs:=hs.join 0 1 (by decide) rfl rfl
 replace hs:=hs.conv 0 rfl (R':=QvR N b1 69 32 1 (ic .u16) (Value.int .u16) []) (fun S h=>⟨⟨([],none,0),rfl,Nat.zero_le _⟩,h⟩)
 refine QiA (caps:=caps) (ok:=okS (Value.int .u16) N) (G:=G) rfl rfl hf hs 0 (QvR N b1 69 32 1 (ic .u16) (Value.int .u16)) rfl ?_ hcall ?_
 ·rintro l fn dd pre x w2 S ⟨⟨d,rfl⟩,hpN⟩ hs
  refine Qab (Qaa (Qad (V:=I7 d) rfl (Qaf ?_)))
  refine ⟨[],hs,?_⟩
  intro w3 hs
  obtain ⟨⟨⟨l0,a0,c0⟩,hx,hxN⟩,hs⟩:=hs.unpack 0 rfl
  replace hs:=hs.split 0 rfl
  dsimp only at hx
  have hlen:=congrArg List.length hx
  rw [QQ6] at hlen
  refine Qam (Qab (Qaa (QaF (V:=.slice a0 l0.length c0) Qqv hs 0 rfl rfl rfl (Qaa (Qac (V:=I7 d) rfl (Qaa (QeP (vals:=[I7 d]) (ls:=List.map (ic .u16) ([d]:List Int)) QlK rfl rfl rfl (Qbi (enc:=(ic .u16)) (fun _=>rfl) _) (QaL (QfA .u16) _) (QQ8 rfl) hs fun b3 w4 hs=>(Qaa (QbY (ls':=(l0++[d]).map (ic .u16)) (n:=(l0++[d]).length) QlK hs 2 rfl rfl rfl (hs.rd 3 rfl) (QaL (QfA .u16) _) (by simp only [QQ6,QQ7,List.length_cons,List.length_nil];omega) (by simp) (by simp) fun a5 c5 w6 hs=>(Qaa (QcR (V:=.slice a5 ((l0++[d]).length) c5) (cs':=[.slice a5 ((l0++[d]).length) c5]) Qqv hs 0 rfl rfl rfl rfl (QQ8 rfl) rfl fun w7 hs=>(Qaf ?_))))))))))))
  replace hs:=hs.join 0 2 (by decide) rfl rfl
  replace hs:=hs.conv 0 rfl (R':=QvR N b1 69 32 1 (ic .u16) (Value.int .u16) (pre++[(Value.int .u16) d])) (fun S h=>⟨⟨(l0++[d],a5,c5),by rw [List.map_append,hx];rfl,by rw [QQ7];exact hpN⟩,h⟩)
  exact hs.take 2
 rintro xs dd w3 hG hs
 obtain ⟨⟨⟨l1,a1,c1⟩,hx,hxN⟩,hs⟩:=hs.unpack 0 rfl
 dsimp only at hx
 subst hx
 replace hs:=hs.split 0 rfl
 refine Qvz (Qag (Qab (Qaa (QaF (V:=.slice a1 l1.length c1) Qqv hs 0 rfl rfl rfl (Qaa (Qad (V:=.slice a1 l1.length c1) rfl (Qaf (Qaw (Qmx (V:=.slice a1 l1.length c1) hs 2 rfl (fun w=>Qaq (V:=.slice a1 l1.length c1) Tryz.results159 rfl) fun w hs=>?_)))))))))
 exact ⟨(l1,a1,c1),rfl,hs.only 3 rfl,hG,by simpa using hxN⟩
end Tt
end Go.Proofs
namespace Go.Proofs
open Go Go.Vx Go.RowKit
namespace Tt
theorem Qjs (w:World) (f N:Nat) (caps:List Value) (hf:En Tryz.prog f) (hN:N*3<=140737488355328) (G:List Value->Prop) (hcall:Gives Tryz.prog f caps (okS (Value.int .u16) N) G w):Calls Tryz.prog 133 #[.func (.func f) #[] caps.toArray] w (fun e w'=>∃ x:List Int × Option Addr × Nat,e = .returned (.slice x.2.1 x.1.length x.2.2)/\Own w no w' [row (.slice x.2.1 x.1.length x.2.2) (x.1.map (ic .u16)) 32 1]/\G (x.1.map (Value.int .u16))/\x.1.length<=N):=by
 refine Qaj (n:=5) Tryz.func133 rfl Tryz.ntmps133 rfl ?_
 have hs:=Own.start w
 refine Qag (Qab (Qaa (Qad (V:=.slice none 0 0) rfl (Qaf (Qag (Qab (Qaa (Qac (V:=.func (.func f) #[] caps.toArray) rfl (Qaa (Qbf (vs:=[.slice none 0 0,.func (.func f) #[] caps.toArray]) QsW rfl rfl (Qlh _ f N caps hf hN G hcall) hs fun x1 w2 hs hF3=>(Qaa (Qad (V:=.slice x1.2.1 x1.1.length x1.2.2) rfl (Qaf (Qaw ?_))))))))))))))
 refine ⟨_,Qaq (V:=.slice x1.2.1 x1.1.length x1.2.2) Tryz.results133 rfl,?_⟩
 exact ⟨(x1.1,x1.2.1,x1.2.2),rfl,hs.only 0 rfl,hF3⟩
theorem QkW (w:World) (f N:Nat) (caps:List Value) (hf:En Tryz.prog f) (hN:N*3<=140737488355328) (G:List Value->Prop) (hcall:Gives Tryz.prog f caps (okS (Value.int .u16) N) G w) (hsortU:QgX Tryz.prog 134 .u16 32):Calls Tryz.prog 84 #[.func (.func f) #[] caps.toArray] w (fun e w'=>∃ x:List Int × Option Addr × Nat,e = .returned (.slice x.2.1 x.1.length x.2.2)/\Own w no w' [row (.slice x.2.1 x.1.length x.2.2) (x.1.map (ic .u16)) 32 1]/\∃ m,G (m.map (Value.int .u16))/\x.1=Qbc m):=by
 refine Qaj (n:=9) Tryz.func84 rfl Tryz.ntmps84 rfl ?_
 have hs:=Own.start w
 refine Qag (Qab (Qaa (Qad (V:=.slice none 0 0) rfl (Qaf (Qag (Qab (Qaa (Qac (V:=.func (.func f) #[] caps.toArray) rfl (Qaa (Qbf (vs:=[.func (.func f) #[] caps.toArray]) Qtq rfl rfl (Qjs _ f N caps hf hN G hcall) hs fun x1 w2 hs hF3=>(Qaa (Qad (V:=.slice x1.2.1 x1.1.length x1.2.2) rfl (Qaf (Qag ?_))))))))))))))
 have hn:=hF3.2
 refine Qab (Qaa (Qac (V:=.slice x1.2.1 x1.1.length x1.2.2) rfl (Qaa (Qbu (vs:=[.slice x1.2.1 x1.1.length x1.2.2]) (V:=fun _:Unit=>.tuple #[]) (R:=row (.slice x1.2.1 x1.1.length x1.2.2) (x1.1.map (ic .u16)) 32 1) (R':=fun _=>row (.slice x1.2.1 x1.1.length x1.2.2) ((Qbc x1.1).map (ic .u16)) 32 1) (Lo:=fun _=>[]) (F:=fun _ _=>True) QtB rfl rfl hs 0 rfl (fun S hS hlt=>(hsortU _ S _ _ _ hS hlt (by omega)).mono fun e w' ⟨he,ho⟩=>⟨(),he,ho,trivial⟩) fun _ w4 hs _=>(Qaf (Qag (Qab (Qaa (Qac (V:=.slice x1.2.1 x1.1.length x1.2.2) rfl (Qaa (Qad (V:=.slice x1.2.1 x1.1.length x1.2.2) rfl (Qaf (Qaw ?_)))))))))))))
 refine ⟨_,Qaq (V:=.slice x1.2.1 x1.1.length x1.2.2) Tryz.results84 rfl,?_⟩
 have hl:x1.1.length=(Qbc x1.1).length:=(Qe6 _).symm
 refine ⟨(Qbc x1.1,x1.2.1,x1.2.2),by rw [hl],?_,⟨x1.1,hF3.1,rfl⟩⟩
 have ho:=hs.only 0 rfl
 rw [hl] at ho
 exact ho
end Tt
end Go.Proofs
namespace Go.Proofs
open Go Go.Vx Go.RowKit
namespace Tt
theorem Ql4 (w:World) (S:Nat->Prop) (bx r l:Nat) (lm:List (Int × Int)) (R:List Value->Res) (ok:List Value->Value->Prop) (hok:∀ (pre:List Int) (k:Int),pre.length<lm.length->k∈lm.map (·.1)->ok (pre.map (Value.int .u16)) ((Value.int .u16) k)) (hy:QiU Tryz.prog l R ok) (hR:(R []).holds w S) (hlt:∀ x,S x->x<w.heap.size) (hSb:¬S bx) (hSr:¬S r) (hc:Qch w bx [.map (some r)]) (hm:QiE w r (Value.int .u16) (Value.int .u32) lm):Calls Tryz.prog 148 #[.func (.yield l) #[] #[],.pointer (some ⟨bx,0,none⟩)] w (fun e w'=>∃ v xs,e = .returned v/\xs.Perm ((lm.map (·.1)).map (Value.int .u16))/\Own w S w' [R xs]):=by
 refine Qaj (n:=14) Tryz.func148 rfl Tryz.ntmps148 rfl ?_
 have hs:=Own.lent hR hlt
 obtain ⟨es,clock,hm0,hE⟩:=hm
 refine Qag (Qab (Qaa (QnS (V:=.map (some r)) QtF (Qch.own hc hs hSb) rfl rfl ?_)))
 have hat:=hs.at hm0 hSr
 refine Qaa (QqT Qh4 hat hs rfl fun it w1 hs=>(Qaf (Qam (QaA (fun J μ J' w'=>∃ (Jo:Env) (pre:List Int) (seen:Array Nat),J'=mix ([3]++sq 6 8) Jo J/\(((left es seen).map (·.key)++pre.map (Value.int .u16)).Perm ((lm.map (·.1)).map (Value.int .u16)))/\μ=(left es seen).length/\Own w S w' [R (pre.map (Value.int .u16)),QkM it r clock seen]) ?_ ?_))))
 ·exact ⟨_,_,[],#[],Qao (ds:=([3]++sq 6 8)) (Agr.refl _ _),(by rw [Qni,hE.keys];simp),rfl,hs⟩
 rintro μ J' w2 ⟨Jo,pre,seen,rfl,hp,rfl,hs⟩
 refine Qag (Qab (Qaa (QsJ (seen:=seen) (hs.at hm0 hSr) hE.old hs 1 rfl rfl (fun h0=>?_) (fun e3 ha w4 hs=>?_))))
 ·
  refine Qaa (Qaz (V:=.bool false) rfl rfl (Qaf (Qag (Qcw rfl ?_))))
  refine QaH ?_
  refine ⟨_,Qbr Tryz.results148,?_⟩
  rw [h0] at hp
  exact ⟨_,pre.map (Value.int .u16),rfl,hp,hs.only 0 rfl⟩
 obtain ⟨k,hk,hkey⟩:=Qn3 hE (QjJ ha)
 refine Qaa (Qaz (V:=.bool true) rfl rfl (Qaf (Qag (Qdm rfl ?_))))
 refine Qap (Qam (Qag (Qab (Qaa (QoL (V:=(Value.int .u16) k) (hs.at hm0 hSr) hE.inc (QjJ ha) hkey hs 1 rfl rfl (Qaa (Qaz (V:=I7 k) rfl rfl (Qaa (Qad (V:=I7 k) rfl (Qaf (Qag (Qab (Qaa (Qac (V:=.func (.yield l) #[] #[]) rfl (Qaa (Qac (V:=I7 k) rfl ?_))))))))))))))))
 have hst:=QlJ hE ha hkey hp
 refine Qaa (Qok (R:=R) (pre:=pre.map (Value.int .u16)) (v:=(Value.int .u16) k) hy rfl rfl (hok pre k hst.2.2 hk) hs 0 rfl fun w5 hs=>(Qaa (Qbx rfl (Qaf (Qcw rfl ?_)))))
 refine Qap ?_
 have e1:(pre++[k]).map (Value.int .u16)=pre.map (Value.int .u16)++[(Value.int .u16) k]:=by simp
 rw [← e1] at hs
 refine ⟨_,?_,_,pre++[k],seen.push e3.born,Qao (ds:=([3]++sq 6 8)) (by repeat (first|exact Agr.refl _ _|refine Agr.upd ?_ rfl|refine Agr.mix ?_ rfl)),hst.1,rfl,hs.take 2⟩
 exact hst.2.1
theorem Qoc (w:World) (r:Nat):Calls Tryz.prog 96 #[.map (some r)] w (fun e w'=>∃ x:Nat,e = .returned (.func (.func 148) #[] #[.pointer (some ⟨x,0,none⟩)])/\Own w no w' [blk x [.map (some r)] 100]/\True):=by
 refine Qaj (n:=4) Tryz.func96 rfl Tryz.ntmps96 rfl ?_
 have hs:=Own.start w
 refine Qag (Qab (Qaa (QaR (V:=.map (some r)) (cs:=[.map (some r)]) rfl rfl hs fun b1 w2 hs=>(Qaa (Qad (V:=.nilFunc) rfl (Qaf (Qag (Qab (Qaa (QdA (cs:=[Pq b1 0]) rfl rfl (Qaa (Qad (V:=.func (.func 148) #[] #[Pq b1 0]) rfl (Qaf (Qaw ?_))))))))))))))
 refine ⟨_,Qaq (V:=.func (.func 148) #[] #[Pq b1 0]) Tryz.results96 rfl,?_⟩
 exact ⟨b1,rfl,hs.only 0 rfl,trivial⟩
theorem QtJ {w:World} {bx r N:Nat} {lm:List (Int × Int)} (hc:Qch w bx [.map (some r)]) (hm:QiE w r (Value.int .u16) (Value.int .u32) lm) (hN:lm.length<=N) :
  Gives Tryz.prog 148 [.pointer (some ⟨bx,0,none⟩)] (okS (Value.int .u16) N) (fun xs=>xs.Perm ((lm.map (·.1)).map (Value.int .u16))) w:=by
 rintro l w1 R S ⟨L1,hs1⟩ hlt hS hR hy
 have hb:bx<w.heap.size:=World.block_lt_of_cell? _ _ (hc 0 _ rfl)
 have hr:r<w.heap.size:=by obtain ⟨es,clock,h,_⟩:=hm;exact (Array.getElem?_eq_some_iff.1 h).1
 exact Ql4 w1 S bx r l lm R (okS (Value.int .u16) N) (fun pre k hp _=>⟨⟨k,rfl⟩,by rw [QQ6];omega⟩) hy hR hlt (fun h=>hS _ h hb) (fun h=>hS _ h hr) (hc.own' hs1) (hm.own' hs1)
theorem Qnl (w:World) (r:Nat) (m:List (Int × Int)) (hm:QiE w r (Value.int .u16) (Value.int .u32) m) (hlm:m.length<=100000) (hsortU:QgX Tryz.prog 134 .u16 32):Calls Tryz.prog 50 #[.map (some r)] w (fun e w'=>∃ x:Option Addr × Nat,e = .returned (.slice x.1 (Qbc (m.map (·.1))).length x.2)/\Own w no w' [row (.slice x.1 (Qbc (m.map (·.1))).length x.2) ((Qbc (m.map (·.1))).map (ic .u16)) 32 1]/\True):=by
 refine Qaj (n:=6) Tryz.func50 rfl Tryz.ntmps50 rfl ?_
 have hs:=Own.start w
 refine Qag (Qab (Qaa (Qad (V:=.slice none 0 0) rfl (Qaf (Qag (Qab (Qaa (Qac (V:=.map (some r)) rfl (Qaa (Qbf (vs:=[.map (some r)]) (V:=fun x:Nat=>.func (.func 148) #[] #[Pq x 0]) QvK rfl rfl (Qoc _ r) hs fun x1 w2 hs _=>(Qaa (Qbf (vs:=[.func (.func 148) #[] #[Pq x1 0]]) (V:=fun x:Option Addr × Nat=>.slice x.1 (Qbc (m.map (·.1))).length x.2) (Lo:=fun x=>[row (.slice x.1 (Qbc (m.map (·.1))).length x.2) ((Qbc (m.map (·.1))).map (ic .u16)) 32 1]) (F:=fun _ _=>True) QvN rfl rfl ?hc hs fun x3 w4 hs hF5=>?_))))))))))))
 case hc=>exact ((QkW _ 148 1000000 [.pointer (some ⟨x1,0,none⟩)] Qtn (by decide) (fun xs=>xs.Perm ((m.map (·.1)).map (Value.int .u16))) (QtJ (hs.cellsf 0 rfl) (QiE.own hm hs (fun h=>h)) (by omega)) hsortU).mono fun e w' ⟨y,he,ho,m0,hm0,hy⟩=>by
   have hy2:y.1=Qbc (m.map (·.1)):=by rw [hy];exact Qlw hm0
   rw [hy2] at he ho
   exact ⟨(y.2.1,y.2.2),he,ho,trivial⟩)
 refine Qaa (Qad (V:=.slice x3.1 ((Qbc (m.map (·.1))).length) x3.2) rfl (Qaf (Qaw ?_)))
 refine ⟨_,Qaq (V:=.slice x3.1 ((Qbc (m.map (·.1))).length) x3.2) Tryz.results50 rfl,?_⟩
 exact ⟨(x3.1,x3.2),rfl,hs.only 1 rfl,trivial⟩
end Tt
end Go.Proofs
namespace Go.Proofs
open Go Go.Vx Go.RowKit
namespace Tt
theorem Qnc (w:World) (a:Option Addr) (c:Nat) (l:List Cen) (g:Nat) (caps:List Value) (hg:En Tryz.prog g) (p:Cen->Bool) (hp:∀ (w1:World) (L1:List Res),Own w no w1 L1->∀ x∈l,Calls Tryz.prog g ([(.agg (cec x).toArray:Value)]++caps).toArray w1 (fun e w'=>e = .returned (.bool (p x))/\Own w1 no w' [])) (hr:Rd w (.slice a l.length c) 7 (l.map cec)):Calls Tryz.prog 88 #[.slice a l.length c,.func (.func g) #[] caps.toArray] w (fun e w'=>e = .returned (.int .i64 (QeC p l))/\Own w no w' []):=by
 refine Qaj (n:=19) Tryz.func88 rfl Tryz.ntmps88 rfl ?_
 have hs:=Own.start w
 have hn:=hr.sml
 refine Qag (Qab (Qaa (Qad (V:=I6 0) rfl (Qaf (Qag (Qag (Qab (Qaa (Qac (V:=.slice a l.length c) rfl (Qaa (QaX (n:=l.length) QbI (Rd.own' hr hs) (by simp) rfl (Qaa (Qac (V:=I6 0) rfl (Qaf (Qam (QaA (fun J μ J' w'=>∃ (Jo:Env) (k:Nat),J'=upd (mix ([4,5]++sq 8 11) Jo J) 8 (I6 (k:Int))/\(k<=l.length)/\(∀ j:Nat,j<k->p (gd l j)=false)/\μ=l.length-k/\Own w no w' []) ?_ ?_))))))))))))))))
 ·exact ⟨_,_,0,Qai (Qao (ds:=([4,5]++sq 8 11)) (Agr.refl _ _)) rfl,(by omega),(fun j hj=>absurd hj (Nat.not_lt_zero j)),rfl,hs⟩
 rintro μ J' w1 ⟨Jo,k,rfl,hk,hno,rfl,hs⟩
 refine Qag (Qab (Qaa (QaS rfl rfl (Qaf (Qag (Qan (t:=decide ((k:Int)<((l.length:Nat):Int))) rfl (fun c2=>?_) (fun c2=>?_)))))))
 ·
  replace c2:=QQ1 c2
  refine Qap (Qag (Qam (Qag (Qab (Qaa (Qac (V:=I6 (k:Int)) rfl (Qaa (Qad (V:=I6 (k:Int)) rfl (Qaf (Qag (Qab (Qaa (Qac (V:=.func (.func g) #[] caps.toArray) rfl (Qaa (Qac (V:=.slice a l.length c) rfl (Qaa (Qac (V:=I6 (k:Int)) rfl (Qaa (Qax QbI QaG.1 (Rd.own' hr hs) rfl rfl (by omega) (by rw [QQ6];omega) (Qaa (QaV (j:=0) (vs:=cec (gd l k)) k QaG (Rd.own' hr hs) (QaW (by omega)) rfl rfl rfl (by omega) (Qaa (Qf1 (vs:=[.agg (cec (gd l k)).toArray]) (cs:=caps) (V:=.bool (p (gd l k))) hg rfl rfl (hp _ _ hs (gd l k) (QbP (by omega))) hs fun w3 hs=>(Qaf (Qan (t:=p (gd l k)) rfl (fun c4=>?_) (fun c4=>?_))))))))))))))))))))))))))
  ·
   refine Qag (Qab (Qaa (Qac (V:=I6 (k:Int)) rfl (Qaa (Qad (V:=I6 (k:Int)) rfl (Qaf (Qaw ?_)))))))
   refine ⟨_,Qaq (V:=I6 (k:Int)) Tryz.results88 rfl,(Zr hs ?_)⟩
   exact congrArg (Value.int .i64) (Qi7 (by omega) hno c4).symm
  refine Qap (Qab (Qaa (QaD (a:=(k:Int)) (b:=1) (c:=(k:Int)+1) rfl rfl (QbK (by omega) (by omega)) (Qaa (Qac (V:=I6 ((k:Int)+1)) rfl (Qaf ?_))))))
  refine ⟨_,?_,_,k+1,Qai (Qao (ds:=([4,5]++sq 8 11)) (by repeat (first|exact Agr.refl _ _|refine Agr.upd ?_ rfl|refine Agr.mix ?_ rfl))) rfl,(by omega),(Qca hno c4),rfl,hs.take 0⟩
  omega
 replace c2:=QQ2 c2
 refine QaH (Qag (Qab (Qaa (Qad (V:=I6 (-1)) rfl (Qaf (Qaw ?_))))))
 refine ⟨_,Qaq (V:=I6 (-1)) Tryz.results88 rfl,(Zr hs ?_)⟩
 exact congrArg (Value.int .i64) (Qlo fun j hj=>hno j (by omega)).symm
end Tt
end Go.Proofs
namespace Go.Proofs
open Go Go.Vx Go.RowKit
namespace Tt
theorem QmJ (w:World) (S:Nat->Prop) (a:Option Addr) (c:Nat) (l:List Cen) (g:Nat) (caps:List Value) (hg:En Tryz.prog g) (p:Cen->Bool) (hp:∀ (w1:World) (L1:List Res),Own w S w1 L1->∀ x∈l,Calls Tryz.prog g ([(.agg (cec x).toArray:Value)]++caps).toArray w1 (fun e w'=>e = .returned (.bool (p x))/\Own w1 no w' [])) (hR:(row (.slice a l.length c) (l.map cec) 106 7).holds w S) (hlt:∀ b,S b->b<w.heap.size):Calls Tryz.prog 42 #[.slice a l.length c,.func (.func g) #[] caps.toArray] w (fun e w'=>∃ x:Unit,e = .returned (.slice a (l.filter fun x=>!p x).length c)/\Own w S w' [row (.slice a (l.filter fun x=>!p x).length c) ((l.filter fun x=>!p x).map cec) 106 7]/\True):=by
 refine Qaj (n:=42) Tryz.func42 rfl Tryz.ntmps42 rfl ?_
 have hs:=Own.lent hR hlt
 have hn:=(hs.rd 0 rfl).sml
 have hlc:=(hs.rd 0 rfl).roomM
 refine Qag (Qab (Qaa (Qad (V:=.slice none 0 0) rfl (Qaf (Qag (Qab (Qaa (Qac (V:=.slice a l.length c) rfl (Qaa (Qac (V:=.func (.func g) #[] caps.toArray) rfl (Qaa (Qau (vs:=[.slice a l.length c,.func (.func g) #[] caps.toArray]) (V:=I6 (QeC p l)) Quo rfl rfl ?hc hs fun w1 hs=>?_))))))))))))
 case hc=>exact (Qnc _ a c l g caps hg p (fun w1 L1 h=>hp w1 _ (hs.call h)) (hs.rd 0 rfl))
 refine Qaa (Qad (V:=I6 (QeC p l)) rfl (Qaf (Qag (Qag ?_))))
 rcases QjQ (p:=p) (l:=l) with hk2|hk2
 ·
  obtain ⟨hf1,hfl⟩:=hk2
  refine Qab (Qaa (Qbk (V:=I6 (QeC p l)) (V':=I6 (-1)) (Qac (V:=I6 (QeC p l)) rfl ⟨rfl,rfl⟩) (congrArg (Value.int .i64) hf1) (Qaa (Qbk (V:=.bool (decide ((-1:Int) = -1))) (V':=.bool true) (QaT rfl rfl ⟨rfl,rfl⟩) (congrArg Value.bool (QQ3 rfl)) (Qaf (Qdm rfl ?_))))))
  refine Qag (Qab (Qaa (Qac (V:=.slice a l.length c) rfl (Qaa (Qad (V:=.slice a l.length c) rfl (Qaf (Qaw ?_)))))))
  refine ⟨_,Qaq (V:=.slice a l.length c) Tryz.results42 rfl,?_⟩
  rw [hfl]
  exact ⟨(),rfl,hs.take 1,trivial⟩
 obtain ⟨k0,hf1,hk0l,hpk,hft⟩:=hk2
 refine Qab (Qaa (Qbk (V:=I6 (QeC p l)) (V':=I6 (k0:Int)) (Qac (V:=I6 (QeC p l)) rfl ⟨rfl,rfl⟩) (congrArg (Value.int .i64) hf1) (Qaa (Qbk (V:=.bool (decide ((k0:Int) = -1))) (V':=.bool false) (QaT rfl rfl ⟨rfl,rfl⟩) (congrArg Value.bool (QQ4 (by omega))) (Qaf (Qcw rfl ?_))))))
 refine Qap (Qag (Qag (Qab (Qaa (Qbk (V:=I6 (QeC p l)) (V':=I6 (k0:Int)) (Qac (V:=I6 (QeC p l)) rfl ⟨rfl,rfl⟩) (congrArg (Value.int .i64) hf1) (Qaa (QaD (a:=(k0:Int)) (b:=1) (c:=((k0+1:Nat):Int)) rfl rfl (Qak (by omega) (by omega)) (Qaa (Qad (V:=I6 ((k0+1:Nat):Int)) rfl (Qaf (Qam (QaA (fun J μ J' w'=>∃ (Jo:Env) (i:Nat) (j:Nat) (m:List Cen),J'=upd (upd (mix ([5,6,7]++sq 16 20) Jo J) 5 (I6 (i:Int))) 6 (I6 (j:Int))/\(i<j)/\(j<=l.length)/\(Moved p l m i j)/\μ=l.length-j/\Own w S w' [row (.slice a l.length c) (m.map cec) 106 7]) ?_ ?_))))))))))))
 ·exact ⟨_,_,k0,k0+1,l,Qai (Qai (Qao (ds:=([5,6,7]++sq 16 20)) (Agr.refl _ _)) (congrArg (Value.int .i64) hf1)) rfl,(by omega),(by omega),(Qgo hk0l hpk hft),rfl,hs⟩
 rintro μ J' w2 ⟨Jo,i,j,m,rfl,hij,hj,hmv,rfl,hs⟩
 have hml:=hmv.1
 refine Qag (Qag (Qab (Qaa (Qac (V:=I6 (j:Int)) rfl (Qaa (Qac (V:=.slice a l.length c) rfl (Qaa (QaX (n:=l.length) QbI (hs.rd 0 rfl) (by simp [hmv.1]) rfl (Qaa (QaS rfl rfl (Qaf (Qan (t:=decide ((j:Int)<((l.length:Nat):Int))) rfl (fun c3=>?_) (fun c3=>?_)))))))))))))
 ·
  replace c3:=QQ1 c3
  refine Qap (Qag (Qam (Qag (Qab (Qaa (Qac (V:=.slice a l.length c) rfl (Qaa (Qac (V:=I6 (j:Int)) rfl (Qaa (Qax QbI QaG.1 (hs.rd 0 rfl) rfl rfl (by omega) (by rw [QQ6];omega) (Qaa (QaV (j:=0) (vs:=cec (gd m j)) j QaG (hs.rd 0 rfl) (QaW (by omega)) rfl rfl rfl (by omega) (Qaa (QaK (cs:=cec (⟨0,0,0,0,(⟨0,0⟩:Dot),0⟩:Cen)) Qf5 rfl hs fun b4 w5 hs=>(Qaa (Qcq (V:=.agg (cec (gd m j)).toArray) (vs:=cec (gd m j)) (cs':=cec (gd m j)) QaG.1 hs 1 rfl rfl rfl rfl rfl (QQ8 rfl) (Qa6 _) (Qay rfl) fun w6 hs=>(Qaf (Qag (Qab (Qaa (Qac (V:=.func (.func g) #[] caps.toArray) rfl (Qaa (QaI (cs:=cec (gd m j)) QaG hs 1 rfl rfl rfl (Qaa (Qf1 (vs:=[.agg (cec (gd m j)).toArray]) (cs:=caps) (V:=.bool (p (gd m j))) hg rfl rfl (hp _ _ hs (gd m j) (by rw [hmv.2.2 _ (Nat.le_refl _)];exact QbP (by omega))) hs fun w7 hs=>(Qaa (Qbx rfl (Qaf (Qan (t:=!(p (gd m j))) rfl (fun c8=>?_) (fun c8=>?_))))))))))))))))))))))))))))))
  ·
   replace c8:=Qbs c8
   refine Qag (Qab (Qaa (Qac (V:=.slice a l.length c) rfl (Qaa (Qac (V:=I6 (i:Int)) rfl (Qaa (QaI (cs:=cec (gd m j)) QaG hs 1 rfl rfl rfl (Qaa (Qax QbI QaG.1 (hs.rd 0 rfl) rfl rfl (by omega) (by rw [QQ6];omega) (Qaa (QhP (z:=gd m j) i QaG.1 hs 0 rfl rfl rfl (by first|omega|(simp only [List.length_set];omega)) rfl rfl rfl (Qa6 _) fun w9 hs=>?_)))))))))))
   replace hs:Own w S w9 [row (.slice a l.length c) ((m.set i (gd m j)).map cec) 106 7,blk b4 (cec (gd m j)) 106]:=hs
   refine Qaf (Qab (Qaa (Qac (V:=I6 (i:Int)) rfl (Qaa (QaD (a:=(i:Int)) (b:=1) (c:=((i+1:Nat):Int)) rfl rfl (Qak (by omega) (by omega)) (Qaa (Qad (V:=I6 ((i+1:Nat):Int)) rfl (Qaf (Qab (Qaa (Qac (V:=I6 (j:Int)) rfl (Qaa (QaD (a:=(j:Int)) (b:=1) (c:=((j+1:Nat):Int)) rfl rfl (Qak (by omega) (by omega)) (Qaa (Qad (V:=I6 ((j+1:Nat):Int)) rfl (Qaf ?_))))))))))))))))
   refine ⟨_,?_,_,i+1,j+1,m.set i (gd m j),Qai (Qai (Qao (ds:=([5,6,7]++sq 16 20)) (by repeat (first|exact Agr.refl _ _|refine Agr.upd ?_ rfl|refine Agr.mix ?_ rfl))) rfl) rfl,(by omega),(by omega),(Qhh hmv (by omega) (by omega) c8),rfl,hs.take 1⟩
   omega
  replace c8:=Qbd c8
  refine Qap (Qab (Qaa (Qac (V:=I6 (j:Int)) rfl (Qaa (QaD (a:=(j:Int)) (b:=1) (c:=((j+1:Nat):Int)) rfl rfl (Qak (by omega) (by omega)) (Qaa (Qad (V:=I6 ((j+1:Nat):Int)) rfl (Qaf ?_))))))))
  refine ⟨_,?_,_,i,j+1,m,Qai (Qai (Qao (ds:=([5,6,7]++sq 16 20)) (by repeat (first|exact Agr.refl _ _|refine Agr.upd ?_ rfl|refine Agr.mix ?_ rfl))) rfl) rfl,(by omega),(by omega),(Qg1 hmv (by omega) c8),rfl,hs.take 1⟩
  omega
 replace c3:=QQ2 c3
 refine QaH (Qag (Qab (Qaa (Qac (V:=.slice a l.length c) rfl (Qaa (Qac (V:=I6 (i:Int)) rfl (Qaa (QpM (l:=i) (h:=l.length) (m:=c) (n':=(m.drop i).length) Qh6 QaG.1 (hs.rd 0 rfl) rfl (.inr ⟨_,_,rfl,rfl⟩) (.inl ⟨rfl,rfl⟩) (.inl ⟨rfl,rfl⟩) (by omega) (by omega) (Nat.le_trans (show l.length<=m.length by omega) (Rd.roomM (hs.rd 0 rfl))) (Nat.le_refl _) (by simp only [List.length_take,List.length_drop]<;>omega) ?_))))))))
 refine Qaa (Qj6 QhV hs 0 rfl rfl (by rw [QQ6]<;>omega) (by simp only [QQ6,List.length_drop]<;>omega) (by intro v hv;have e:=Qms hv Qf5;subst e;exact (Qa6 _)) fun w10 hs=>(Qaf (Qag (Qab (Qaa (Qac (V:=.slice a l.length c) rfl (Qaa (Qac (V:=I6 (i:Int)) rfl (Qaa (QtQ (l:=0) (h:=i) (n':=i) Qh6 QaG.1 (by omega) rfl (.inl ⟨rfl,rfl⟩) (.inr ⟨_,_,rfl,rfl⟩) (by omega) (by omega) (by omega) (Qaa (Qad (V:=.slice (sla a 0 c 7) i (c-0)) rfl (Qaf (Qaw ?_))))))))))))))
 refine ⟨_,Qaq (V:=.slice (sla a 0 c 7) i (c-0)) Tryz.results42 rfl,?_⟩
 have he:=Qik hmv (by omega)
 have hil:i=(l.filter fun x=>!p x).length:=by rw [← he,List.length_take,hmv.1];omega
 replace hs:=hs.take 1
 simp only [List.set_cons_zero,List.take_succ_cons,List.take_zero,← List.map_take,he] at hs
 rw [← hil]
 refine ⟨(),?_,hs,trivial⟩
 rw [QjH,Nat.sub_zero]
end Tt
end Go.Proofs
