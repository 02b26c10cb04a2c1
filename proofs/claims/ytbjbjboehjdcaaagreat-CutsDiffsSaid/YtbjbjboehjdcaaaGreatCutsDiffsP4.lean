/- A part of a proof: what functions of the program compute, and plain facts on that. -/
import Derived.Test.YtbjbjboehjdcaaaGreatCutsDiffsP3
set_option linter.unusedVariables false
set_option linter.unusedSimpArgs false
set_option maxHeartbeats 4000000
set_option maxRecDepth 100000
namespace Go.Proofs
open Go Go.Vx Go.RowKit
namespace Tt
theorem QjP (w:World) (x y:Cen):Calls Tryz.prog 98 #[.agg (cec x).toArray,.agg (cec y).toArray] w (fun e w'=>e = .returned (.bool (Qbl x y))/\Own w no w' []):=by
 refine Qaj (n:=36) Tryz.func98 rfl Tryz.ntmps98 rfl ?_
 have hs:=Own.start w
 refine Qag (Qab (Qaa (QaN (V:=.agg (cec x).toArray) (cs:=cec x) rfl rfl hs fun b1 w2 hs=>(Qaa (QaN (V:=.agg (cec y).toArray) (cs:=cec y) rfl rfl hs fun b3 w4 hs=>(Qaa (Qad (V:=.bool false) rfl (Qaf (Qag (Qag (Qab (Qaa (Qae Qdj rfl (Qaa (QaE (V:=I7 x.cart) Qar hs 0 rfl rfl rfl (Qaa (Qae Qdj rfl (Qaa (QaE (V:=I7 y.cart) Qar hs 1 rfl rfl rfl (Qaa (Qch rfl rfl (Qaf (Qan (t:=!decide (x.cart=y.cart)) rfl (fun c5=>?_) (fun c5=>?_))))))))))))))))))))))))
 ·
  replace c5:=Qbn c5
  replace c5:=QQ2 c5
  refine Qag (Qab (Qaa (Qae Qdj rfl (Qaa (QaE (V:=I7 x.cart) Qar hs 0 rfl rfl rfl (Qaa (Qae Qdj rfl (Qaa (QaE (V:=I7 y.cart) Qar hs 1 rfl rfl rfl (Qaa (QaQ rfl rfl (Qaa (Qad (V:=.bool (decide (x.cart<y.cart))) rfl (Qaf (Qau ?_)))))))))))))))
  refine ⟨_,Qaq (V:=.bool (decide (x.cart<y.cart))) Tryz.results98 rfl,(Zr hs ?_)⟩
  unfold Qbl;rw [if_neg c5]
 replace c5:=Qbf c5
 replace c5:=QQ1 c5
 refine Qap (Qag (Qag (Qab (Qaa (Qae QbP rfl (Qaa (Qae QbI rfl (Qaa (QaE (V:=.int .u8 x.dot.rep) QcN hs 0 rfl rfl rfl (Qaa (Qae QbP rfl (Qaa (Qae QbI rfl (Qaa (QaE (V:=.int .u8 y.dot.rep) QcN hs 1 rfl rfl rfl (Qaa (Qch rfl rfl (Qaf (Qan (t:=!decide (x.dot.rep=y.dot.rep)) rfl (fun c6=>?_) (fun c6=>?_))))))))))))))))))))
 ·
  replace c6:=Qbn c6
  replace c6:=QQ2 c6
  refine Qag (Qab (Qaa (Qae QbP rfl (Qaa (Qae QbI rfl (Qaa (QaE (V:=.int .u8 x.dot.rep) QcN hs 0 rfl rfl rfl (Qaa (Qae QbP rfl (Qaa (Qae QbI rfl (Qaa (QaE (V:=.int .u8 y.dot.rep) QcN hs 1 rfl rfl rfl (Qaa (QaQ rfl rfl (Qaa (Qad (V:=.bool (decide (x.dot.rep<y.dot.rep))) rfl (Qaf (Qau ?_)))))))))))))))))))
  refine ⟨_,Qaq (V:=.bool (decide (x.dot.rep<y.dot.rep))) Tryz.results98 rfl,(Zr hs ?_)⟩
  unfold Qbl;rw [if_pos c5,if_neg c6]
 replace c6:=Qbf c6
 replace c6:=QQ1 c6
 refine Qap (Qag (Qab (Qaa (Qae QbP rfl (Qaa (Qae QbQ rfl (Qaa (QaE (V:=.int .u32 x.dot.seq) Qa6 hs 0 rfl rfl rfl (Qaa (Qae QbP rfl (Qaa (Qae QbQ rfl (Qaa (QaE (V:=.int .u32 y.dot.seq) Qa6 hs 1 rfl rfl rfl (Qaa (QaQ rfl rfl (Qaa (Qad (V:=.bool (decide (x.dot.seq<y.dot.seq))) rfl (Qaf (Qau ?_))))))))))))))))))))
 refine ⟨_,Qaq (V:=.bool (decide (x.dot.seq<y.dot.seq))) Tryz.results98 rfl,(Zr hs ?_)⟩
 unfold Qbl;rw [if_pos c5,if_pos c6]
theorem Qj7 (w:World) (s:Sta) (a1:Option Addr) (c1:Nat) (a2:Option Addr) (c2:Nat) (c:Int) (hr1:Rd w (.slice a1 s.ents.length c1) 7 (s.ents.map cec)) (hr2:Rd w (.slice a2 s.ticks.length c2) 2 (s.ticks.map lsc)):Calls Tryz.prog 101 #[.agg ((vc s.known)++[(.slice a1 s.ents.length c1:Value),(.slice a2 s.ticks.length c2:Value) ]).toArray,.int .u16 c] w (fun e w'=>e = .returned (.tuple #[.int .u32 ((QaC s.ticks c).getD 0),.bool (QaC s.ticks c).isSome])/\Own w no w' []):=by
 refine Qaj (n:=28) Tryz.func101 rfl Tryz.ntmps101 rfl ?_
 have hs:=Own.start w
 have hn2:=hr2.sml
 refine Qag (Qab (Qaa (QaN (V:=.agg ((vc s.known)++[(.slice a1 s.ents.length c1:Value),(.slice a2 s.ticks.length c2:Value) ]).toArray) (cs:=(vc s.known)++[(.slice a1 s.ents.length c1:Value),(.slice a2 s.ticks.length c2:Value) ]) rfl rfl hs fun b1 w2 hs=>(Qaa (Qad (V:=.int .u32 0) rfl (Qaa (Qad (V:=.bool false) rfl (Qaf (Qag (Qag (Qab (Qaa (Qad (V:=I6 0) rfl (Qaf (Qam (QaA (fun J μ J' w'=>∃ (Jo:Env) (k:Nat),J'=upd (mix (sq 4 24) Jo J) 6 (I6 (k:Int))/\(k<=s.ticks.length)/\(∀ j:Nat,j<k->decide ((gd s.ticks j).cart=c)=false)/\μ=s.ticks.length-k/\Own w no w' [blk b1 ((vc s.known)++[(.slice a1 s.ents.length c1:Value),(.slice a2 s.ticks.length c2:Value) ]) 28]) ?_ ?_))))))))))))))))
 ·exact ⟨_,_,0,Qai (Qao (ds:=(sq 4 24)) (Agr.refl _ _)) rfl,(by omega),(fun j hj=>absurd hj (Nat.not_lt_zero j)),rfl,hs⟩
 rintro μ J' w3 ⟨Jo,k,rfl,hk,hno,rfl,hs⟩
 refine Qag (Qag (Qab (Qaa (Qac (V:=I6 (k:Int)) rfl (Qaa (Qae QcW rfl (Qaa (QaE (V:=.slice a2 s.ticks.length c2) QfK hs 0 rfl rfl rfl (Qaa (Qa2 (n:=s.ticks.length) Qe6 (Rd.own' hr2 hs) (by simp) rfl (Qaa (QaQ rfl rfl (Qaf (Qan (t:=decide ((k:Int)<((s.ticks.length:Nat):Int))) rfl (fun c4=>?_) (fun c4=>?_)))))))))))))))
 ·
  replace c4:=QQ1 c4
  refine Qap (Qag (Qam (Qag (Qab (Qaa (Qae QcW rfl (Qaa (QaE (V:=.slice a2 s.ticks.length c2) QfK hs 0 rfl rfl rfl (Qaa (Qac (V:=I6 (k:Int)) rfl (Qaa (Qaw Qe6 QcZ.1 (Rd.own' hr2 hs) rfl rfl (by omega) (by rw [QQ6];omega) (Qaa (Qae Qej rfl (Qaa (QaR (j:=0) (V:=I7 ((gd s.ticks k).cart)) k Qar (Rd.own' hr2 hs) (QaT (by omega)) rfl rfl (by omega) (Qaa (Qac (V:=I7 c) rfl (Qaa (QaS rfl rfl (Qaf (Qan (t:=decide ((gd s.ticks k).cart=c)) rfl (fun c5=>?_) (fun c5=>?_)))))))))))))))))))))))
  ·
   replace c5:=QQ1 c5
   refine Qag (Qab (Qaa (Qae QcW rfl (Qaa (QaE (V:=.slice a2 s.ticks.length c2) QfK hs 0 rfl rfl rfl (Qaa (Qac (V:=I6 (k:Int)) rfl (Qaa (Qaw Qe6 QcZ.1 (Rd.own' hr2 hs) rfl rfl (by omega) (by rw [QQ6];omega) (Qaa (Qae QfV rfl (Qaa (QaR (j:=1) (V:=.int .u32 ((gd s.ticks k).tick)) k Qa6 (Rd.own' hr2 hs) (QaT (by omega)) rfl rfl (by omega) (Qaa (Qad (V:=.int .u32 ((gd s.ticks k).tick)) rfl (Qaa (Qad (V:=.bool true) rfl (Qaf (Qau ?_)))))))))))))))))))
   refine ⟨_,Qbs (U:=.int .u32 ((gd s.ticks k).tick)) (V:=.bool true) Tryz.results101 rfl rfl,(Zr hs ?_)⟩
   have hX:=QoF (by omega) hno c5
   rw [hX];rfl
  replace c5:=QQ2 c5
  refine Qap (Qab (Qaa (Qac (V:=I6 (k:Int)) rfl (Qaa (QaD (a:=(k:Int)) (b:=1) (c:=((k+1:Nat):Int)) rfl rfl (Qak (by omega) (by omega)) (Qaa (Qad (V:=I6 ((k+1:Nat):Int)) rfl (Qaf ?_))))))))
  refine ⟨_,?_,_,k+1,Qai (Qao (ds:=(sq 4 24)) (by repeat (first|exact Agr.refl _ _|refine Agr.upd ?_ rfl|refine Agr.mix ?_ rfl))) rfl,(by omega),(Qb8 hno (QQ4 c5)),rfl,hs.take 1⟩
  omega
 replace c4:=QQ2 c4
 refine QaF (Qag (Qab (Qaa (Qad (V:=.int .u32 0) rfl (Qaa (Qad (V:=.bool false) rfl (Qaf (Qau ?_))))))))
 refine ⟨_,Qbs (U:=.int .u32 0) (V:=.bool false) Tryz.results101 rfl rfl,(Zr hs ?_)⟩
 have hX:=QkS (ts:=s.ticks) (c:=c) fun j hj=>hno j (by omega)
 rw [hX];rfl
theorem QmG (w:World) (s:Sta) (a1:Option Addr) (c1:Nat) (a2:Option Addr) (c2:Nat) (x:Cen) (hx:Qfb x) (hr1:Rd w (.slice a1 s.ents.length c1) 7 (s.ents.map cec)) (hr2:Rd w (.slice a2 s.ticks.length c2) 2 (s.ticks.map lsc)):Calls Tryz.prog 149 #[.agg ((vc s.known)++[(.slice a1 s.ents.length c1:Value),(.slice a2 s.ticks.length c2:Value) ]).toArray,.agg (cec x).toArray] w (fun e w'=>e = .returned (.bool (Qdu s x))/\Own w no w' []):=by
 refine Qaj (n:=36) Tryz.func149 rfl Tryz.ntmps149 rfl ?_
 have hs:=Own.start w
 have hdx:=hx.2.2.2.2.1
 refine Qag (Qab (Qaa (QaN (V:=.agg ((vc s.known)++[(.slice a1 s.ents.length c1:Value),(.slice a2 s.ticks.length c2:Value) ]).toArray) (cs:=(vc s.known)++[(.slice a1 s.ents.length c1:Value),(.slice a2 s.ticks.length c2:Value) ]) rfl rfl hs fun b1 w2 hs=>(Qaa (QaN (V:=.agg (cec x).toArray) (cs:=cec x) rfl rfl hs fun b3 w4 hs=>(Qaa (Qad (V:=.bool false) rfl (Qaf (Qag (Qab (Qaa (QaG (cs:=(vc s.known)++[(.slice a1 s.ents.length c1:Value),(.slice a2 s.ticks.length c2:Value) ]) Qd9 hs 0 rfl rfl rfl (Qaa (Qae Qdj rfl (Qaa (QaE (V:=I7 x.cart) Qar hs 1 rfl rfl rfl (Qaa (Qat (vs:=[.agg ((vc s.known)++[(.slice a1 s.ents.length c1:Value),(.slice a2 s.ticks.length c2:Value) ]).toArray,I7 x.cart]) (V:=.tuple #[.int .u32 ((QaC s.ticks x.cart).getD 0),.bool ((QaC s.ticks x.cart).isSome)]) Qp3 rfl rfl ?hc hs fun w5 hs=>?_))))))))))))))))))
 case hc=>exact (Qj7 _ s a1 c1 a2 c2 x.cart (Rd.own' hr1 hs) (Rd.own' hr2 hs))
 refine Qaa (Qac (V:=.tuple #[.int .u32 ((QaC s.ticks x.cart).getD 0),.bool ((QaC s.ticks x.cart).isSome)]) rfl (Qaa (Qax (V:=.int .u32 ((QaC s.ticks x.cart).getD 0)) rfl rfl (Qaa (Qax (V:=.bool ((QaC s.ticks x.cart).isSome)) rfl rfl (Qaa (Qad (V:=.int .u32 ((QaC s.ticks x.cart).getD 0)) rfl (Qaa (Qad (V:=.bool ((QaC s.ticks x.cart).isSome)) rfl (Qaf (Qag (Qbj [some 14,some 15,some 16,some 17,some 18,some 19,some 20,some 21,some 22,some 23,some 24,some 25,some 26,some 27,some 28,some 29,some 30,some 31,some 32,some 33,some 34,some 35,some 4] [] [0,1,3,7,15,31,63,127,63,319,1023,2047,4095,8191,16383,32767,65535,131071,262143,524287,1048575,2097151,4194303] [pv (.bool ((QaC s.ticks x.cart).isSome)),pv (.bool ((QaC s.ticks x.cart).isSome)),pg (((QaC s.ticks x.cart).isSome) == true) (.agg (cec x).toArray),pg (((QaC s.ticks x.cart).isSome) == true) (.bool (QaU x)),pv (.bool (((QaC s.ticks x.cart).isSome)&&(QaU x))),pv (.bool (((QaC s.ticks x.cart).isSome)&&(QaU x))),pg ((((QaC s.ticks x.cart).isSome)&&(QaU x)) == true) (Pq b1 (0+0)),pg ((((QaC s.ticks x.cart).isSome)&&(QaU x)) == true) (.agg (vc s.known).toArray),pg ((((QaC s.ticks x.cart).isSome)&&(QaU x)) == true) (Pq b3 (0+4)),pg ((((QaC s.ticks x.cart).isSome)&&(QaU x)) == true) (.agg (dc x.dot).toArray),pg ((((QaC s.ticks x.cart).isSome)&&(QaU x)) == true) (.bool (QbB s.known x.dot)),pv (.bool ((((QaC s.ticks x.cart).isSome)&&(QaU x))&&(QbB s.known x.dot))),pv (.bool ((((QaC s.ticks x.cart).isSome)&&(QaU x))&&(QbB s.known x.dot))),pg (((((QaC s.ticks x.cart).isSome)&&(QaU x))&&(QbB s.known x.dot)) == true) (Pq b3 (0+6)),pg (((((QaC s.ticks x.cart).isSome)&&(QaU x))&&(QbB s.known x.dot)) == true) (.int .u64 x.count),pg (((((QaC s.ticks x.cart).isSome)&&(QaU x))&&(QbB s.known x.dot)) == true) (.bool (decide (1<=x.count))),pv (.bool (((((QaC s.ticks x.cart).isSome)&&(QaU x))&&(QbB s.known x.dot))&&(decide (1<=x.count)))),pv (.bool (((((QaC s.ticks x.cart).isSome)&&(QaU x))&&(QbB s.known x.dot))&&(decide (1<=x.count)))),pg ((((((QaC s.ticks x.cart).isSome)&&(QaU x))&&(QbB s.known x.dot))&&(decide (1<=x.count))) == true) (Pq b3 (0+6)),pg ((((((QaC s.ticks x.cart).isSome)&&(QaU x))&&(QbB s.known x.dot))&&(decide (1<=x.count))) == true) (.int .u64 x.count),pg ((((((QaC s.ticks x.cart).isSome)&&(QaU x))&&(QbB s.known x.dot))&&(decide (1<=x.count))) == true) (.bool (decide (x.count<=16777217))),pv (.bool ((((((QaC s.ticks x.cart).isSome)&&(QaU x))&&(QbB s.known x.dot))&&(decide (1<=x.count)))&&(decide (x.count<=16777217)))),pv (.bool ((((((QaC s.ticks x.cart).isSome)&&(QaU x))&&(QbB s.known x.dot))&&(decide (1<=x.count)))&&(decide (x.count<=16777217))))] (fun _ _=>_) [22] (by kernel_rfl) hs ⟨?_,?_,?_,?_,?_,?_,?_,?_,?_,?_,?_,?_,?_,?_,?_,?_,?_,?_,?_,?_,?_,?_,?_,trivial⟩ ?_))))))))))))
 ·exact oa [] fun D J w hs=>Qac (V:=.bool ((QaC s.ticks x.cart).isSome)) rfl (Zz hs)
 ·exact oa [0] fun D J w hs=>Qac (V:=.bool ((QaC s.ticks x.cart).isSome)) rfl (Zz hs)
 ·exact og [1] fun D J w hG hs=>QaG (cs:=cec x) Qbu hs 1 rfl rfl rfl (Zz hs)
 ·exact oy [1,2] [2] fun D J w hG hs=>Qat (vs:=[.agg (cec x).toArray]) (V:=.bool (QaU x)) QtA rfl rfl (Qk3 _ x hx) hs fun _ hs=>Zz hs
 ·exact oa [1,3] fun D J w hs=>Qa4 (h':=QaU x) rfl rfl rfl (Zz hs)
 ·exact oa [4] fun D J w hs=>Qac (V:=.bool (((QaC s.ticks x.cart).isSome)&&(QaU x))) rfl (Zz hs)
 ·exact og [5] fun D J w hG hs=>Qae QgG rfl (Zz hs)
 ·exact oy [5,6] [6] fun D J w hG hs=>Qb0 (vs:=vc s.known) QbA hs 0 rfl rfl rfl rfl (Zz hs)
 ·exact og [5] fun D J w hG hs=>Qae QbP rfl (Zz hs)
 ·exact oy [5,8] [8] fun D J w hG hs=>Qb0 (vs:=dc x.dot) QcR hs 1 rfl rfl rfl rfl (Zz hs)
 ·exact oy [5,7,9] [7,9] fun D J w hG hs=>Qat (vs:=[.agg (vc s.known).toArray,.agg (dc x.dot).toArray]) (V:=.bool (QbB s.known x.dot)) QoA rfl rfl (QhY _ s.known x.dot (by first|assumption|exact Qdl (by omega) (by omega) (by omega) (by omega))) hs fun _ hs=>Zz hs
 ·exact oa [5,10] fun D J w hs=>Qa4 (h':=QbB s.known x.dot) rfl rfl rfl (Zz hs)
 ·exact oa [11] fun D J w hs=>Qac (V:=.bool ((((QaC s.ticks x.cart).isSome)&&(QaU x))&&(QbB s.known x.dot))) rfl (Zz hs)
 ·exact og [12] fun D J w hG hs=>Qae Qee rfl (Zz hs)
 ·exact oy [12,13] [13] fun D J w hG hs=>QaE (V:=.int .u64 x.count) QeA hs 1 rfl rfl rfl (Zz hs)
 ·exact oy [12,14] [14] fun D J w hG hs=>Qcz rfl rfl (Zz hs)
 ·exact oa [12,15] fun D J w hs=>Qa4 (h':=decide (1<=x.count)) rfl rfl rfl (Zz hs)
 ·exact oa [16] fun D J w hs=>Qac (V:=.bool (((((QaC s.ticks x.cart).isSome)&&(QaU x))&&(QbB s.known x.dot))&&(decide (1<=x.count)))) rfl (Zz hs)
 ·exact og [17] fun D J w hG hs=>Qae Qee rfl (Zz hs)
 ·exact oy [17,18] [18] fun D J w hG hs=>QaE (V:=.int .u64 x.count) QeA hs 1 rfl rfl rfl (Zz hs)
 ·exact oy [17,19] [19] fun D J w hG hs=>Qdn rfl rfl (Zz hs)
 ·exact oa [17,20] fun D J w hs=>Qa4 (h':=decide (x.count<=16777217)) rfl rfl rfl (Zz hs)
 ·exact oa [21] fun D J w hs=>Qad (V:=.bool ((((((QaC s.ticks x.cart).isSome)&&(QaU x))&&(QbB s.known x.dot))&&(decide (1<=x.count)))&&(decide (x.count<=16777217)))) rfl (Zz hs)
 rintro J1 w8 J2 hJ hs
 replace hJ:J2=upd (mix (sq 14 22++[4]) J1 _) 4 (.bool ((((((QaC s.ticks x.cart).isSome)&&(QaU x))&&(QbB s.known x.dot))&&(decide (1<=x.count)))&&(decide (x.count<=16777217)))):=hJ
 subst hJ
 refine Qau ?_
 refine ⟨_,Qaq (V:=.bool ((((((QaC s.ticks x.cart).isSome)&&(QaU x))&&(QbB s.known x.dot))&&(decide (1<=x.count)))&&(decide (x.count<=16777217)))) Tryz.results149 rfl,(Zr hs ?_)⟩
 rfl
theorem Qg8 (w:World) (s:Sta) (a1:Option Addr) (c1:Nat) (a2:Option Addr) (c2:Nat) (hok:Qdz s) (hr1:Rd w (.slice a1 s.ents.length c1) 7 (s.ents.map cec)) (hr2:Rd w (.slice a2 s.ticks.length c2) 2 (s.ticks.map lsc)):Calls Tryz.prog 100 #[.agg ((vc s.known)++[(.slice a1 s.ents.length c1:Value),(.slice a2 s.ticks.length c2:Value) ]).toArray] w (fun e w'=>e = .returned (.bool (Qas s))/\Own w no w' []):=by
 refine Qaj (n:=95) Tryz.func100 rfl Tryz.ntmps100 rfl ?_
 have hs:=Own.start w
 have ⟨hv0,hE0,hT0⟩:=hok
 have hn1:=hr1.sml
 have hn2:=hr2.sml
 refine Qag (Qab (Qaa (QaN (V:=.agg ((vc s.known)++[(.slice a1 s.ents.length c1:Value),(.slice a2 s.ticks.length c2:Value) ]).toArray) (cs:=(vc s.known)++[(.slice a1 s.ents.length c1:Value),(.slice a2 s.ticks.length c2:Value) ]) rfl rfl hs fun b1 w2 hs=>(Qaa (Qad (V:=.bool false) rfl (Qaf (Qag (Qag (Qab (Qaa (Qad (V:=I6 0) rfl (Qaf (Qam (QaA (fun J μ J' w'=>∃ (Jo:Env) (k:Nat),J'=upd (mix ([2,3]++sq 6 34) Jo J) 3 (I6 (k:Int))/\(k<=s.ticks.length)/\(∀ j:Nat,j<k->Qjm s.ticks j=false)/\μ=s.ticks.length-k/\Own w no w' [blk b1 ((vc s.known)++[(.slice a1 s.ents.length c1:Value),(.slice a2 s.ticks.length c2:Value) ]) 28]) ?_ ?_))))))))))))))
 ·exact ⟨_,_,0,Qai (Qao (ds:=([2,3]++sq 6 34)) (Agr.refl _ _)) rfl,(by omega),(fun j hj=>absurd hj (Nat.not_lt_zero j)),rfl,hs⟩
 rintro μ J' w3 ⟨Jo,k,rfl,hk,hbt,rfl,hs⟩
 refine Qag (Qag (Qab (Qaa (Qac (V:=I6 (k:Int)) rfl (Qaa (Qae QcW rfl (Qaa (QaE (V:=.slice a2 s.ticks.length c2) QfK hs 0 rfl rfl rfl (Qaa (Qa2 (n:=s.ticks.length) Qe6 (Rd.own' hr2 hs) (by simp) rfl (Qaa (QaQ rfl rfl (Qaf (Qan (t:=decide ((k:Int)<((s.ticks.length:Nat):Int))) rfl (fun c4=>?_) (fun c4=>?_)))))))))))))))
 ·
  replace c4:=QQ1 c4
  refine Qap (Qag (Qam (Qag (QaI HM [some 13,some 14,some 15,some 16,some 17,some 18,some 19,some 20,some 21,some 22,some 23,some 24,some 25,some 26,some 27,some 28,some 29,some 30,some 31,some 32,some 33,some 34,some 35,some 36,some 37,some 38,some 39] [] [0,1,0,7,15,31,63,127,255,511,1023,2047,4095,2047,10239,32767,65535,131071,2047,264191,2047,1837055,3934207,8128511,16777215,33554431,67108863] [pv (Pq b1 (0+17)),pv (.slice a2 s.ticks.length c2),pv (I6 (k:Int)),pv (.pointer (some ⟨bkS (.slice a2 s.ticks.length c2),ofS (.slice a2 s.ticks.length c2)+(k:Int).toNat*2,none⟩)),pv (.pointer (some ⟨bkS (.slice a2 s.ticks.length c2),ofS (.slice a2 s.ticks.length c2)+(k:Int).toNat*2+1,none⟩)),pv (.int .u32 ((gd s.ticks k).tick)),pv (.bool (decide (1073741824<(gd s.ticks k).tick))),pv (.bool (decide (1073741824<(gd s.ticks k).tick))),pg ((decide (1073741824<(gd s.ticks k).tick)) == false) (I6 (k:Int)),pg ((decide (1073741824<(gd s.ticks k).tick)) == false) (.bool (decide (0<(k:Int)))),pg ((decide (1073741824<(gd s.ticks k).tick)) == false) (.bool (decide (0<(k:Int)))),pg (((decide (1073741824<(gd s.ticks k).tick)) == false)&&((decide (0<(k:Int))) == true)) (Pq b1 (0+17)),pg (((decide (1073741824<(gd s.ticks k).tick)) == false)&&((decide (0<(k:Int))) == true)) (.slice a2 s.ticks.length c2),pg (((decide (1073741824<(gd s.ticks k).tick)) == false)&&((decide (0<(k:Int))) == true)) (I6 (k:Int)),pg (((decide (1073741824<(gd s.ticks k).tick)) == false)&&((decide (0<(k:Int))) == true)) (I6 ((k-1:Nat):Int)),pg (((decide (1073741824<(gd s.ticks k).tick)) == false)&&((decide (0<(k:Int))) == true)) (.pointer (some ⟨bkS (.slice a2 s.ticks.length c2),ofS (.slice a2 s.ticks.length c2)+((k-1:Nat):Int).toNat*2,none⟩)),pg (((decide (1073741824<(gd s.ticks k).tick)) == false)&&((decide (0<(k:Int))) == true)) (.pointer (some ⟨bkS (.slice a2 s.ticks.length c2),ofS (.slice a2 s.ticks.length c2)+((k-1:Nat):Int).toNat*2+0,none⟩)),pg (((decide (1073741824<(gd s.ticks k).tick)) == false)&&((decide (0<(k:Int))) == true)) (I7 ((gd s.ticks (k-1)).cart)),pg (((decide (1073741824<(gd s.ticks k).tick)) == false)&&((decide (0<(k:Int))) == true)) (Pq b1 (0+17)),pg (((decide (1073741824<(gd s.ticks k).tick)) == false)&&((decide (0<(k:Int))) == true)) (.slice a2 s.ticks.length c2),pg (((decide (1073741824<(gd s.ticks k).tick)) == false)&&((decide (0<(k:Int))) == true)) (I6 (k:Int)),pg (((decide (1073741824<(gd s.ticks k).tick)) == false)&&((decide (0<(k:Int))) == true)) (.pointer (some ⟨bkS (.slice a2 s.ticks.length c2),ofS (.slice a2 s.ticks.length c2)+(k:Int).toNat*2,none⟩)),pg (((decide (1073741824<(gd s.ticks k).tick)) == false)&&((decide (0<(k:Int))) == true)) (.pointer (some ⟨bkS (.slice a2 s.ticks.length c2),ofS (.slice a2 s.ticks.length c2)+(k:Int).toNat*2+0,none⟩)),pg (((decide (1073741824<(gd s.ticks k).tick)) == false)&&((decide (0<(k:Int))) == true)) (I7 ((gd s.ticks k).cart)),pg (((decide (1073741824<(gd s.ticks k).tick)) == false)&&((decide (0<(k:Int))) == true)) (.bool (decide ((gd s.ticks k).cart<=(gd s.ticks (k-1)).cart))),pg ((decide (1073741824<(gd s.ticks k).tick)) == false) (.bool ((decide (0<(k:Int)))&&(decide ((gd s.ticks k).cart<=(gd s.ticks (k-1)).cart)))),pv (.bool ((decide (1073741824<(gd s.ticks k).tick))||((decide (0<(k:Int)))&&(decide ((gd s.ticks k).cart<=(gd s.ticks (k-1)).cart)))))] (fun _ _=>_) [26] (by kernel_rfl) hs ⟨?_,?_,?_,?_,?_,?_,?_,?_,?_,?_,?_,?_,?_,?_,?_,?_,?_,?_,?_,?_,?_,?_,?_,?_,?_,?_,?_,trivial⟩ ?_))))
  ·exact oa [] fun D J w hs=>Qae QcW rfl (Zz hs)
  ·exact oa [0] fun D J w hs=>QaE (V:=.slice a2 s.ticks.length c2) QfK hs 0 rfl rfl rfl (Zz hs)
  ·exact oa [] fun D J w hs=>Qac (V:=.int .i64 (k:Int)) rfl (Zz hs)
  ·exact oa [1,2] fun D J w hs=>Qaw Qe6 QcZ.1 (Rd.own' hr2 hs) rfl rfl (by omega) (by rw [QQ6];omega) (Zz hs)
  ·exact oa [3] fun D J w hs=>Qae QfV rfl (Zz hs)
  ·exact oa [4] fun D J w hs=>QaR (j:=1) (V:=.int .u32 ((gd s.ticks k).tick)) k Qa6 (Rd.own' hr2 hs) (QaT (by omega)) rfl rfl (by omega) (Zz hs)
  ·exact oa [5] fun D J w hs=>QbY rfl rfl (Zz hs)
  ·exact oa [6] fun D J w hs=>Qac (V:=.bool (decide (1073741824<(gd s.ticks k).tick))) rfl (Zz hs)
  ·exact og [7] fun D J w hG hs=>Qac (V:=.int .i64 (k:Int)) rfl (Zz hs)
  ·exact oy [7,8] [8] fun D J w hG hs=>QbY rfl rfl (Zz hs)
  ·exact oy [7,9] [9] fun D J w hG hs=>Qac (V:=.bool (decide (0<(k:Int)))) rfl (Zz hs)
  ·exact og [10] fun D J w hG hs=>Qae QcW rfl (Zz hs)
  ·exact oy [10,11] [11] fun D J w hG hs=>QaE (V:=.slice a2 s.ticks.length c2) QfK hs 0 rfl rfl rfl (Zz hs)
  ·exact og [10] fun D J w hG hs=>Qac (V:=.int .i64 (k:Int)) rfl (Zz hs)
  ·refine oy [10,13] [13] fun D J w hG hs=>?_
   have hgd0:=QQ2 (eq_of_beq (QbD (hG)))
   have hgd1:=QQ1 (eq_of_beq (QbF (hG)))
   exact Qa7 (a:=(k:Int)) (b:=1) (c:=((k-1:Nat):Int)) rfl rfl (Qak (by omega) (by omega)) (Zz hs)
  ·refine oy [10,12,14] [12,14] fun D J w hG hs=>?_
   have hgd0:=QQ2 (eq_of_beq (QbD (hG)))
   have hgd1:=QQ1 (eq_of_beq (QbF (hG)))
   exact Qaw Qe6 QcZ.1 (Rd.own' hr2 hs) rfl rfl (by omega) (by rw [QQ6];omega) (Zz hs)
  ·exact oy [10,15] [15] fun D J w hG hs=>Qae Qej rfl (Zz hs)
  ·refine oy [10,16] [16] fun D J w hG hs=>?_
   have hgd0:=QQ2 (eq_of_beq (QbD (hG)))
   have hgd1:=QQ1 (eq_of_beq (QbF (hG)))
   exact QaR (j:=0) (V:=.int .u16 ((gd s.ticks (k-1)).cart)) (k-1) Qar (Rd.own' hr2 hs) (QaT (by omega)) rfl rfl (by omega) (Zz hs)
  ·exact og [10] fun D J w hG hs=>Qae QcW rfl (Zz hs)
  ·exact oy [10,18] [18] fun D J w hG hs=>QaE (V:=.slice a2 s.ticks.length c2) QfK hs 0 rfl rfl rfl (Zz hs)
  ·exact og [10] fun D J w hG hs=>Qac (V:=.int .i64 (k:Int)) rfl (Zz hs)
  ·refine oy [10,19,20] [19,20] fun D J w hG hs=>?_
   have hgd0:=QQ2 (eq_of_beq (QbD (hG)))
   have hgd1:=QQ1 (eq_of_beq (QbF (hG)))
   exact Qaw Qe6 QcZ.1 (Rd.own' hr2 hs) rfl rfl (by omega) (by rw [QQ6];omega) (Zz hs)
  ·exact oy [10,21] [21] fun D J w hG hs=>Qae Qej rfl (Zz hs)
  ·refine oy [10,22] [22] fun D J w hG hs=>?_
   have hgd0:=QQ2 (eq_of_beq (QbD (hG)))
   have hgd1:=QQ1 (eq_of_beq (QbF (hG)))
   exact QaR (j:=0) (V:=.int .u16 ((gd s.ticks k).cart)) k Qar (Rd.own' hr2 hs) (QaT (by omega)) rfl rfl (by omega) (Zz hs)
  ·exact oy [10,17,23] [17,23] fun D J w hG hs=>Qcz rfl rfl (Zz hs)
  ·exact oy [7,10,24] [10] fun D J w hG hs=>Qgz (h':=decide ((gd s.ticks k).cart<=(gd s.ticks (k-1)).cart)) (G:=((decide (1073741824<(gd s.ticks k).tick)) == false)) hG rfl rfl rfl (Zz hs)
  ·exact oa [7,25] fun D J w hs=>Qb4 (h':=(decide (0<(k:Int)))&&(decide ((gd s.ticks k).cart<=(gd s.ticks (k-1)).cart))) rfl rfl rfl (Zz hs)
  rintro J1 w5 J2 hJ hs
  replace hJ:J2=upd (mix (sq 13 27) J1 _) 39 (.bool ((decide (1073741824<(gd s.ticks k).tick))||((decide (0<(k:Int)))&&(decide ((gd s.ticks k).cart<=(gd s.ticks (k-1)).cart))))):=hJ
  subst hJ
  refine Qan (t:=(decide (1073741824<(gd s.ticks k).tick))||((decide (0<(k:Int)))&&(decide ((gd s.ticks k).cart<=(gd s.ticks (k-1)).cart)))) rfl (fun c6=>?_) (fun c6=>?_)
  ·
   refine Qag (Qab (Qaa (Qad (V:=.bool false) rfl (Qaf (Qau ?_)))))
   refine ⟨_,Qaq (V:=.bool false) Tryz.results100 rfl,(Zr hs ?_)⟩
   exact congrArg Value.bool (Qg7 (i:=k) (by omega) (by unfold Qjm;have hq:=c6;simpa using hq)).symm
  have c6r:=Qfk c6
  replace c6:=Qfj c6
  replace c6:=QQ2 c6
  refine Qap (Qab (Qaa (Qac (V:=I6 (k:Int)) rfl (Qaa (QaD (a:=(k:Int)) (b:=1) (c:=((k+1:Nat):Int)) rfl rfl (Qak (by omega) (by omega)) (Qaa (Qad (V:=I6 ((k+1:Nat):Int)) rfl (Qaf ?_))))))))
  refine ⟨_,?_,_,k+1,Qai (Qao (ds:=([2,3]++sq 6 34)) (by repeat (first|exact Agr.refl _ _|refine Agr.upd ?_ rfl|refine Agr.mix ?_ rfl))) rfl,(by omega),(Qb8 hbt (by unfold Qjm;rw [QQ4 c6,Bool.false_or];have hq:=c6r;simpa using hq)),rfl,hs.take 1⟩
  omega
 replace c4:=QQ2 c4
 refine QaF (Qag (Qag (Qab (Qaa (Qad (V:=I6 0) rfl (Qaf (Qam (QaA (fun J μ J' w'=>∃ (Jo:Env) (k2:Nat),J'=upd (mix ([2,4,5]++sq 40 52) Jo J) 4 (I6 (k2:Int))/\(k2<=s.ents.length)/\(∀ j:Nat,j<k2->QgN s j=false)/\μ=s.ents.length-k2/\Own w no w' [blk b1 ((vc s.known)++[(.slice a1 s.ents.length c1:Value),(.slice a2 s.ticks.length c2:Value) ]) 28]) ?_ ?_))))))))
 ·exact ⟨_,_,0,Qai (Qao (ds:=([2,4,5]++sq 40 52)) (Agr.refl _ _)) rfl,(by omega),(fun j hj=>absurd hj (Nat.not_lt_zero j)),rfl,hs⟩
 rintro μ J' w7 ⟨Jo,k2,rfl,hk2,hbe,rfl,hs⟩
 refine Qag (Qag (Qab (Qaa (Qac (V:=I6 (k2:Int)) rfl (Qaa (Qae Qb1 rfl (Qaa (QaE (V:=.slice a1 s.ents.length c1) QdM hs 0 rfl rfl rfl (Qaa (Qa2 (n:=s.ents.length) Qc4 (Rd.own' hr1 hs) (by simp) rfl (Qaa (QaQ rfl rfl (Qaf (Qan (t:=decide ((k2:Int)<((s.ents.length:Nat):Int))) rfl (fun c8=>?_) (fun c8=>?_)))))))))))))))
 ·
  replace c8:=QQ1 c8
  refine Qap (Qag (Qam (Qag (Qag (QaI HM [some 47,some 48,some 49,some 50,some 51,some 52,some 53,some 54,some 55,some 56,some 57,some 58,some 59,some 60,some 61,some 62,some 63,some 64,some 65,some 66,some 67,some 68,some 69,some 70,some 71,some 72,some 73] [] [0,0,2,0,14,30,63,127,255,511,1023,2047,4095,8191,4095,20479,65535,131071,4095,266239,4095,1839103,3936255,8388607,16777215,33554431,67108863] [pv (.agg ((vc s.known)++[(.slice a1 s.ents.length c1:Value),(.slice a2 s.ticks.length c2:Value) ]).toArray),pv (Pq b1 (0+16)),pv (.slice a1 s.ents.length c1),pv (I6 (k2:Int)),pv (.pointer (some ⟨bkS (.slice a1 s.ents.length c1),ofS (.slice a1 s.ents.length c1)+(k2:Int).toNat*7,none⟩)),pv (.agg (cec (gd s.ents k2)).toArray),pv (.bool (Qdu s (gd s.ents k2))),pv (.bool (!(Qdu s (gd s.ents k2)))),pv (.bool (!(Qdu s (gd s.ents k2)))),pg ((!(Qdu s (gd s.ents k2))) == false) (I6 (k2:Int)),pg ((!(Qdu s (gd s.ents k2))) == false) (.bool (decide (0<(k2:Int)))),pg ((!(Qdu s (gd s.ents k2))) == false) (.bool (decide (0<(k2:Int)))),pg (((!(Qdu s (gd s.ents k2))) == false)&&((decide (0<(k2:Int))) == true)) (Pq b1 (0+16)),pg (((!(Qdu s (gd s.ents k2))) == false)&&((decide (0<(k2:Int))) == true)) (.slice a1 s.ents.length c1),pg (((!(Qdu s (gd s.ents k2))) == false)&&((decide (0<(k2:Int))) == true)) (I6 (k2:Int)),pg (((!(Qdu s (gd s.ents k2))) == false)&&((decide (0<(k2:Int))) == true)) (I6 ((k2-1:Nat):Int)),pg (((!(Qdu s (gd s.ents k2))) == false)&&((decide (0<(k2:Int))) == true)) (.pointer (some ⟨bkS (.slice a1 s.ents.length c1),ofS (.slice a1 s.ents.length c1)+((k2-1:Nat):Int).toNat*7,none⟩)),pg (((!(Qdu s (gd s.ents k2))) == false)&&((decide (0<(k2:Int))) == true)) (.agg (cec (gd s.ents (k2-1))).toArray),pg (((!(Qdu s (gd s.ents k2))) == false)&&((decide (0<(k2:Int))) == true)) (Pq b1 (0+16)),pg (((!(Qdu s (gd s.ents k2))) == false)&&((decide (0<(k2:Int))) == true)) (.slice a1 s.ents.length c1),pg (((!(Qdu s (gd s.ents k2))) == false)&&((decide (0<(k2:Int))) == true)) (I6 (k2:Int)),pg (((!(Qdu s (gd s.ents k2))) == false)&&((decide (0<(k2:Int))) == true)) (.pointer (some ⟨bkS (.slice a1 s.ents.length c1),ofS (.slice a1 s.ents.length c1)+(k2:Int).toNat*7,none⟩)),pg (((!(Qdu s (gd s.ents k2))) == false)&&((decide (0<(k2:Int))) == true)) (.agg (cec (gd s.ents k2)).toArray),pg (((!(Qdu s (gd s.ents k2))) == false)&&((decide (0<(k2:Int))) == true)) (.bool (Qbl (gd s.ents (k2-1)) (gd s.ents k2))),pg (((!(Qdu s (gd s.ents k2))) == false)&&((decide (0<(k2:Int))) == true)) (.bool (!(Qbl (gd s.ents (k2-1)) (gd s.ents k2)))),pg ((!(Qdu s (gd s.ents k2))) == false) (.bool ((decide (0<(k2:Int)))&&(!(Qbl (gd s.ents (k2-1)) (gd s.ents k2))))),pv (.bool ((!(Qdu s (gd s.ents k2)))||((decide (0<(k2:Int)))&&(!(Qbl (gd s.ents (k2-1)) (gd s.ents k2))))))] (fun _ _=>_) [26] (by kernel_rfl) hs ⟨?_,?_,?_,?_,?_,?_,?_,?_,?_,?_,?_,?_,?_,?_,?_,?_,?_,?_,?_,?_,?_,?_,?_,?_,?_,?_,?_,trivial⟩ ?_)))))
  ·exact oa [] fun D J w hs=>QaG (cs:=(vc s.known)++[(.slice a1 s.ents.length c1:Value),(.slice a2 s.ticks.length c2:Value) ]) Qd9 hs 0 rfl rfl rfl (Zz hs)
  ·exact oa [] fun D J w hs=>Qae Qb1 rfl (Zz hs)
  ·exact oa [1] fun D J w hs=>QaE (V:=.slice a1 s.ents.length c1) QdM hs 0 rfl rfl rfl (Zz hs)
  ·exact oa [] fun D J w hs=>Qac (V:=.int .i64 (k2:Int)) rfl (Zz hs)
  ·exact oa [2,3] fun D J w hs=>Qaw Qc4 Qbu.1 (Rd.own' hr1 hs) rfl rfl (by omega) (by rw [QQ6];omega) (Zz hs)
  ·exact oa [4] fun D J w hs=>Qa1 (j:=0) (vs:=cec (gd s.ents k2)) k2 Qbu (Rd.own' hr1 hs) (QaT (by omega)) rfl rfl rfl (by omega) (Zz hs)
  ·exact oa [0,5] fun D J w hs=>Qat (vs:=[.agg ((vc s.known)++[(.slice a1 s.ents.length c1:Value),(.slice a2 s.ticks.length c2:Value) ]).toArray,.agg (cec (gd s.ents k2)).toArray]) (V:=.bool (Qdu s (gd s.ents k2))) Quz rfl rfl (QmG _ s a1 c1 a2 c2 (gd s.ents k2) (hE0 _ (QbK (by omega))) (Rd.own' hr1 hs) (Rd.own' hr2 hs)) hs fun _ hs=>Zz hs
  ·exact oa [6] fun D J w hs=>Qbz rfl (Zz hs)
  ·exact oa [7] fun D J w hs=>Qac (V:=.bool (!(Qdu s (gd s.ents k2)))) rfl (Zz hs)
  ·exact og [8] fun D J w hG hs=>Qac (V:=.int .i64 (k2:Int)) rfl (Zz hs)
  ·exact oy [8,9] [9] fun D J w hG hs=>QbY rfl rfl (Zz hs)
  ·exact oy [8,10] [10] fun D J w hG hs=>Qac (V:=.bool (decide (0<(k2:Int)))) rfl (Zz hs)
  ·exact og [11] fun D J w hG hs=>Qae Qb1 rfl (Zz hs)
  ·exact oy [11,12] [12] fun D J w hG hs=>QaE (V:=.slice a1 s.ents.length c1) QdM hs 0 rfl rfl rfl (Zz hs)
  ·exact og [11] fun D J w hG hs=>Qac (V:=.int .i64 (k2:Int)) rfl (Zz hs)
  ·refine oy [11,14] [14] fun D J w hG hs=>?_
   have hgd1:=QQ1 (eq_of_beq (QbF (hG)))
   exact Qa7 (a:=(k2:Int)) (b:=1) (c:=((k2-1:Nat):Int)) rfl rfl (Qak (by omega) (by omega)) (Zz hs)
  ·refine oy [11,13,15] [13,15] fun D J w hG hs=>?_
   have hgd1:=QQ1 (eq_of_beq (QbF (hG)))
   exact Qaw Qc4 Qbu.1 (Rd.own' hr1 hs) rfl rfl (by omega) (by rw [QQ6];omega) (Zz hs)
  ·refine oy [11,16] [16] fun D J w hG hs=>?_
   have hgd1:=QQ1 (eq_of_beq (QbF (hG)))
   exact Qa1 (j:=0) (vs:=cec (gd s.ents (k2-1))) (k2-1) Qbu (Rd.own' hr1 hs) (QaT (by omega)) rfl rfl rfl (by omega) (Zz hs)
  ·exact og [11] fun D J w hG hs=>Qae Qb1 rfl (Zz hs)
  ·exact oy [11,18] [18] fun D J w hG hs=>QaE (V:=.slice a1 s.ents.length c1) QdM hs 0 rfl rfl rfl (Zz hs)
  ·exact og [11] fun D J w hG hs=>Qac (V:=.int .i64 (k2:Int)) rfl (Zz hs)
  ·refine oy [11,19,20] [19,20] fun D J w hG hs=>?_
   have hgd1:=QQ1 (eq_of_beq (QbF (hG)))
   exact Qaw Qc4 Qbu.1 (Rd.own' hr1 hs) rfl rfl (by omega) (by rw [QQ6];omega) (Zz hs)
  ·refine oy [11,21] [21] fun D J w hG hs=>?_
   have hgd1:=QQ1 (eq_of_beq (QbF (hG)))
   exact Qa1 (j:=0) (vs:=cec (gd s.ents k2)) k2 Qbu (Rd.own' hr1 hs) (QaT (by omega)) rfl rfl rfl (by omega) (Zz hs)
  ·exact oy [11,17,22] [17,22] fun D J w hG hs=>Qat (vs:=[.agg (cec (gd s.ents (k2-1))).toArray,.agg (cec (gd s.ents k2)).toArray]) (V:=.bool (Qbl (gd s.ents (k2-1)) (gd s.ents k2))) QsW rfl rfl (QjP _ (gd s.ents (k2-1)) (gd s.ents k2)) hs fun _ hs=>Zz hs
  ·exact oy [11,23] [23] fun D J w hG hs=>Qbz rfl (Zz hs)
  ·exact oy [8,11,24] [11] fun D J w hG hs=>Qgz (h':=!(Qbl (gd s.ents (k2-1)) (gd s.ents k2))) (G:=((!(Qdu s (gd s.ents k2))) == false)) hG rfl rfl rfl (Zz hs)
  ·exact oa [8,25] fun D J w hs=>Qb4 (h':=(decide (0<(k2:Int)))&&(!(Qbl (gd s.ents (k2-1)) (gd s.ents k2)))) rfl rfl rfl (Zz hs)
  rintro J1 w11 J2 hJ hs
  replace hJ:J2=upd (mix (sq 47 27) J1 _) 73 (.bool ((!(Qdu s (gd s.ents k2)))||((decide (0<(k2:Int)))&&(!(Qbl (gd s.ents (k2-1)) (gd s.ents k2)))))):=hJ
  subst hJ
  refine Qan (t:=(!(Qdu s (gd s.ents k2)))||((decide (0<(k2:Int)))&&(!(Qbl (gd s.ents (k2-1)) (gd s.ents k2))))) rfl (fun c12=>?_) (fun c12=>?_)
  ·
   refine Qag (Qab (Qaa (Qad (V:=.bool false) rfl (Qaf (Qau ?_)))))
   refine ⟨_,Qaq (V:=.bool false) Tryz.results100 rfl,(Zr hs (congrArg Value.bool (Qcp (i:=k2) (by omega) ?_).symm))⟩
   have hq:=c12
   unfold QgN
   revert hq
   rcases Nat.eq_zero_or_pos k2 with q9|q9
   ·subst q9;cases Qdu s (gd s.ents 0)<;>simp
   rw [QQ3 (p:=0<k2) q9,QQ3 (p:=(0:Int)<_) (by omega)];cases Qdu s (gd s.ents k2)<;>cases Qbl (gd s.ents (k2-1)) (gd s.ents k2)<;>simp
  have c12r:=Qfk c12
  replace c12:=Qfj c12
  replace c12:=Qbf c12
  refine Qap (Qag (Qab (Qaa (Qad (V:=I6 0) rfl (Qaf (Qam ?_))))))
  have hen:=c12
  have hah:(decide (0<k2)&&!Qbl (gd s.ents (k2-1)) (gd s.ents k2))=false:=by have hq:=c12r;simpa using hq
  refine QaA (fun J μ J' w'=>∃ (Jo:Env) (k3:Nat),J'=upd (mix ([2,5]++sq 74 18) Jo J) 5 (I6 (k3:Int))/\(k3<=k2)/\(∀ j:Nat,j<k3->decide ((gd s.ents j).dot=(gd s.ents k2).dot)=false)/\μ=k2-k3/\Own w no w' [blk b1 ((vc s.known)++[(.slice a1 s.ents.length c1:Value),(.slice a2 s.ticks.length c2:Value) ]) 28]) ?_ ?_
  ·exact ⟨_,_,0,Qai (Qao (ds:=([2,5]++sq 74 18)) (Agr.refl _ _)) rfl,(by omega),(fun j hj=>absurd hj (Nat.not_lt_zero j)),rfl,hs⟩
  rintro μ J' w13 ⟨Jo,k3,rfl,hk3,hdd,rfl,hs⟩
  refine Qag (Qag (Qab (Qaa (Qac (V:=I6 (k3:Int)) rfl (Qaa (Qac (V:=I6 (k2:Int)) rfl (Qaa (QaQ rfl rfl (Qaf (Qan (t:=decide ((k3:Int)<(k2:Int))) rfl (fun c14=>?_) (fun c14=>?_)))))))))))
  ·
   replace c14:=QQ1 c14
   refine Qap (Qag (Qam (Qag (QaI HM [some 79,some 80,some 81,some 82,some 83,some 84,some 85,some 86,some 87,some 88,some 89,some 90,some 91] [] [0,1,0,7,15,31,0,64,0,448,960,1984,4095] [pv (Pq b1 (0+16)),pv (.slice a1 s.ents.length c1),pv (I6 (k3:Int)),pv (.pointer (some ⟨bkS (.slice a1 s.ents.length c1),ofS (.slice a1 s.ents.length c1)+(k3:Int).toNat*7,none⟩)),pv (.pointer (some ⟨bkS (.slice a1 s.ents.length c1),ofS (.slice a1 s.ents.length c1)+(k3:Int).toNat*7+4,none⟩)),pv (.agg (dc ((gd s.ents k3).dot)).toArray),pv (Pq b1 (0+16)),pv (.slice a1 s.ents.length c1),pv (I6 (k2:Int)),pv (.pointer (some ⟨bkS (.slice a1 s.ents.length c1),ofS (.slice a1 s.ents.length c1)+(k2:Int).toNat*7,none⟩)),pv (.pointer (some ⟨bkS (.slice a1 s.ents.length c1),ofS (.slice a1 s.ents.length c1)+(k2:Int).toNat*7+4,none⟩)),pv (.agg (dc ((gd s.ents k2).dot)).toArray),pv (.bool (decide ((gd s.ents k3).dot=(gd s.ents k2).dot)))] (fun _ _=>_) [12] (by kernel_rfl) hs ⟨?_,?_,?_,?_,?_,?_,?_,?_,?_,?_,?_,?_,?_,trivial⟩ ?_))))
   ·exact oa [] fun D J w hs=>Qae Qb1 rfl (Zz hs)
   ·exact oa [0] fun D J w hs=>QaE (V:=.slice a1 s.ents.length c1) QdM hs 0 rfl rfl rfl (Zz hs)
   ·exact oa [] fun D J w hs=>Qac (V:=.int .i64 (k3:Int)) rfl (Zz hs)
   ·exact oa [1,2] fun D J w hs=>Qaw Qc4 Qbu.1 (Rd.own' hr1 hs) rfl rfl (by omega) (by rw [QQ6];omega) (Zz hs)
   ·exact oa [3] fun D J w hs=>Qae QbP rfl (Zz hs)
   ·exact oa [4] fun D J w hs=>Qa1 (j:=4) (vs:=dc ((gd s.ents k3).dot)) k3 QcR (Rd.own' hr1 hs) (QaT (by omega)) rfl rfl rfl (by omega) (Zz hs)
   ·exact oa [] fun D J w hs=>Qae Qb1 rfl (Zz hs)
   ·exact oa [6] fun D J w hs=>QaE (V:=.slice a1 s.ents.length c1) QdM hs 0 rfl rfl rfl (Zz hs)
   ·exact oa [] fun D J w hs=>Qac (V:=.int .i64 (k2:Int)) rfl (Zz hs)
   ·exact oa [7,8] fun D J w hs=>Qaw Qc4 Qbu.1 (Rd.own' hr1 hs) rfl rfl (by omega) (by rw [QQ6];omega) (Zz hs)
   ·exact oa [9] fun D J w hs=>Qae QbP rfl (Zz hs)
   ·exact oa [10] fun D J w hs=>Qa1 (j:=4) (vs:=dc ((gd s.ents k2).dot)) k2 QcR (Rd.own' hr1 hs) (QaT (by omega)) rfl rfl rfl (by omega) (Zz hs)
   ·exact oa [5,11] fun D J w hs=>Qpt (xs:=dc ((gd s.ents k3).dot)) (ys:=dc ((gd s.ents k2).dot)) Tryz.eqGuardType96 (QrG ((gd s.ents k3).dot) ((gd s.ents k2).dot)) rfl rfl rfl (Zz hs)
   rintro J1 w15 J2 hJ hs
   replace hJ:J2=upd (mix (sq 79 13) J1 _) 91 (.bool (decide ((gd s.ents k3).dot=(gd s.ents k2).dot))):=hJ
   subst hJ
   refine Qan (t:=decide ((gd s.ents k3).dot=(gd s.ents k2).dot)) rfl (fun c16=>?_) (fun c16=>?_)
   ·
    replace c16:=QQ1 c16
    refine Qag (Qab (Qaa (Qad (V:=.bool false) rfl (Qaf (Qau ?_)))))
    refine ⟨_,Qaq (V:=.bool false) Tryz.results100 rfl,(Zr hs ?_)⟩
    exact congrArg Value.bool (Qcp (i:=k2) (by omega) (QoI (j:=k3) (by omega) (by omega) c16)).symm
   replace c16:=QQ2 c16
   refine Qap (Qab (Qaa (Qac (V:=I6 (k3:Int)) rfl (Qaa (QaD (a:=(k3:Int)) (b:=1) (c:=((k3+1:Nat):Int)) rfl rfl (Qak (by omega) (by omega)) (Qaa (Qad (V:=I6 ((k3+1:Nat):Int)) rfl (Qaf ?_))))))))
   refine ⟨_,?_,_,k3+1,Qai (Qao (ds:=([2,5]++sq 74 18)) (by repeat (first|exact Agr.refl _ _|refine Agr.upd ?_ rfl|refine Agr.mix ?_ rfl))) rfl,(by omega),(Qb8 hdd (QQ4 c16)),rfl,hs.take 1⟩
   omega
  replace c14:=QQ2 c14
  refine QaF (Qab (Qaa (Qac (V:=I6 (k2:Int)) rfl (Qaa (QaD (a:=(k2:Int)) (b:=1) (c:=((k2+1:Nat):Int)) rfl rfl (Qak (by omega) (by omega)) (Qaa (Qad (V:=I6 ((k2+1:Nat):Int)) rfl (Qaf ?_))))))))
  refine ⟨_,?_,_,k2+1,Qai (Qao (ds:=([2,4,5]++sq 40 52)) (by repeat (first|exact Agr.refl _ _|refine Agr.upd ?_ rfl|refine Agr.mix ?_ rfl))) rfl,(by omega),(Qb8 hbe (Qru (by omega) hen hah fun j hj=>hdd j (by omega))),rfl,hs.take 1⟩
  omega
 replace c8:=QQ2 c8
 refine QaF (Qag (Qab (Qaa (Qae QgG rfl (Qaa (Qb0 (vs:=vc s.known) QbA hs 0 rfl rfl rfl rfl (Qaa (Qat (vs:=[.agg (vc s.known).toArray,I6 16]) (V:=.bool (QaK s.known 16)) QqJ rfl rfl ?hc hs fun w17 hs=>?_))))))))
 case hc=>exact (Qf8 _ s.known 16 (by first|assumption|exact Qca))
 refine Qaa (Qad (V:=.bool (QaK s.known 16)) rfl (Qaf (Qau ?_)))
 refine ⟨_,Qaq (V:=.bool (QaK s.known 16)) Tryz.results100 rfl,(Zr hs ?_)⟩
 exact congrArg Value.bool (Qlr (fun i hi=>hbt i (by omega)) fun i hi=>hbe i (by omega)).symm
theorem Quw (w:World) (s:Sta) (a1:Option Addr) (c1:Nat) (a2:Option Addr) (c2:Nat) (hr1:Rd w (.slice a1 s.ents.length c1) 7 (s.ents.map cec)) (hr2:Rd w (.slice a2 s.ticks.length c2) 2 (s.ticks.map lsc)):Calls Tryz.prog 38 #[.agg ((vc s.known)++[(.slice a1 s.ents.length c1:Value),(.slice a2 s.ticks.length c2:Value) ]).toArray] w (fun e w'=>e = .returned (.bool (Qhv s))/\Own w no w' []):=by
 refine Qaj (n:=13) Tryz.func38 rfl Tryz.ntmps38 rfl ?_
 have hs:=Own.start w
 refine Qag (Qab (Qaa (QaN (V:=.agg ((vc s.known)++[(.slice a1 s.ents.length c1:Value),(.slice a2 s.ticks.length c2:Value) ]).toArray) (cs:=(vc s.known)++[(.slice a1 s.ents.length c1:Value),(.slice a2 s.ticks.length c2:Value) ]) rfl rfl hs fun b1 w2 hs=>(Qaa (Qad (V:=.bool false) rfl (Qaf (Qag (Qbj [some 3,some 4,some 5,some 6,some 7,some 8,some 9,some 10,some 11,some 12,some 2] [] [0,1,3,7,15,31,63,127,255,511,1023] [pv (Pq b1 (0+16)),pv (.slice a1 s.ents.length c1),pv (I6 ((s.ents.length:Nat):Int)),pv (.bool (decide (((s.ents.length:Nat):Int)<=60))),pv (.bool (decide (((s.ents.length:Nat):Int)<=60))),pg ((decide (((s.ents.length:Nat):Int)<=60)) == true) (Pq b1 (0+17)),pg ((decide (((s.ents.length:Nat):Int)<=60)) == true) (.slice a2 s.ticks.length c2),pg ((decide (((s.ents.length:Nat):Int)<=60)) == true) (I6 ((s.ticks.length:Nat):Int)),pg ((decide (((s.ents.length:Nat):Int)<=60)) == true) (.bool (decide (((s.ticks.length:Nat):Int)<=60))),pv (.bool ((decide (((s.ents.length:Nat):Int)<=60))&&(decide (((s.ticks.length:Nat):Int)<=60)))),pv (.bool ((decide (((s.ents.length:Nat):Int)<=60))&&(decide (((s.ticks.length:Nat):Int)<=60))))] (fun _ _=>_) [10] (by kernel_rfl) hs ⟨?_,?_,?_,?_,?_,?_,?_,?_,?_,?_,?_,trivial⟩ ?_))))))))
 ·exact oa [] fun D J w hs=>Qae Qb1 rfl (Zz hs)
 ·exact oa [0] fun D J w hs=>QaE (V:=.slice a1 s.ents.length c1) QdM hs 0 rfl rfl rfl (Zz hs)
 ·exact oa [1] fun D J w hs=>Qa2 (n:=s.ents.length) Qc4 (Rd.own' hr1 hs) (by simp) rfl (Zz hs)
 ·exact oa [2] fun D J w hs=>Qdn rfl rfl (Zz hs)
 ·exact oa [3] fun D J w hs=>Qac (V:=.bool (decide (((s.ents.length:Nat):Int)<=60))) rfl (Zz hs)
 ·exact og [4] fun D J w hG hs=>Qae QcW rfl (Zz hs)
 ·exact oy [4,5] [5] fun D J w hG hs=>QaE (V:=.slice a2 s.ticks.length c2) QfK hs 0 rfl rfl rfl (Zz hs)
 ·exact oy [4,6] [6] fun D J w hG hs=>Qa2 (n:=s.ticks.length) Qe6 (Rd.own' hr2 hs) (by simp) rfl (Zz hs)
 ·exact oy [4,7] [7] fun D J w hG hs=>Qdn rfl rfl (Zz hs)
 ·exact oa [4,8] fun D J w hs=>Qa4 (h':=decide (((s.ticks.length:Nat):Int)<=60)) rfl rfl rfl (Zz hs)
 ·exact oa [9] fun D J w hs=>Qad (V:=.bool ((decide (((s.ents.length:Nat):Int)<=60))&&(decide (((s.ticks.length:Nat):Int)<=60)))) rfl (Zz hs)
 rintro J1 w3 J2 hJ hs
 replace hJ:J2=upd (mix (sq 3 10++[2]) J1 _) 2 (.bool ((decide (((s.ents.length:Nat):Int)<=60))&&(decide (((s.ticks.length:Nat):Int)<=60)))):=hJ
 subst hJ
 refine Qau ?_
 refine ⟨_,Qaq (V:=.bool ((decide (((s.ents.length:Nat):Int)<=60))&&(decide (((s.ticks.length:Nat):Int)<=60)))) Tryz.results38 rfl,(Zr hs ?_)⟩
 rfl
end Tt
end Go.Proofs
namespace Go.Proofs
open Go Go.Vx Go.RowKit
namespace Tt
theorem Qlf (w:World) (p:Pst) (a1:Option Addr) (c1:Nat) (a2:Option Addr) (c2:Nat) (a3:Option Addr) (c3:Nat) (hok:Qc0 p) (hle:p.base.ents.length<=400) (hlt:p.base.ticks.length<=400) (hlo:p.ops.length<=400) (hr1:Rd w (.slice a1 p.base.ents.length c1) 7 (p.base.ents.map cec)) (hr2:Rd w (.slice a2 p.base.ticks.length c2) 2 (p.base.ticks.map lsc)) (hr3:Rd w (.slice a3 p.ops.length c3) 23 (p.ops.map oc)):Calls Tryz.prog 13 #[.agg (((vc p.base.known)++[(.slice a1 p.base.ents.length c1:Value),(.slice a2 p.base.ticks.length c2:Value) ])++[(.slice a3 p.ops.length c3:Value) ]++(vc p.known)).toArray] w (fun e w'=>∃ x:(Option Addr × Nat) × (Option Addr × Nat),e = .returned (.agg ((vc p.base.known++[(.slice x.1.1 p.base.ents.length x.1.2:Value),(.slice x.2.1 p.base.ticks.length x.2.2:Value)])++[(.slice a3 p.ops.length c3:Value)]++vc p.known).toArray)/\Own w no w' [row (.slice x.1.1 p.base.ents.length x.1.2) (p.base.ents.map cec) 106 7,row (.slice x.2.1 p.base.ticks.length x.2.2) (p.base.ticks.map lsc) 102 2]/\True):=by
 refine Qaj (n:=11) Tryz.func13 rfl Tryz.ntmps13 rfl ?_
 have hs:=Own.start w
 have ⟨hokb,hoko,hokk⟩:=hok
 refine Qag (Qab (Qaa (QaN (V:=.agg (((vc p.base.known)++[(.slice a1 p.base.ents.length c1:Value),(.slice a2 p.base.ticks.length c2:Value) ])++[(.slice a3 p.ops.length c3:Value) ]++(vc p.known)).toArray) (cs:=((vc p.base.known)++[(.slice a1 p.base.ents.length c1:Value),(.slice a2 p.base.ticks.length c2:Value) ])++[(.slice a3 p.ops.length c3:Value) ]++(vc p.known)) rfl rfl hs fun b1 w2 hs=>(Qaa (QaM (cs:=((vc vzero)++[(.slice none 0 0:Value),(.slice none 0 0:Value) ])++[(.slice none 0 0:Value) ]++(vc vzero)) QtG rfl hs fun b3 w4 hs=>(Qaf (Qag ?_)))))))
 replace hs:=hs.more emp trivial
 replace hs:=hs.more emp trivial
 refine QaI HM [some 3,some 4,some 5,some 6,some 7,some 8,some 9,some 10,none] [[],[],[5],[],[],[],[],[5]] [0,1,3,0,8,0,32,127,255] [pv (Pq b1 (0+0)),pv (.agg ((vc p.base.known)++[(.slice a1 p.base.ents.length c1:Value),(.slice a2 p.base.ticks.length c2:Value) ]).toArray),(true,fun J=>.agg ((vc ((p.base).known))++[(.slice (aOf (Qbq (J 5) 16)) (((p.base).ents).length) (cOf (Qbq (J 5) 16)):Value),(.slice (aOf (Qbq (J 5) 17)) (((p.base).ticks).length) (cOf (Qbq (J 5) 17)):Value) ]).toArray),pv (Pq b1 (0+18)),pv (.slice a3 p.ops.length c3),pv (Pq b1 (0+19)),pv (.agg (vc p.known).toArray),(true,fun J=>.agg (((vc ((p.base).known))++[(.slice (aOf (Qbq (J 5) 16)) (((p.base).ents).length) (cOf (Qbq (J 5) 16)):Value),(.slice (aOf (Qbq (J 5) 17)) (((p.base).ticks).length) (cOf (Qbq (J 5) 17)):Value) ])++[(.slice a3 p.ops.length c3:Value) ]++(vc p.known)).toArray),pn] (fun D J=>[blk b1 (((vc p.base.known)++[(.slice a1 p.base.ents.length c1:Value),(.slice a2 p.base.ticks.length c2:Value) ])++[(.slice a3 p.ops.length c3:Value) ]++(vc p.known)) 31,cond (D 8) (blk b3 (((vc ((p.base).known))++[(.slice (aOf (Qbq (J 5) 16)) (((p.base).ents).length) (cOf (Qbq (J 5) 16)):Value),(.slice (aOf (Qbq (J 5) 17)) (((p.base).ticks).length) (cOf (Qbq (J 5) 17)):Value) ])++[(.slice a3 p.ops.length c3:Value) ]++(vc p.known)) 43) (blk b3 (((vc vzero)++[(.slice none 0 0:Value),(.slice none 0 0:Value) ])++[(.slice none 0 0:Value) ]++(vc vzero)) 43),cond (D 2) (row (.slice (aOf (Qbq (J 5) 16)) (((p.base).ents).length) (cOf (Qbq (J 5) 16))) (((p.base).ents).map cec) 106 7) (emp),cond (D 2) (row (.slice (aOf (Qbq (J 5) 17)) (((p.base).ticks).length) (cOf (Qbq (J 5) 17))) (((p.base).ticks).map lsc) 102 2) (emp)]) [] (by kernel_rfl) hs ⟨?_,?_,?_,?_,?_,?_,?_,?_,?_,trivial⟩ ?_
 ·exact oa [] fun D J w hs=>Qae Qd8 rfl (Zz hs)
 ·exact oa [0] fun D J w hs=>Qb0 (vs:=(vc p.base.known)++[(.slice a1 p.base.ents.length c1:Value),(.slice a2 p.base.ticks.length c2:Value) ]) Qd9 hs 0 rfl rfl rfl rfl (Zz hs)
 ·exact ob [1] [8] rfl rfl fun D J w hs=>Qbh (α:=(Option Addr × Nat) × (Option Addr × Nat)) (vs:=[.agg ((vc p.base.known)++[(.slice a1 p.base.ents.length c1:Value),(.slice a2 p.base.ticks.length c2:Value) ]).toArray]) (V:=fun x:(Option Addr × Nat) × (Option Addr × Nat)=>.agg (vc (p.base).known++[(.slice x.1.1 ((p.base).ents).length x.1.2:Value),(.slice x.2.1 ((p.base).ticks).length x.2.2:Value)]).toArray) (Lo:=fun x=>[row (.slice x.1.1 ((p.base).ents).length x.1.2) (((p.base).ents).map cec) 106 7,row (.slice x.2.1 ((p.base).ticks).length x.2.2) (((p.base).ticks).map lsc) 102 2]) (F:=fun _ _=>True) Qu0 rfl rfl (Qmm _ p.base a1 c1 a2 c2 (by omega) (by omega) (Rd.own' hr1 hs) (Rd.own' hr2 hs)) hs fun _ _ hs _=>⟨rfl,hs.put2 2 3 (QQ8 rfl) (QQ8 rfl)⟩
 ·exact oa [] fun D J w hs=>Qae Qd3 rfl (Zz hs)
 ·exact oa [3] fun D J w hs=>QaE (V:=.slice a3 p.ops.length c3) Qfs hs 0 rfl rfl rfl (Zz hs)
 ·exact oa [] fun D J w hs=>Qae Qnm rfl (Zz hs)
 ·exact oa [5] fun D J w hs=>Qb0 (vs:=vc p.known) QbA hs 0 rfl rfl rfl rfl (Zz hs)
 ·exact oa [2,4,6] fun D J w hs=>QcI (vs:=[(0,.agg ((vc ((p.base).known))++[(.slice (aOf (Qbq (J 5) 16)) (((p.base).ents).length) (cOf (Qbq (J 5) 16)):Value),(.slice (aOf (Qbq (J 5) 17)) (((p.base).ticks).length) (cOf (Qbq (J 5) 17)):Value) ]).toArray),(1,.slice a3 p.ops.length c3),(2,.agg (vc p.known).toArray)]) (cs:=((vc ((p.base).known))++[(.slice (aOf (Qbq (J 5) 16)) (((p.base).ents).length) (cOf (Qbq (J 5) 16)):Value),(.slice (aOf (Qbq (J 5) 17)) (((p.base).ticks).length) (cOf (Qbq (J 5) 17)):Value) ])++[(.slice a3 p.ops.length c3:Value) ]++(vc p.known)) [(vc vzero)++[(.slice none 0 0:Value),(.slice none 0 0:Value) ],[(.slice none 0 0:Value)],vc vzero] [(vc ((p.base).known))++[(.slice (aOf (Qbq (J 5) 16)) (((p.base).ents).length) (cOf (Qbq (J 5) 16)):Value),(.slice (aOf (Qbq (J 5) 17)) (((p.base).ticks).length) (cOf (Qbq (J 5) 17)):Value) ],[(.slice a3 p.ops.length c3:Value)],vc p.known] QsG rfl (rfl) rfl rfl (Zz hs)
 ·exact oa [7] fun D J w hs=>QcK (V:=.agg (((vc ((p.base).known))++[(.slice (aOf (Qbq (J 5) 16)) (((p.base).ents).length) (cOf (Qbq (J 5) 16)):Value),(.slice (aOf (Qbq (J 5) 17)) (((p.base).ticks).length) (cOf (Qbq (J 5) 17)):Value) ])++[(.slice a3 p.ops.length c3:Value) ]++(vc p.known)).toArray) (vs:=((vc ((p.base).known))++[(.slice (aOf (Qbq (J 5) 16)) (((p.base).ents).length) (cOf (Qbq (J 5) 16)):Value),(.slice (aOf (Qbq (J 5) 17)) (((p.base).ticks).length) (cOf (Qbq (J 5) 17)):Value) ])++[(.slice a3 p.ops.length c3:Value) ]++(vc p.known)) (cs':=((vc ((p.base).known))++[(.slice (aOf (Qbq (J 5) 16)) (((p.base).ents).length) (cOf (Qbq (J 5) 16)):Value),(.slice (aOf (Qbq (J 5) 17)) (((p.base).ticks).length) (cOf (Qbq (J 5) 17)):Value) ])++[(.slice a3 p.ops.length c3:Value) ]++(vc p.known)) QeD.1 hs 1 rfl rfl rfl rfl rfl (QQ8 rfl) (QbT (QbT (QbT (QcB _) (Qav rfl (Qav rfl Qbk))) (Qav rfl Qbk)) (QcB _)) (QaB rfl) fun _ hs=>⟨trivial,hs⟩
 rintro J1 w7 J2 hJ hs
 replace hJ:J2=mix (sq 3 8) J1 _:=hJ
 replace hs:Own w no w7 [blk b1 (((vc p.base.known)++[(.slice a1 p.base.ents.length c1:Value),(.slice a2 p.base.ticks.length c2:Value) ])++[(.slice a3 p.ops.length c3:Value) ]++(vc p.known)) 31,blk b3 (((vc ((p.base).known))++[(.slice (aOf (Qbq (J1 5) 16)) (((p.base).ents).length) (cOf (Qbq (J1 5) 16)):Value),(.slice (aOf (Qbq (J1 5) 17)) (((p.base).ticks).length) (cOf (Qbq (J1 5) 17)):Value) ])++[(.slice a3 p.ops.length c3:Value) ]++(vc p.known)) 43,row (.slice (aOf (Qbq (J1 5) 16)) (((p.base).ents).length) (cOf (Qbq (J1 5) 16))) (((p.base).ents).map cec) 106 7,row (.slice (aOf (Qbq (J1 5) 17)) (((p.base).ticks).length) (cOf (Qbq (J1 5) 17))) (((p.base).ticks).map lsc) 102 2]:=hs
 generalize (aOf (Qbq (J1 5) 16))=na8 at hs
 generalize (cOf (Qbq (J1 5) 16))=nc9 at hs
 generalize (aOf (Qbq (J1 5) 17))=na10 at hs
 generalize (cOf (Qbq (J1 5) 17))=nc11 at hs
 subst hJ
 refine Qau ?_
 refine ⟨_,QcH (cs:=((vc ((p.base).known))++[(.slice na8 (((p.base).ents).length) nc9:Value),(.slice na10 (((p.base).ticks).length) nc11:Value) ])++[(.slice a3 p.ops.length c3:Value) ]++(vc p.known)) Tryz.results13 QeD hs 1 rfl rfl rfl,?_⟩
 exact ⟨((na8,nc9),(na10,nc11)),rfl,hs.two 2 3 (by decide) rfl rfl,trivial⟩
theorem Qrw (w:World) (p:Pst) (a1:Option Addr) (c1:Nat) (a2:Option Addr) (c2:Nat) (a3:Option Addr) (c3:Nat) (hr1:Rd w (.slice a1 p.base.ents.length c1) 7 (p.base.ents.map cec)) (hr2:Rd w (.slice a2 p.base.ticks.length c2) 2 (p.base.ticks.map lsc)) (hr3:Rd w (.slice a3 p.ops.length c3) 23 (p.ops.map oc)):Calls Tryz.prog 11 #[.agg (((vc p.base.known)++[(.slice a1 p.base.ents.length c1:Value),(.slice a2 p.base.ticks.length c2:Value) ])++[(.slice a3 p.ops.length c3:Value) ]++(vc p.known)).toArray] w (fun e w'=>e = .returned (.bool (Qhv p.base&&decide (((p.ops.length:Nat):Int)<=30)))/\Own w no w' []):=by
 refine Qaj (n:=12) Tryz.func11 rfl Tryz.ntmps11 rfl ?_
 have hs:=Own.start w
 have hn3:=hr3.sml
 refine Qag (Qab (Qaa (QaN (V:=.agg (((vc p.base.known)++[(.slice a1 p.base.ents.length c1:Value),(.slice a2 p.base.ticks.length c2:Value) ])++[(.slice a3 p.ops.length c3:Value) ]++(vc p.known)).toArray) (cs:=((vc p.base.known)++[(.slice a1 p.base.ents.length c1:Value),(.slice a2 p.base.ticks.length c2:Value) ])++[(.slice a3 p.ops.length c3:Value) ]++(vc p.known)) rfl rfl hs fun b1 w2 hs=>(Qaa (Qad (V:=.bool false) rfl (Qaf (Qag (Qbj [some 3,some 4,some 5,some 6,some 7,some 8,some 9,some 10,some 11,some 2] [] [0,1,3,7,15,31,63,127,255,511] [pv (Pq b1 (0+0)),pv (.agg ((vc p.base.known)++[(.slice a1 p.base.ents.length c1:Value),(.slice a2 p.base.ticks.length c2:Value) ]).toArray),pv (.bool (Qhv p.base)),pv (.bool (Qhv p.base)),pg ((Qhv p.base) == true) (Pq b1 (0+18)),pg ((Qhv p.base) == true) (.slice a3 p.ops.length c3),pg ((Qhv p.base) == true) (I6 ((p.ops.length:Nat):Int)),pg ((Qhv p.base) == true) (.bool (decide (((p.ops.length:Nat):Int)<=30))),pv (.bool ((Qhv p.base)&&(decide (((p.ops.length:Nat):Int)<=30)))),pv (.bool ((Qhv p.base)&&(decide (((p.ops.length:Nat):Int)<=30))))] (fun _ _=>_) [9] (by kernel_rfl) hs ⟨?_,?_,?_,?_,?_,?_,?_,?_,?_,?_,trivial⟩ ?_))))))))
 ·exact oa [] fun D J w hs=>Qae Qd8 rfl (Zz hs)
 ·exact oa [0] fun D J w hs=>Qb0 (vs:=(vc p.base.known)++[(.slice a1 p.base.ents.length c1:Value),(.slice a2 p.base.ticks.length c2:Value) ]) Qd9 hs 0 rfl rfl rfl rfl (Zz hs)
 ·exact oa [1] fun D J w hs=>Qat (vs:=[.agg ((vc p.base.known)++[(.slice a1 p.base.ents.length c1:Value),(.slice a2 p.base.ticks.length c2:Value) ]).toArray]) (V:=.bool (Qhv p.base)) Qvy rfl rfl (Quw _ p.base a1 c1 a2 c2 (Rd.own' hr1 hs) (Rd.own' hr2 hs)) hs fun _ hs=>Zz hs
 ·exact oa [2] fun D J w hs=>Qac (V:=.bool (Qhv p.base)) rfl (Zz hs)
 ·exact og [3] fun D J w hG hs=>Qae Qd3 rfl (Zz hs)
 ·exact oy [3,4] [4] fun D J w hG hs=>QaE (V:=.slice a3 p.ops.length c3) Qfs hs 0 rfl rfl rfl (Zz hs)
 ·exact oy [3,5] [5] fun D J w hG hs=>Qa2 (n:=p.ops.length) QdK (Rd.own' hr3 hs) (by simp) rfl (Zz hs)
 ·exact oy [3,6] [6] fun D J w hG hs=>Qdn rfl rfl (Zz hs)
 ·exact oa [3,7] fun D J w hs=>Qa4 (h':=decide (((p.ops.length:Nat):Int)<=30)) rfl rfl rfl (Zz hs)
 ·exact oa [8] fun D J w hs=>Qad (V:=.bool ((Qhv p.base)&&(decide (((p.ops.length:Nat):Int)<=30)))) rfl (Zz hs)
 rintro J1 w4 J2 hJ hs
 replace hJ:J2=upd (mix (sq 3 9++[2]) J1 _) 2 (.bool ((Qhv p.base)&&(decide (((p.ops.length:Nat):Int)<=30)))):=hJ
 subst hJ
 refine Qau ?_
 refine ⟨_,Qaq (V:=.bool ((Qhv p.base)&&(decide (((p.ops.length:Nat):Int)<=30)))) Tryz.results11 rfl,(Zr hs ?_)⟩
 rfl
end Tt
end Go.Proofs
namespace Go.Proofs
open Go Go.Vx Go.RowKit
namespace Tt
theorem Qf0 (w:World) (s:Sta) (a1:Option Addr) (c1:Nat) (a2:Option Addr) (c2:Nat) (hok:Qdz s) (hle:s.ents.length<=1000) (hlt:s.ticks.length<=1000) (hr1:Rd w (.slice a1 s.ents.length c1) 7 (s.ents.map cec)) (hr2:Rd w (.slice a2 s.ticks.length c2) 2 (s.ticks.map lsc)):Calls Tryz.prog 73 #[.agg ((vc s.known)++[(.slice a1 s.ents.length c1:Value),(.slice a2 s.ticks.length c2:Value) ]).toArray] w (fun e w'=>e = .returned (.bool (Qas s))/\Own w no w' []):=by
 refine Qaj (n:=107) Tryz.func73 rfl Tryz.ntmps73 rfl ?_
 have hs:=Own.start w
 have ⟨hv0,hE0,hT0⟩:=hok
 have hn1:=hr1.sml
 have hn2:=hr2.sml
 refine Qag (Qab (Qaa (QaN (V:=.agg ((vc s.known)++[(.slice a1 s.ents.length c1:Value),(.slice a2 s.ticks.length c2:Value) ]).toArray) (cs:=(vc s.known)++[(.slice a1 s.ents.length c1:Value),(.slice a2 s.ticks.length c2:Value) ]) rfl rfl hs fun b1 w2 hs=>(Qaa (Qad (V:=.bool false) rfl (Qaf (Qag (Qag (Qab (Qaa (Qae QhW rfl (Qaa (Qb0 (vs:=vc s.known) QbA hs 0 rfl rfl rfl rfl (Qaa (Qat (vs:=[.agg (vc s.known).toArray,I6 16]) (V:=.bool (QaK s.known 16)) Qrf rfl rfl ?hc hs fun w3 hs=>?_)))))))))))))))
 case hc=>exact (Qf1 _ s.known 16 (by first|assumption|exact Qca))
 refine Qaa (Qbz rfl (Qaf (Qan (t:=!(QaK s.known 16)) rfl (fun c4=>?_) (fun c4=>?_))))
 ·
  replace c4:=Qbn c4
  refine Qag (Qab (Qaa (Qad (V:=.bool false) rfl (Qaf (Qau ?_)))))
  refine ⟨_,Qaq (V:=.bool false) Tryz.results73 rfl,(Zr hs ?_)⟩
  exact congrArg Value.bool (Qlw c4).symm
 replace c4:=Qbf c4
 refine Qap (Qag (Qag (Qab (Qaa (Qae Qdr rfl (Qaa (QaE (V:=.slice a2 s.ticks.length c2) QgZ hs 0 rfl rfl rfl (Qaa (Qa2 (n:=s.ticks.length) Qgi (Rd.own' hr2 hs) (by simp) rfl (Qaa (Qac (V:=I6 0) rfl (Qaf (Qam (QaA (fun J μ J' w'=>∃ (Jo:Env) (k:Nat),J'=upd (mix ([2,3,4]++sq 19 25) Jo J) 19 (I6 (k:Int))/\(k<=s.ticks.length)/\(∀ j:Nat,j<k->Qjm s.ticks j=false)/\μ=s.ticks.length-k/\Own w no w' [blk b1 ((vc s.known)++[(.slice a1 s.ents.length c1:Value),(.slice a2 s.ticks.length c2:Value) ]) 38]) ?_ ?_))))))))))))))
 ·exact ⟨_,_,0,Qai (Qao (ds:=([2,3,4]++sq 19 25)) (Agr.refl _ _)) rfl,(by omega),(fun j hj=>absurd hj (Nat.not_lt_zero j)),rfl,hs⟩
 rintro μ J' w5 ⟨Jo,k,rfl,hk,hbt,rfl,hs⟩
 refine Qag (Qab (Qaa (QaQ rfl rfl (Qaf (Qag (Qan (t:=decide ((k:Int)<((s.ticks.length:Nat):Int))) rfl (fun c6=>?_) (fun c6=>?_)))))))
 ·
  replace c6:=QQ1 c6
  refine Qap (Qag (Qam (Qag (Qab (Qaa (Qac (V:=I6 (k:Int)) rfl (Qaa (Qaw Qgi Qc8.1 (Rd.own' hr2 hs) rfl rfl (by omega) (by rw [QQ6];omega) (Qaa (Qa1 (j:=0) (vs:=lsc (gd s.ticks k)) k Qc8 (Rd.own' hr2 hs) (QaT (by omega)) rfl rfl rfl (by omega) (Qaa (QaM (cs:=lsc (⟨0,0⟩:Lst)) QlN rfl hs fun b7 w8 hs=>(Qaa (Qad (V:=I6 (k:Int)) rfl (Qaa (QcK (V:=.agg (lsc (gd s.ticks k)).toArray) (vs:=lsc (gd s.ticks k)) (cs':=lsc (gd s.ticks k)) Qc8.1 hs 1 rfl rfl rfl rfl rfl (QQ8 rfl) (QbZ _) (QaB rfl) fun w9 hs=>(Qaf (Qag (QaI HM [some 24,some 25,some 26,some 27,some 28,some 29,some 30,some 31,some 32,some 33,some 34,some 35,some 36,some 37,some 38,some 39,some 40,some 41,some 42] [] [0,1,3,7,15,31,63,127,255,127,639,2047,4095,8191,127,16511,65535,131071,262143] [pv (Pq b7 (0+1)),pv (.int .u32 ((gd s.ticks k).tick)),pv (.bool (decide (1073741824<(gd s.ticks k).tick))),pv (.bool (decide (1073741824<(gd s.ticks k).tick))),pg ((decide (1073741824<(gd s.ticks k).tick)) == false) (I6 (k:Int)),pg ((decide (1073741824<(gd s.ticks k).tick)) == false) (.bool (decide (0<(k:Int)))),pg ((decide (1073741824<(gd s.ticks k).tick)) == false) (.bool (decide (0<(k:Int)))),pg (((decide (1073741824<(gd s.ticks k).tick)) == false)&&((decide (0<(k:Int))) == true)) (Pq b1 (0+17)),pg (((decide (1073741824<(gd s.ticks k).tick)) == false)&&((decide (0<(k:Int))) == true)) (.slice a2 s.ticks.length c2),pg (((decide (1073741824<(gd s.ticks k).tick)) == false)&&((decide (0<(k:Int))) == true)) (I6 (k:Int)),pg (((decide (1073741824<(gd s.ticks k).tick)) == false)&&((decide (0<(k:Int))) == true)) (I6 ((k-1:Nat):Int)),pg (((decide (1073741824<(gd s.ticks k).tick)) == false)&&((decide (0<(k:Int))) == true)) (.pointer (some ⟨bkS (.slice a2 s.ticks.length c2),ofS (.slice a2 s.ticks.length c2)+((k-1:Nat):Int).toNat*2,none⟩)),pg (((decide (1073741824<(gd s.ticks k).tick)) == false)&&((decide (0<(k:Int))) == true)) (.pointer (some ⟨bkS (.slice a2 s.ticks.length c2),ofS (.slice a2 s.ticks.length c2)+((k-1:Nat):Int).toNat*2+0,none⟩)),pg (((decide (1073741824<(gd s.ticks k).tick)) == false)&&((decide (0<(k:Int))) == true)) (I7 ((gd s.ticks (k-1)).cart)),pg (((decide (1073741824<(gd s.ticks k).tick)) == false)&&((decide (0<(k:Int))) == true)) (Pq b7 (0+0)),pg (((decide (1073741824<(gd s.ticks k).tick)) == false)&&((decide (0<(k:Int))) == true)) (I7 ((gd s.ticks k).cart)),pg (((decide (1073741824<(gd s.ticks k).tick)) == false)&&((decide (0<(k:Int))) == true)) (.bool (decide ((gd s.ticks k).cart<=(gd s.ticks (k-1)).cart))),pg ((decide (1073741824<(gd s.ticks k).tick)) == false) (.bool ((decide (0<(k:Int)))&&(decide ((gd s.ticks k).cart<=(gd s.ticks (k-1)).cart)))),pv (.bool ((decide (1073741824<(gd s.ticks k).tick))||((decide (0<(k:Int)))&&(decide ((gd s.ticks k).cart<=(gd s.ticks (k-1)).cart)))))] (fun _ _=>_) [18] (by kernel_rfl) hs ⟨?_,?_,?_,?_,?_,?_,?_,?_,?_,?_,?_,?_,?_,?_,?_,?_,?_,?_,?_,trivial⟩ ?_)))))))))))))))))))
  ·exact oa [] fun D J w hs=>Qae Qh0 rfl (Zz hs)
  ·exact oa [0] fun D J w hs=>QaE (V:=.int .u32 ((gd s.ticks k).tick)) Qa6 hs 1 rfl rfl rfl (Zz hs)
  ·exact oa [1] fun D J w hs=>QbY rfl rfl (Zz hs)
  ·exact oa [2] fun D J w hs=>Qac (V:=.bool (decide (1073741824<(gd s.ticks k).tick))) rfl (Zz hs)
  ·exact og [3] fun D J w hG hs=>Qac (V:=.int .i64 (k:Int)) rfl (Zz hs)
  ·exact oy [3,4] [4] fun D J w hG hs=>QbY rfl rfl (Zz hs)
  ·exact oy [3,5] [5] fun D J w hG hs=>Qac (V:=.bool (decide (0<(k:Int)))) rfl (Zz hs)
  ·exact og [6] fun D J w hG hs=>Qae Qdr rfl (Zz hs)
  ·exact oy [6,7] [7] fun D J w hG hs=>QaE (V:=.slice a2 s.ticks.length c2) QgZ hs 0 rfl rfl rfl (Zz hs)
  ·exact og [6] fun D J w hG hs=>Qac (V:=.int .i64 (k:Int)) rfl (Zz hs)
  ·refine oy [6,9] [9] fun D J w hG hs=>?_
   have hgd0:=QQ2 (eq_of_beq (QbD (hG)))
   have hgd1:=QQ1 (eq_of_beq (QbF (hG)))
   exact Qa7 (a:=(k:Int)) (b:=1) (c:=((k-1:Nat):Int)) rfl rfl (Qak (by omega) (by omega)) (Zz hs)
  ·refine oy [6,8,10] [8,10] fun D J w hG hs=>?_
   have hgd0:=QQ2 (eq_of_beq (QbD (hG)))
   have hgd1:=QQ1 (eq_of_beq (QbF (hG)))
   exact Qaw Qgi Qc8.1 (Rd.own' hr2 hs) rfl rfl (by omega) (by rw [QQ6];omega) (Zz hs)
  ·exact oy [6,11] [11] fun D J w hG hs=>Qae Qe1 rfl (Zz hs)
  ·refine oy [6,12] [12] fun D J w hG hs=>?_
   have hgd0:=QQ2 (eq_of_beq (QbD (hG)))
   have hgd1:=QQ1 (eq_of_beq (QbF (hG)))
   exact QaR (j:=0) (V:=.int .u16 ((gd s.ticks (k-1)).cart)) (k-1) Qar (Rd.own' hr2 hs) (QaT (by omega)) rfl rfl (by omega) (Zz hs)
  ·exact og [6] fun D J w hG hs=>Qae Qe1 rfl (Zz hs)
  ·exact oy [6,14] [14] fun D J w hG hs=>QaE (V:=.int .u16 ((gd s.ticks k).cart)) Qar hs 1 rfl rfl rfl (Zz hs)
  ·exact oy [6,13,15] [13,15] fun D J w hG hs=>Qcz rfl rfl (Zz hs)
  ·exact oy [3,6,16] [6] fun D J w hG hs=>Qgz (h':=decide ((gd s.ticks k).cart<=(gd s.ticks (k-1)).cart)) (G:=((decide (1073741824<(gd s.ticks k).tick)) == false)) hG rfl rfl rfl (Zz hs)
  ·exact oa [3,17] fun D J w hs=>Qb4 (h':=(decide (0<(k:Int)))&&(decide ((gd s.ticks k).cart<=(gd s.ticks (k-1)).cart))) rfl rfl rfl (Zz hs)
  rintro J1 w10 J2 hJ hs
  replace hJ:J2=upd (mix (sq 24 19) J1 _) 42 (.bool ((decide (1073741824<(gd s.ticks k).tick))||((decide (0<(k:Int)))&&(decide ((gd s.ticks k).cart<=(gd s.ticks (k-1)).cart))))):=hJ
  subst hJ
  refine Qan (t:=(decide (1073741824<(gd s.ticks k).tick))||((decide (0<(k:Int)))&&(decide ((gd s.ticks k).cart<=(gd s.ticks (k-1)).cart)))) rfl (fun c11=>?_) (fun c11=>?_)
  ·
   refine Qag (Qab (Qaa (Qad (V:=.bool false) rfl (Qaf (Qau ?_)))))
   refine ⟨_,Qaq (V:=.bool false) Tryz.results73 rfl,(Zr hs ?_)⟩
   exact congrArg Value.bool (Qg7 (i:=k) (by omega) (by unfold Qjm;have hq:=c11;simpa using hq)).symm
  have c11r:=Qfk c11
  replace c11:=Qfj c11
  replace c11:=QQ2 c11
  refine Qap (Qab (Qaa (QaD (a:=(k:Int)) (b:=1) (c:=((k+1:Nat):Int)) rfl rfl (Qak (by omega) (by omega)) (Qaa (Qac (V:=I6 ((k+1:Nat):Int)) rfl (Qaf ?_))))))
  refine ⟨_,?_,_,k+1,Qai (Qao (ds:=([2,3,4]++sq 19 25)) (by repeat (first|exact Agr.refl _ _|refine Agr.upd ?_ rfl|refine Agr.mix ?_ rfl))) rfl,(by omega),(Qb8 hbt (by unfold Qjm;rw [QQ4 c11,Bool.false_or];have hq:=c11r;simpa using hq)),rfl,hs.take 1⟩
  omega
 replace c6:=QQ2 c6
 refine QaF (Qag (Qab (Qaa (Qgp rfl hs dv uv fun mr12 w13 hs=>(Qaa (Qad (V:=.map (some mr12)) rfl (Qaf (Qag (Qag (Qab (Qaa (Qae QeH rfl (Qaa (QaE (V:=.slice a1 s.ents.length c1) QjH hs 0 rfl rfl rfl (Qaa (Qa2 (n:=s.ents.length) QbM (Rd.own' hr1 hs) (by simp) rfl (Qaa (Qac (V:=I6 0) rfl (Qaf (Qam ?_))))))))))))))))))))
 have hbt2:=fun j (hj:j<s.ticks.length)=>hbt j (by omega)
 have hT:QdS s.ticks:=by have:=Qqv (Nat.le_refl _) hbt2;rwa [List.take_length] at this
 refine QaA (fun J μ J' w'=>∃ (Jo:Env) (k2:Nat) (sm:List (Dot × Unit)),J'=upd (mix ([2]++sq 6 6++sq 48 59) Jo J) 48 (I6 (k2:Int))/\(k2<=s.ents.length)/\(∀ j:Nat,j<k2->QgN s j=false)/\(sm=Qio (s.ents.take k2))/\μ=s.ents.length-k2/\Own w no w' [blk b1 ((vc s.known)++[(.slice a1 s.ents.length c1:Value),(.slice a2 s.ticks.length c2:Value) ]) 38,QgV mr12 dv uv sm]) ?_ ?_
 ·exact ⟨_,_,0,[],Qai (Qao (ds:=([2]++sq 6 6++sq 48 59)) (Agr.refl _ _)) rfl,(by omega),(fun j hj=>absurd hj (Nat.not_lt_zero j)),rfl,rfl,hs⟩
 rintro μ J' w14 ⟨Jo,k2,sm,rfl,hk2,hbe,hsm,rfl,hs⟩
 refine Qag (Qab (Qaa (QaQ rfl rfl (Qaf (Qag (Qan (t:=decide ((k2:Int)<((s.ents.length:Nat):Int))) rfl (fun c15=>?_) (fun c15=>?_)))))))
 ·
  replace c15:=QQ1 c15
  refine Qap (Qag (Qam (Qag (Qab (Qaa (Qac (V:=I6 (k2:Int)) rfl (Qaa (Qaw QbM QaH.1 (Rd.own' hr1 hs) rfl rfl (by omega) (by rw [QQ6];omega) (Qaa (Qa1 (j:=0) (vs:=cec (gd s.ents k2)) k2 QaH (Rd.own' hr1 hs) (QaT (by omega)) rfl rfl rfl (by omega) (Qaa (QaM (cs:=cec (⟨0,0,0,0,(⟨0,0⟩:Dot),0⟩:Cen)) Qhu rfl hs fun b16 w17 hs=>(Qaa (Qad (V:=I6 (k2:Int)) rfl (Qaa (QcK (V:=.agg (cec (gd s.ents k2)).toArray) (vs:=cec (gd s.ents k2)) (cs':=cec (gd s.ents k2)) QaH.1 hs 2 rfl rfl rfl rfl rfl (QQ8 rfl) (Qa8 _) (QaB rfl) fun w18 hs=>?_))))))))))))))))
  replace hs:Own w no w18 [blk b1 ((vc s.known)++[(.slice a1 s.ents.length c1:Value),(.slice a2 s.ticks.length c2:Value) ]) 38,QgV mr12 dv uv sm,blk b16 (cec (gd s.ents k2)) 106]:=hs
  refine Qaf (Qag ?_)
  have hce:=hE0 _ (QbK (l:=s.ents) (i:=k2) (by omega))
  have ⟨_,_,_,_,hdk,_⟩:=hce
  refine Qab (Qaa (QaG (cs:=(vc s.known)++[(.slice a1 s.ents.length c1:Value),(.slice a2 s.ticks.length c2:Value) ]) QcJ hs 0 rfl rfl rfl (Qaa (Qae QdL rfl (Qaa (QaE (V:=I7 ((gd s.ents k2).cart)) Qar hs 2 rfl rfl rfl (Qaa (Qat (vs:=[.agg ((vc s.known)++[(.slice a1 s.ents.length c1:Value),(.slice a2 s.ticks.length c2:Value) ]).toArray,I7 ((gd s.ents k2).cart)]) (V:=.tuple #[I6 ((QeB s.ticks ((gd s.ents k2).cart):Nat):Int),.bool ((QaC s.ticks ((gd s.ents k2).cart)).isSome)]) Qtx rfl rfl ?hc hs fun w19 hs=>?_))))))))
  case hc=>exact (QkF _ s.known (.slice a1 s.ents.length c1) a2 c2 s.ticks ((gd s.ents k2).cart) (by omega) hT (Rd.own' hr2 hs))
  refine Qaa (Qac (V:=.tuple #[I6 ((QeB s.ticks ((gd s.ents k2).cart):Nat):Int),.bool ((QaC s.ticks ((gd s.ents k2).cart)).isSome)]) rfl (Qaa (Qax (V:=I6 ((QeB s.ticks ((gd s.ents k2).cart):Nat):Int)) rfl rfl (Qaa (Qax (V:=.bool ((QaC s.ticks ((gd s.ents k2).cart)).isSome)) rfl rfl (Qaa (Qad (V:=I6 ((QeB s.ticks ((gd s.ents k2).cart):Nat):Int)) rfl (Qaa (Qad (V:=.bool ((QaC s.ticks ((gd s.ents k2).cart)).isSome)) rfl (Qaf (Qag (Qab (Qaa (Qac (V:=.map (some mr12)) rfl (Qaa (Qae QbO rfl (Qaa (Qb0 (vs:=dc ((gd s.ents k2).dot)) QcR hs 2 rfl rfl rfl rfl (Qaa (Qgd (k:=(gd s.ents k2).dot) Qkt Qoh Qkh (hs.mapf 1 rfl) rfl rfl (Qaa (Qac (V:=.tuple #[.agg #[],.bool ((mget ((gd s.ents k2).dot) sm).isSome)]) rfl (Qaa (Qax (V:=.agg #[]) rfl rfl (Qaa (Qax (V:=.bool ((mget ((gd s.ents k2).dot) sm).isSome)) rfl rfl (Qaa (QaM (cs:=[]) Qkh rfl hs fun b20 w21 hs=>(Qaa (QcK (V:=.agg #[]) (vs:=[]) (cs':=[]) Qp5.1 hs 3 rfl rfl rfl rfl rfl (QQ8 rfl) Qbk (QaB rfl) fun w22 hs=>(Qaa (Qad (V:=.bool ((mget ((gd s.ents k2).dot) sm).isSome)) rfl (Qaf (Qag (Qam (Qag (Qag (Qab (Qaa (Qac (V:=.bool ((QaC s.ticks ((gd s.ents k2).cart)).isSome)) rfl (Qaa (Qbz rfl (Qaa (Qad (V:=.bool (!((QaC s.ticks ((gd s.ents k2).cart)).isSome))) rfl (Qaf (Qan (t:=!((QaC s.ticks ((gd s.ents k2).cart)).isSome)) rfl (fun c23=>?_) (fun c23=>?_)))))))))))))))))))))))))))))))))))))))))))))))
  ·
   replace c23:=Qbn c23
   refine Qap (Qdp (congrArg Value.bool (by rw [c23];rfl)) ?_)
   refine Qag (Qab (Qaa (Qad (V:=.bool false) rfl (Qaf (Qau ?_)))))
   refine ⟨_,Qaq (V:=.bool false) Tryz.results73 rfl,(Zr hs (congrArg Value.bool (Qcp (i:=k2) (by omega) ?_).symm))⟩
   unfold QgN Qdu;rw [c23];simp
  replace c23:=Qbf c23
  refine Qag (Qab (Qaa (Qac (V:=.bool ((mget ((gd s.ents k2).dot) sm).isSome)) rfl (Qaa (Qad (V:=.bool ((mget ((gd s.ents k2).dot) sm).isSome)) rfl (Qaf (Qan (t:=(mget ((gd s.ents k2).dot) sm).isSome) rfl (fun c24=>?_) (fun c24=>?_))))))))
  ·
   refine Qap (Qdp (congrArg Value.bool c24) ?_)
   refine Qag (Qab (Qaa (Qad (V:=.bool false) rfl (Qaf (Qau ?_)))))
   refine ⟨_,Qaq (V:=.bool false) Tryz.results73 rfl,(Zr hs (congrArg Value.bool (Qcp (i:=k2) (by omega) ?_).symm))⟩
   unfold QgN;rw [← QiE,← hsm,c24];simp
  refine Qag (Qab (Qaa (QaG (cs:=cec (gd s.ents k2)) QaH hs 2 rfl rfl rfl (Qaa (Qat (vs:=[.agg (cec (gd s.ents k2)).toArray]) (V:=.bool (QaU (gd s.ents k2))) Qta rfl rfl ?hc hs fun w25 hs=>?_)))))
  case hc=>exact (Qlj _ (gd s.ents k2) (by assumption))
  refine Qaa (Qbz rfl (Qaa (Qad (V:=.bool (!(QaU (gd s.ents k2)))) rfl (Qaf (Qan (t:=!(QaU (gd s.ents k2))) rfl (fun c26=>?_) (fun c26=>?_))))))
  ·
   replace c26:=Qbn c26
   refine Qap (Qdp (congrArg Value.bool (by rw [c26];rfl)) ?_)
   refine Qag (Qab (Qaa (Qad (V:=.bool false) rfl (Qaf (Qau ?_)))))
   refine ⟨_,Qaq (V:=.bool false) Tryz.results73 rfl,(Zr hs (congrArg Value.bool (Qcp (i:=k2) (by omega) ?_).symm))⟩
   unfold QgN Qdu;rw [c26];simp
  replace c26:=Qbf c26
  refine Qag (Qab (Qaa (Qae QhW rfl (Qaa (Qb0 (vs:=vc s.known) QbA hs 0 rfl rfl rfl rfl (Qaa (Qae QbO rfl (Qaa (Qb0 (vs:=dc ((gd s.ents k2).dot)) QcR hs 2 rfl rfl rfl rfl (Qaa (Qat (vs:=[.agg (vc s.known).toArray,.agg (dc ((gd s.ents k2).dot)).toArray]) (V:=.bool (QbB s.known ((gd s.ents k2).dot))) Qn3 rfl rfl ?hc hs fun w27 hs=>?_)))))))))))
  case hc=>exact (QhS _ s.known ((gd s.ents k2).dot) (by first|assumption|exact Qdl (by omega) (by omega) (by omega) (by omega)))
  refine Qaa (Qbz rfl (Qaa (Qad (V:=.bool (!(QbB s.known ((gd s.ents k2).dot)))) rfl (Qaf (Qan (t:=!(QbB s.known ((gd s.ents k2).dot))) rfl (fun c28=>?_) (fun c28=>?_))))))
  ·
   replace c28:=Qbn c28
   refine Qap (Qdp (congrArg Value.bool (by rw [c28];rfl)) ?_)
   refine Qag (Qab (Qaa (Qad (V:=.bool false) rfl (Qaf (Qau ?_)))))
   refine ⟨_,Qaq (V:=.bool false) Tryz.results73 rfl,(Zr hs (congrArg Value.bool (Qcp (i:=k2) (by omega) ?_).symm))⟩
   unfold QgN Qdu;rw [c28];simp
  replace c28:=Qbf c28
  refine Qbj [some 80,some 81,some 82,some 83,some 84,some 85,some 86,some 87,some 67] [] [0,1,3,7,15,31,63,127,255] [pv (Pq b16 (0+6)),pv (.int .u64 ((gd s.ents k2).count)),pv (.bool (decide ((gd s.ents k2).count<1))),pv (.bool (decide ((gd s.ents k2).count<1))),pg ((decide ((gd s.ents k2).count<1)) == false) (Pq b16 (0+6)),pg ((decide ((gd s.ents k2).count<1)) == false) (.int .u64 ((gd s.ents k2).count)),pg ((decide ((gd s.ents k2).count<1)) == false) (.bool (decide (16777217<(gd s.ents k2).count))),pv (.bool ((decide ((gd s.ents k2).count<1))||(decide (16777217<(gd s.ents k2).count)))),pv (.bool ((decide ((gd s.ents k2).count<1))||(decide (16777217<(gd s.ents k2).count))))] (fun _ _=>_) [8] (by kernel_rfl) hs ⟨?_,?_,?_,?_,?_,?_,?_,?_,?_,trivial⟩ ?_
  ·exact oa [] fun D J w hs=>Qae QfS rfl (Zz hs)
  ·exact oa [0] fun D J w hs=>QaE (V:=.int .u64 ((gd s.ents k2).count)) QeA hs 2 rfl rfl rfl (Zz hs)
  ·exact oa [1] fun D J w hs=>QaQ rfl rfl (Zz hs)
  ·exact oa [2] fun D J w hs=>Qac (V:=.bool (decide ((gd s.ents k2).count<1))) rfl (Zz hs)
  ·exact og [3] fun D J w hG hs=>Qae QfS rfl (Zz hs)
  ·exact oy [3,4] [4] fun D J w hG hs=>QaE (V:=.int .u64 ((gd s.ents k2).count)) QeA hs 2 rfl rfl rfl (Zz hs)
  ·exact oy [3,5] [5] fun D J w hG hs=>QbY rfl rfl (Zz hs)
  ·exact oa [3,6] fun D J w hs=>Qb4 (h':=decide (16777217<(gd s.ents k2).count)) rfl rfl rfl (Zz hs)
  ·exact oa [7] fun D J w hs=>Qad (V:=.bool ((decide ((gd s.ents k2).count<1))||(decide (16777217<(gd s.ents k2).count)))) rfl (Zz hs)
  rintro J1 w29 J2 hJ hs
  replace hJ:J2=upd (mix (sq 80 8++[67]) J1 _) 67 (.bool ((decide ((gd s.ents k2).count<1))||(decide (16777217<(gd s.ents k2).count)))):=hJ
  subst hJ
  refine Qan (t:=(decide ((gd s.ents k2).count<1))||(decide (16777217<(gd s.ents k2).count))) rfl (fun c30=>?_) (fun c30=>?_)
  ·
   refine Qag (Qab (Qaa (Qad (V:=.bool false) rfl (Qaf (Qau ?_)))))
   refine ⟨_,Qaq (V:=.bool false) Tryz.results73 rfl,(Zr hs (congrArg Value.bool (Qcp (i:=k2) (by omega) ?_).symm))⟩
   have hq:=c30
   unfold QgN Qdu
   rcases Int.lt_or_le (gd s.ents k2).count 1 with q|q
   ·rw [QQ4 (p:=1<=_) (by omega)];simp
   rw [QQ4 (p:=_<=16777217) (by simp at hq;omega)];simp
  have c30r:=Qfk c30
  replace c30:=Qfj c30
  replace c30:=QQ2 c30
  replace c30r:=QQ2 c30r
  refine Qag (QaI HM [some 89,some 90,some 91,some 92,some 93,some 94,some 95,some 96,some 97,some 98,some 99,some 100,some 101,some 88] [] [0,1,3,7,15,7,39,127,255,7,1023,2047,4095,8191] [pv (I6 (k2:Int)),pv (.bool (decide (0<(k2:Int)))),pv (.bool (decide (0<(k2:Int)))),pg ((decide (0<(k2:Int))) == true) (Pq b1 (0+16)),pg ((decide (0<(k2:Int))) == true) (.slice a1 s.ents.length c1),pg ((decide (0<(k2:Int))) == true) (I6 (k2:Int)),pg ((decide (0<(k2:Int))) == true) (I6 ((k2-1:Nat):Int)),pg ((decide (0<(k2:Int))) == true) (.pointer (some ⟨bkS (.slice a1 s.ents.length c1),ofS (.slice a1 s.ents.length c1)+((k2-1:Nat):Int).toNat*7,none⟩)),pg ((decide (0<(k2:Int))) == true) (.agg (cec (gd s.ents (k2-1))).toArray),pg ((decide (0<(k2:Int))) == true) (.agg (cec (gd s.ents k2)).toArray),pg ((decide (0<(k2:Int))) == true) (I6 (QcD (gd s.ents (k2-1)) (gd s.ents k2))),pg ((decide (0<(k2:Int))) == true) (.bool (decide (0<=QcD (gd s.ents (k2-1)) (gd s.ents k2)))),pv (.bool ((decide (0<(k2:Int)))&&(decide (0<=QcD (gd s.ents (k2-1)) (gd s.ents k2))))),pv (.bool ((decide (0<(k2:Int)))&&(decide (0<=QcD (gd s.ents (k2-1)) (gd s.ents k2)))))] (fun _ _=>_) [13] (by kernel_rfl) hs ⟨?_,?_,?_,?_,?_,?_,?_,?_,?_,?_,?_,?_,?_,?_,trivial⟩ ?_)
  ·exact oa [] fun D J w hs=>Qac (V:=.int .i64 (k2:Int)) rfl (Zz hs)
  ·exact oa [0] fun D J w hs=>QbY rfl rfl (Zz hs)
  ·exact oa [1] fun D J w hs=>Qac (V:=.bool (decide (0<(k2:Int)))) rfl (Zz hs)
  ·exact og [2] fun D J w hG hs=>Qae QeH rfl (Zz hs)
  ·exact oy [2,3] [3] fun D J w hG hs=>QaE (V:=.slice a1 s.ents.length c1) QjH hs 0 rfl rfl rfl (Zz hs)
  ·exact og [2] fun D J w hG hs=>Qac (V:=.int .i64 (k2:Int)) rfl (Zz hs)
  ·refine oy [2,5] [5] fun D J w hG hs=>?_
   have hgd:=QQ1 (eq_of_beq (hG))
   exact Qa7 (a:=(k2:Int)) (b:=1) (c:=((k2-1:Nat):Int)) rfl rfl (Qak (by omega) (by omega)) (Zz hs)
  ·refine oy [2,4,6] [4,6] fun D J w hG hs=>?_
   have hgd:=QQ1 (eq_of_beq (hG))
   exact Qaw QbM QaH.1 (Rd.own' hr1 hs) rfl rfl (by omega) (by rw [QQ6];omega) (Zz hs)
  ·refine oy [2,7] [7] fun D J w hG hs=>?_
   have hgd:=QQ1 (eq_of_beq (hG))
   exact Qa1 (j:=0) (vs:=cec (gd s.ents (k2-1))) (k2-1) QaH (Rd.own' hr1 hs) (QaT (by omega)) rfl rfl rfl (by omega) (Zz hs)
  ·exact og [2] fun D J w hG hs=>QaG (cs:=cec (gd s.ents k2)) QaH hs 2 rfl rfl rfl (Zz hs)
  ·exact oy [2,8,9] [8,9] fun D J w hG hs=>Qat (vs:=[.agg (cec (gd s.ents (k2-1))).toArray,.agg (cec (gd s.ents k2)).toArray]) (V:=.int .i64 (QcD (gd s.ents (k2-1)) (gd s.ents k2))) Qtn rfl rfl (Qo1 _ (gd s.ents (k2-1)) (gd s.ents k2)) hs fun _ hs=>Zz hs
  ·exact oy [2,10] [10] fun D J w hG hs=>Qcz rfl rfl (Zz hs)
  ·exact oa [2,11] fun D J w hs=>Qa4 (h':=decide (0<=QcD (gd s.ents (k2-1)) (gd s.ents k2))) rfl rfl rfl (Zz hs)
  ·exact oa [12] fun D J w hs=>Qad (V:=.bool ((decide (0<(k2:Int)))&&(decide (0<=QcD (gd s.ents (k2-1)) (gd s.ents k2))))) rfl (Zz hs)
  rintro J1 w32 J2 hJ hs
  replace hJ:J2=upd (mix (sq 89 13++[88]) J1 _) 88 (.bool ((decide (0<(k2:Int)))&&(decide (0<=QcD (gd s.ents (k2-1)) (gd s.ents k2))))):=hJ
  subst hJ
  refine Qan (t:=(decide (0<(k2:Int)))&&(decide (0<=QcD (gd s.ents (k2-1)) (gd s.ents k2)))) rfl (fun c33=>?_) (fun c33=>?_)
  ·
   have c33r:=QbF c33
   replace c33:=QbD c33
   replace c33:=QQ1 c33
   replace c33r:=QQ1 c33r
   refine Qag (Qab (Qaa (Qad (V:=.bool false) rfl (Qaf (Qau ?_)))))
   refine ⟨_,Qaq (V:=.bool false) Tryz.results73 rfl,(Zr hs (congrArg Value.bool (Qcp (i:=k2) (by omega) ?_).symm))⟩
   have hq:=QQ3 c33r
   rw [Qks] at hq
   unfold QgN
   rw [hq,QQ3 (by omega:0<k2)]
   simp
  refine Qap (Qab (Qaa (Qac (V:=.map (some mr12)) rfl (Qaa (Qae QbO rfl (Qaa (Qb0 (vs:=dc ((gd s.ents k2).dot)) QcR hs 2 rfl rfl rfl rfl (Qaa (Qbw (vs:=[]) (cs:=[]) QqG (rfl) rfl (Qaa (QfO (k:=(gd s.ents k2).dot) (v:=()) Qkt Qoh hs 1 rfl rfl rfl rfl fun w34 hs=>(Qaf (Qab (Qaa (QaD (a:=(k2:Int)) (b:=1) (c:=((k2+1:Nat):Int)) rfl rfl (Qak (by omega) (by omega)) (Qaa (Qac (V:=I6 ((k2+1:Nat):Int)) rfl (Qaf ?_))))))))))))))))))
  have hbk:QgN s k2=false:=by
   unfold QgN Qdu
   rw [c23,c26,c28,QQ3 (p:=1<=_) (by omega),QQ3 (p:=_<=16777217) (by omega),← QiE,← hsm,c24]
   have hq:=c33
   rw [Qks] at hq
   simpa using hq
  refine ⟨_,?_,_,k2+1,mput ((gd s.ents k2).dot) () sm,Qai (Qao (ds:=([2]++sq 6 6++sq 48 59)) (by repeat (first|exact Agr.refl _ _|refine Agr.upd ?_ rfl|refine Agr.mix ?_ rfl))) rfl,(by omega),(Qb8 hbe hbk),(by rw [Qk0 (by omega),← hsm]),rfl,hs.take 2⟩
  omega
 replace c15:=QQ2 c15
 refine QaF (Qag (Qab (Qaa (Qad (V:=.bool true) rfl (Qaf (Qau ?_))))))
 refine ⟨_,Qaq (V:=.bool true) Tryz.results73 rfl,(Zr hs ?_)⟩
 exact congrArg Value.bool (Qek.2 (Qih c4 hbt2 fun j hj=>hbe j (by omega))).symm
end Tt
end Go.Proofs
namespace Go.Proofs
open Go Go.Vx Go.RowKit
namespace Tt
theorem Qij (w:World) (s:Sta) (a1:Option Addr) (c1:Nat) (a2:Option Addr) (c2:Nat) (hok:Qdz s) (hle:s.ents.length<=1000) (hlt:s.ticks.length<=1000) (hr1:Rd w (.slice a1 s.ents.length c1) 7 (s.ents.map cec)) (hr2:Rd w (.slice a2 s.ticks.length c2) 2 (s.ticks.map lsc)):Calls Tryz.prog 63 #[.agg ((vc s.known)++[(.slice a1 s.ents.length c1:Value),(.slice a2 s.ticks.length c2:Value) ]).toArray] w (fun e w'=>∃ x:Option Addr × Nat,e = .returned (.slice x.1 (Qaz s).length x.2)/\Own w no w' [row (.slice x.1 (Qaz s).length x.2) ((Qaz s).map (ic .u16)) 32 1]/\True):=by
 refine Qaj (n:=23) Tryz.func63 rfl Tryz.ntmps63 rfl ?_
 have hs:=Own.start w
 have ⟨hv0,hE0,hT0⟩:=hok
 refine Qag (Qab (Qaa (QaN (V:=.agg ((vc s.known)++[(.slice a1 s.ents.length c1:Value),(.slice a2 s.ticks.length c2:Value) ]).toArray) (cs:=(vc s.known)++[(.slice a1 s.ents.length c1:Value),(.slice a2 s.ticks.length c2:Value) ]) rfl rfl hs fun b1 w2 hs=>(Qaa (Qad (V:=.slice none 0 0) rfl (Qaf (Qag (Qag (Qab (Qaa (QaG (cs:=(vc s.known)++[(.slice a1 s.ents.length c1:Value),(.slice a2 s.ticks.length c2:Value) ]) QcJ hs 0 rfl rfl rfl (Qaa (Qat (vs:=[.agg ((vc s.known)++[(.slice a1 s.ents.length c1:Value),(.slice a2 s.ticks.length c2:Value) ]).toArray]) (V:=.bool (Qas s)) QrJ rfl rfl ?hc hs fun w3 hs=>?_)))))))))))))
 case hc=>exact (Qf0 _ s a1 c1 a2 c2 hok (by omega) (by omega) (Rd.own' hr1 hs) (Rd.own' hr2 hs))
 refine Qaa (Qbz rfl (Qaf (Qan (t:=!(Qas s)) rfl (fun c4=>?_) (fun c4=>?_))))
 ·
  replace c4:=Qbn c4
  refine Qag (Qab (Qaa (Qad (V:=.slice none 0 0) rfl (Qaf (Qau ?_)))))
  refine ⟨_,Qaq (V:=.slice none 0 0) Tryz.results63 rfl,?_⟩
  have hX:Qaz s=[]:=by unfold Qaz;rw [if_neg (by rw [c4];decide)]
  rw [hX]
  exact ⟨(none,0),rfl,(hs.take 0).more _ (Qbg _ _ _ _),trivial⟩
 replace c4:=Qbf c4
 refine Qap (Qag (Qab (Qaa (Qad (V:=.slice none 0 0) rfl (Qaf (Qag (Qag (Qab (Qaa (Qae Qdr rfl (Qaa (QaE (V:=.slice a2 s.ticks.length c2) QgZ hs 0 rfl rfl rfl (Qaa (Qa2 (n:=s.ticks.length) Qgi (Rd.own' hr2 hs) (by simp) rfl (Qaa (Qac (V:=I6 0) rfl (Qaf (Qam ?_))))))))))))))))))
 replace hs:=hs.more (row (.slice none 0 0) (List.map (ic .u16) []) 32 1) (Qbg _ _ _ _)
 refine QaA (fun J μ J' w'=>∃ (Jo:Env) (k:Nat) (a9:Option Addr) (c9:Nat) (L9:List Int),J'=upd (upd (mix ([3,5]++sq 12 10) Jo J) 12 (I6 (k:Int))) 3 (.slice a9 L9.length c9)/\(k<=s.ticks.length)/\(L9=(s.ticks.take k).map (·.cart))/\(L9.length<=k)/\μ=s.ticks.length-k/\Own w no w' [blk b1 ((vc s.known)++[(.slice a1 s.ents.length c1:Value),(.slice a2 s.ticks.length c2:Value) ]) 38,row (.slice a9 L9.length c9) (L9.map (ic .u16)) 32 1]) ?_ ?_
 ·exact ⟨_,_,0,none,0,[],Qai (Qai (Qao (ds:=([3,5]++sq 12 10)) (Agr.refl _ _)) rfl) rfl,(by omega),rfl,(Nat.le_refl _),rfl,hs⟩
 rintro μ J' w5 ⟨Jo,k,a9,c9,L9,rfl,hk,hL9,hl9,rfl,hs⟩
 refine Qag (Qab (Qaa (QaQ rfl rfl (Qaf (Qag (Qan (t:=decide ((k:Int)<((s.ticks.length:Nat):Int))) rfl (fun c6=>?_) (fun c6=>?_)))))))
 ·
  replace c6:=QQ1 c6
  refine Qap (Qag (Qam (Qag (Qab (Qaa (Qaw Qgi Qc8.1 (Rd.own' hr2 hs) rfl rfl (by omega) (by rw [QQ6];omega) (Qaa (Qa1 (j:=0) (vs:=lsc (gd s.ticks k)) k Qc8 (Rd.own' hr2 hs) (QaT (by omega)) rfl rfl rfl (by omega) (Qaa (QaM (cs:=lsc (⟨0,0⟩:Lst)) QlN rfl hs fun b7 w8 hs=>(Qaa (QcK (V:=.agg (lsc (gd s.ticks k)).toArray) (vs:=lsc (gd s.ticks k)) (cs':=lsc (gd s.ticks k)) Qc8.1 hs 2 rfl rfl rfl rfl rfl (QQ8 rfl) (QbZ _) (QaB rfl) fun w9 hs=>(Qaf (Qab (Qaa (Qac (V:=.slice a9 L9.length c9) rfl (Qaa (Qae Qe1 rfl (Qaa (QaE (V:=I7 ((gd s.ticks k).cart)) Qar hs 2 rfl rfl rfl (Qaa (QeQ (vals:=[I7 ((gd s.ticks k).cart)]) (ls:=List.map (ic .u16) ([(gd s.ticks k).cart]:List Int)) Qnl rfl rfl rfl (Qbe (enc:=(ic .u16)) (fun _=>rfl) _) (QaJ (QfI .u16) _) (QQ8 rfl) hs fun b10 w11 hs=>?_))))))))))))))))))))))
  replace hs:Own w no w11 [blk b1 ((vc s.known)++[(.slice a1 s.ents.length c1:Value),(.slice a2 s.ticks.length c2:Value) ]) 38,row (.slice a9 L9.length c9) (L9.map (ic .u16)) 32 1,blk b7 (lsc (gd s.ticks k)) 102,row (.slice (some ⟨b10,0,none⟩) 1 1) ([(gd s.ticks k).cart].map (ic .u16)) 32 1]:=hs
  refine Qaa (QbN (ls':=(L9++[(gd s.ticks k).cart]).map (ic .u16)) (n:=(L9++[(gd s.ticks k).cart]).length) Qnl hs 1 rfl rfl rfl (hs.rd 3 rfl) (QaJ (QfI .u16) _) (by simp only [QQ6,QQ7,List.length_cons,List.length_nil];omega) (by simp) (by simp) fun a12 c12 w13 hs=>(Qaa (Qad (V:=.slice a12 ((L9++[(gd s.ticks k).cart]).length) c12) rfl (Qaf (Qab (Qaa (QaD (a:=(k:Int)) (b:=1) (c:=((k+1:Nat):Int)) rfl rfl (Qak (by omega) (by omega)) (Qaa (Qac (V:=I6 ((k+1:Nat):Int)) rfl (Qaf ?_))))))))))
  refine ⟨_,?_,_,k+1,a12,c12,L9++[(gd s.ticks k).cart],Qai (Qai (Qao (ds:=([3,5]++sq 12 10)) (by repeat (first|exact Agr.refl _ _|refine Agr.upd ?_ rfl|refine Agr.mix ?_ rfl))) rfl) rfl,(by omega),(QkN (f:=fun x:Lst=>x.cart) hL9 (by omega)),(by rw [QQ7,List.length_singleton];omega),rfl,hs.take 2⟩
  omega
 replace c6:=QQ2 c6
 refine QaF (Qag (Qab (Qaa (Qac (V:=.slice a9 L9.length c9) rfl (Qaa (Qad (V:=.slice a9 L9.length c9) rfl (Qaf (Qau ?_))))))))
 refine ⟨_,Qaq (V:=.slice a9 L9.length c9) Tryz.results63 rfl,?_⟩
 have hX:L9=Qaz s:=by unfold Qaz;rw [if_pos c4,hL9,Qb6 (by omega)]
 rw [hX] at hs ⊢
 exact ⟨(a9,c9),rfl,hs.only 1 rfl,trivial⟩
end Tt
end Go.Proofs
namespace Go.Proofs
open Go Go.Vx Go.RowKit
namespace Tt
theorem QpF (w:World) (o:Opn):Calls Tryz.prog 90 #[.agg (oc o).toArray] w (fun e w'=>e = .returned (.bool (Qa0 o))/\Own w no w' []):=by
 refine Qaj (n:=16) Tryz.func90 rfl Tryz.ntmps90 rfl ?_
 have hs:=Own.start w
 refine Qag (Qab (Qaa (QaN (V:=.agg (oc o).toArray) (cs:=oc o) rfl rfl hs fun b1 w2 hs=>(Qaa (Qad (V:=.bool false) rfl (Qaf (Qag (Qbj [some 3,some 4,some 5,some 6,some 7,some 8,some 9,some 10,some 11,some 12,some 13,some 14,some 15,some 2] [] [0,1,3,7,15,31,63,127,255,511,1023,2047,4095,8191] [pv (Pq b1 (0+2)),pv (.int .u8 o.kind),pv (.bool (decide (o.kind=1))),pv (.bool (decide (o.kind=1))),pg ((decide (o.kind=1)) == false) (Pq b1 (0+2)),pg ((decide (o.kind=1)) == false) (.int .u8 o.kind),pg ((decide (o.kind=1)) == false) (.bool (decide (o.kind=2))),pv (.bool ((decide (o.kind=1))||(decide (o.kind=2)))),pv (.bool ((decide (o.kind=1))||(decide (o.kind=2)))),pg (((decide (o.kind=1))||(decide (o.kind=2))) == false) (Pq b1 (0+2)),pg (((decide (o.kind=1))||(decide (o.kind=2))) == false) (.int .u8 o.kind),pg (((decide (o.kind=1))||(decide (o.kind=2))) == false) (.bool (decide (o.kind=4))),pv (.bool (((decide (o.kind=1))||(decide (o.kind=2)))||(decide (o.kind=4)))),pv (.bool (((decide (o.kind=1))||(decide (o.kind=2)))||(decide (o.kind=4))))] (fun _ _=>_) [13] (by kernel_rfl) hs ⟨?_,?_,?_,?_,?_,?_,?_,?_,?_,?_,?_,?_,?_,?_,trivial⟩ ?_))))))))
 ·exact oa [] fun D J w hs=>Qae QbR rfl (Zz hs)
 ·exact oa [0] fun D J w hs=>QaE (V:=.int .u8 o.kind) QcN hs 0 rfl rfl rfl (Zz hs)
 ·exact oa [1] fun D J w hs=>QaS rfl rfl (Zz hs)
 ·exact oa [2] fun D J w hs=>Qac (V:=.bool (decide (o.kind=1))) rfl (Zz hs)
 ·exact og [3] fun D J w hG hs=>Qae QbR rfl (Zz hs)
 ·exact oy [3,4] [4] fun D J w hG hs=>QaE (V:=.int .u8 o.kind) QcN hs 0 rfl rfl rfl (Zz hs)
 ·exact oy [3,5] [5] fun D J w hG hs=>QaS rfl rfl (Zz hs)
 ·exact oa [3,6] fun D J w hs=>Qb4 (h':=decide (o.kind=2)) rfl rfl rfl (Zz hs)
 ·exact oa [7] fun D J w hs=>Qac (V:=.bool ((decide (o.kind=1))||(decide (o.kind=2)))) rfl (Zz hs)
 ·exact og [8] fun D J w hG hs=>Qae QbR rfl (Zz hs)
 ·exact oy [8,9] [9] fun D J w hG hs=>QaE (V:=.int .u8 o.kind) QcN hs 0 rfl rfl rfl (Zz hs)
 ·exact oy [8,10] [10] fun D J w hG hs=>QaS rfl rfl (Zz hs)
 ·exact oa [8,11] fun D J w hs=>Qb4 (h':=decide (o.kind=4)) rfl rfl rfl (Zz hs)
 ·exact oa [12] fun D J w hs=>Qad (V:=.bool (((decide (o.kind=1))||(decide (o.kind=2)))||(decide (o.kind=4)))) rfl (Zz hs)
 rintro J1 w3 J2 hJ hs
 replace hJ:J2=upd (mix (sq 3 13++[2]) J1 _) 2 (.bool (((decide (o.kind=1))||(decide (o.kind=2)))||(decide (o.kind=4)))):=hJ
 subst hJ
 refine Qau ?_
 refine ⟨_,Qaq (V:=.bool (((decide (o.kind=1))||(decide (o.kind=2)))||(decide (o.kind=4)))) Tryz.results90 rfl,(Zr hs ?_)⟩
 rfl
theorem QkL (w:World) (o:Opn):Calls Tryz.prog 55 #[.agg (oc o).toArray] w (fun e w'=>e = .returned (.bool (Qa0 o))/\Own w no w' []):=by
 refine Qaj (n:=16) Tryz.func55 rfl Tryz.ntmps55 rfl ?_
 have hs:=Own.start w
 refine Qag (Qab (Qaa (QaN (V:=.agg (oc o).toArray) (cs:=oc o) rfl rfl hs fun b1 w2 hs=>(Qaa (Qad (V:=.bool false) rfl (Qaf (Qag (Qbj [some 3,some 4,some 5,some 6,some 7,some 8,some 9,some 10,some 11,some 12,some 13,some 14,some 15,some 2] [] [0,1,3,7,15,31,63,127,255,511,1023,2047,4095,8191] [pv (Pq b1 (0+2)),pv (.int .u8 o.kind),pv (.bool (decide (o.kind=1))),pv (.bool (decide (o.kind=1))),pg ((decide (o.kind=1)) == false) (Pq b1 (0+2)),pg ((decide (o.kind=1)) == false) (.int .u8 o.kind),pg ((decide (o.kind=1)) == false) (.bool (decide (o.kind=2))),pv (.bool ((decide (o.kind=1))||(decide (o.kind=2)))),pv (.bool ((decide (o.kind=1))||(decide (o.kind=2)))),pg (((decide (o.kind=1))||(decide (o.kind=2))) == false) (Pq b1 (0+2)),pg (((decide (o.kind=1))||(decide (o.kind=2))) == false) (.int .u8 o.kind),pg (((decide (o.kind=1))||(decide (o.kind=2))) == false) (.bool (decide (o.kind=4))),pv (.bool (((decide (o.kind=1))||(decide (o.kind=2)))||(decide (o.kind=4)))),pv (.bool (((decide (o.kind=1))||(decide (o.kind=2)))||(decide (o.kind=4))))] (fun _ _=>_) [13] (by kernel_rfl) hs ⟨?_,?_,?_,?_,?_,?_,?_,?_,?_,?_,?_,?_,?_,?_,trivial⟩ ?_))))))))
 ·exact oa [] fun D J w hs=>Qae QbR rfl (Zz hs)
 ·exact oa [0] fun D J w hs=>QaE (V:=.int .u8 o.kind) QcN hs 0 rfl rfl rfl (Zz hs)
 ·exact oa [1] fun D J w hs=>QaS rfl rfl (Zz hs)
 ·exact oa [2] fun D J w hs=>Qac (V:=.bool (decide (o.kind=1))) rfl (Zz hs)
 ·exact og [3] fun D J w hG hs=>Qae QbR rfl (Zz hs)
 ·exact oy [3,4] [4] fun D J w hG hs=>QaE (V:=.int .u8 o.kind) QcN hs 0 rfl rfl rfl (Zz hs)
 ·exact oy [3,5] [5] fun D J w hG hs=>QaS rfl rfl (Zz hs)
 ·exact oa [3,6] fun D J w hs=>Qb4 (h':=decide (o.kind=2)) rfl rfl rfl (Zz hs)
 ·exact oa [7] fun D J w hs=>Qac (V:=.bool ((decide (o.kind=1))||(decide (o.kind=2)))) rfl (Zz hs)
 ·exact og [8] fun D J w hG hs=>Qae QbR rfl (Zz hs)
 ·exact oy [8,9] [9] fun D J w hG hs=>QaE (V:=.int .u8 o.kind) QcN hs 0 rfl rfl rfl (Zz hs)
 ·exact oy [8,10] [10] fun D J w hG hs=>QaS rfl rfl (Zz hs)
 ·exact oa [8,11] fun D J w hs=>Qb4 (h':=decide (o.kind=4)) rfl rfl rfl (Zz hs)
 ·exact oa [12] fun D J w hs=>Qad (V:=.bool (((decide (o.kind=1))||(decide (o.kind=2)))||(decide (o.kind=4)))) rfl (Zz hs)
 rintro J1 w3 J2 hJ hs
 replace hJ:J2=upd (mix (sq 3 13++[2]) J1 _) 2 (.bool (((decide (o.kind=1))||(decide (o.kind=2)))||(decide (o.kind=4)))):=hJ
 subst hJ
 refine Qau ?_
 refine ⟨_,Qaq (V:=.bool (((decide (o.kind=1))||(decide (o.kind=2)))||(decide (o.kind=4)))) Tryz.results55 rfl,(Zr hs ?_)⟩
 rfl
theorem Qnk (w:World) (o:Opn) (ho:QbV o.ctx):Calls Tryz.prog 41 #[.agg (oc o).toArray] w (fun e w'=>e = .returned (.int .u64 (QcV o))/\Own w no w' []):=by
 refine Qaj (n:=7) Tryz.func41 rfl Tryz.ntmps41 rfl ?_
 have hs:=Own.start w
 refine Qag (Qab (Qaa (QaN (V:=.agg (oc o).toArray) (cs:=oc o) rfl rfl hs fun b1 w2 hs=>(Qaa (Qad (V:=.int .u64 0) rfl (Qaf (Qag ?_)))))))
 have hb:=Qjd ho
 refine Qab (Qaa (Qae QdZ rfl (Qaa (Qb0 (vs:=vc o.ctx) QbA hs 0 rfl rfl rfl rfl (Qaa (Qat (vs:=[.agg (vc o.ctx).toArray]) (V:=.int .u64 (vsum o.ctx)) Qvi rfl rfl ?hc hs fun w3 hs=>?_))))))
 case hc=>exact (Qss _ o.ctx (by first|assumption|exact Qca))
 refine Qaa (QaD (a:=vsum o.ctx) (b:=1) (c:=(vsum o.ctx)+1) rfl rfl (Qdk (by omega) (by omega)) (Qaa (Qad (V:=.int .u64 ((vsum o.ctx)+1)) rfl (Qaf (Qau ?_)))))
 refine ⟨_,Qaq (V:=.int .u64 ((vsum o.ctx)+1)) Tryz.results41 rfl,(Zr hs ?_)⟩
 rfl
theorem Qlm (w:World) (o:Opn) (ho:QbV o.ctx):Calls Tryz.prog 57 #[.agg (oc o).toArray] w (fun e w'=>e = .returned (.int .u64 (QcV o))/\Own w no w' []):=by
 refine Qaj (n:=7) Tryz.func57 rfl Tryz.ntmps57 rfl ?_
 have hs:=Own.start w
 refine Qag (Qab (Qaa (QaN (V:=.agg (oc o).toArray) (cs:=oc o) rfl rfl hs fun b1 w2 hs=>(Qaa (Qad (V:=.int .u64 0) rfl (Qaf (Qag ?_)))))))
 have hb:=Qjd ho
 refine Qab (Qaa (Qae QdZ rfl (Qaa (Qb0 (vs:=vc o.ctx) QbA hs 0 rfl rfl rfl rfl (Qaa (Qat (vs:=[.agg (vc o.ctx).toArray]) (V:=.int .u64 (vsum o.ctx)) Qvr rfl rfl ?hc hs fun w3 hs=>?_))))))
 case hc=>exact (Qq0 _ o.ctx (by first|assumption|exact Qca))
 refine Qaa (QaD (a:=vsum o.ctx) (b:=1) (c:=(vsum o.ctx)+1) rfl rfl (Qdk (by omega) (by omega)) (Qaa (Qad (V:=.int .u64 ((vsum o.ctx)+1)) rfl (Qaf (Qau ?_)))))
 refine ⟨_,Qaq (V:=.int .u64 ((vsum o.ctx)+1)) Tryz.results57 rfl,(Zr hs ?_)⟩
 rfl
theorem Qok (w:World) (o e:Opn) (he:Qc3 e.dot):Calls Tryz.prog 46 #[.agg (oc o).toArray,.agg (oc e).toArray] w (fun r w'=>r = .returned (.bool (QaV o e))/\Own w no w' []):=by
 refine Qaj (n:=40) Tryz.func46 rfl Tryz.ntmps46 rfl ?_
 have hs:=Own.start w
 refine Qag (Qab (Qaa (QaN (V:=.agg (oc o).toArray) (cs:=oc o) rfl rfl hs fun b1 w2 hs=>(Qaa (QaN (V:=.agg (oc e).toArray) (cs:=oc e) rfl rfl hs fun b3 w4 hs=>(Qaa (Qad (V:=.bool false) rfl (Qaf (Qag (Qag (Qbj [some 5,some 6,some 7,some 8,some 9,some 10,some 11,some 12,some 13,some 14,some 15,some 16,some 17,some 18,some 19,some 20,some 21,some 22] [] [0,1,3,7,15,31,15,79,255,511,1023,2047,4095,2047,10239,32767,65535,131071] [pv (.agg (oc e).toArray),pv (.bool (Qa0 e)),pv (.bool (!(Qa0 e))),pv (.bool (!(Qa0 e))),pg ((!(Qa0 e)) == false) (Pq b1 (0+3)),pg ((!(Qa0 e)) == false) (I7 o.cart),pg ((!(Qa0 e)) == false) (Pq b3 (0+3)),pg ((!(Qa0 e)) == false) (I7 e.cart),pg ((!(Qa0 e)) == false) (.bool (!decide (o.cart=e.cart))),pv (.bool ((!(Qa0 e))||(!decide (o.cart=e.cart)))),pv (.bool ((!(Qa0 e))||(!decide (o.cart=e.cart)))),pg (((!(Qa0 e))||(!decide (o.cart=e.cart))) == false) (Pq b1 (0+7)),pg (((!(Qa0 e))||(!decide (o.cart=e.cart))) == false) (.agg (vc o.ctx).toArray),pg (((!(Qa0 e))||(!decide (o.cart=e.cart))) == false) (Pq b3 (0+0)),pg (((!(Qa0 e))||(!decide (o.cart=e.cart))) == false) (.agg (dc e.dot).toArray),pg (((!(Qa0 e))||(!decide (o.cart=e.cart))) == false) (.bool (QbB o.ctx e.dot)),pg (((!(Qa0 e))||(!decide (o.cart=e.cart))) == false) (.bool (!(QbB o.ctx e.dot))),pv (.bool (((!(Qa0 e))||(!decide (o.cart=e.cart)))||(!(QbB o.ctx e.dot))))] (fun _ _=>_) [17] (by kernel_rfl) hs ⟨?_,?_,?_,?_,?_,?_,?_,?_,?_,?_,?_,?_,?_,?_,?_,?_,?_,?_,trivial⟩ ?_)))))))))))
 ·exact oa [] fun D J w hs=>QaG (cs:=oc e) Qb5 hs 1 rfl rfl rfl (Zz hs)
 ·exact oa [0] fun D J w hs=>Qat (vs:=[.agg (oc e).toArray]) (V:=.bool (Qa0 e)) QuS rfl rfl (QpF _ e) hs fun _ hs=>Zz hs
 ·exact oa [1] fun D J w hs=>Qbz rfl (Zz hs)
 ·exact oa [2] fun D J w hs=>Qac (V:=.bool (!(Qa0 e))) rfl (Zz hs)
 ·exact og [3] fun D J w hG hs=>Qae QdI rfl (Zz hs)
 ·exact oy [3,4] [4] fun D J w hG hs=>QaE (V:=.int .u16 o.cart) Qar hs 0 rfl rfl rfl (Zz hs)
 ·exact og [3] fun D J w hG hs=>Qae QdI rfl (Zz hs)
 ·exact oy [3,6] [6] fun D J w hG hs=>QaE (V:=.int .u16 e.cart) Qar hs 1 rfl rfl rfl (Zz hs)
 ·exact oy [3,5,7] [5,7] fun D J w hG hs=>Qch rfl rfl (Zz hs)
 ·exact oa [3,8] fun D J w hs=>Qb4 (h':=!decide (o.cart=e.cart)) rfl rfl rfl (Zz hs)
 ·exact oa [9] fun D J w hs=>Qac (V:=.bool ((!(Qa0 e))||(!decide (o.cart=e.cart)))) rfl (Zz hs)
 ·exact og [10] fun D J w hG hs=>Qae QdZ rfl (Zz hs)
 ·exact oy [10,11] [11] fun D J w hG hs=>Qb0 (vs:=vc o.ctx) QbA hs 0 rfl rfl rfl rfl (Zz hs)
 ·exact og [10] fun D J w hG hs=>Qae Qb3 rfl (Zz hs)
 ·exact oy [10,13] [13] fun D J w hG hs=>Qb0 (vs:=dc e.dot) QcR hs 1 rfl rfl rfl rfl (Zz hs)
 ·exact oy [10,12,14] [12,14] fun D J w hG hs=>Qat (vs:=[.agg (vc o.ctx).toArray,.agg (dc e.dot).toArray]) (V:=.bool (QbB o.ctx e.dot)) Qn3 rfl rfl (QhS _ o.ctx e.dot (by first|assumption|exact Qdl (by omega) (by omega) (by omega) (by omega))) hs fun _ hs=>Zz hs
 ·exact oy [10,15] [15] fun D J w hG hs=>Qbz rfl (Zz hs)
 ·exact oa [10,16] fun D J w hs=>Qb4 (h':=!(QbB o.ctx e.dot)) rfl rfl rfl (Zz hs)
 rintro J1 w7 J2 hJ hs
 replace hJ:J2=upd (mix (sq 5 18) J1 _) 22 (.bool (((!(Qa0 e))||(!decide (o.cart=e.cart)))||(!(QbB o.ctx e.dot)))):=hJ
 subst hJ
 refine Qan (t:=((!(Qa0 e))||(!decide (o.cart=e.cart)))||(!(QbB o.ctx e.dot))) rfl (fun c8=>?_) (fun c8=>?_)
 ·
  refine Qag (Qab (Qaa (Qad (V:=.bool false) rfl (Qaf (Qau ?_)))))
  refine ⟨_,Qaq (V:=.bool false) Tryz.results46 rfl,(Zr hs ?_)⟩
  exact congrArg Value.bool (QnS c8).symm
 have c8r:=Qfk c8
 replace c8:=Qfj c8
 have c8rr:=Qfk c8
 replace c8:=Qfj c8
 replace c8:=Qbf c8
 replace c8rr:=Qbf c8rr
 replace c8rr:=QQ1 c8rr
 replace c8r:=Qbf c8r
 refine Qap (Qag (Qag (Qab (Qaa (Qae QbR rfl (Qaa (QaE (V:=.int .u8 o.kind) QcN hs 0 rfl rfl rfl (Qaf (Qam (Qag (Qab (Qaa (QaS rfl rfl (Qaa (Qad (V:=.bool (decide (o.kind=5))) rfl (Qaf (Qan (t:=decide (o.kind=5)) rfl (fun c9=>?_) (fun c9=>?_))))))))))))))))))
 ·
  replace c9:=QQ1 c9
  refine Qag (Qab (Qaa (Qad (V:=.bool true) rfl (Qaf (Qau ?_)))))
  refine ⟨_,Qaq (V:=.bool true) Tryz.results46 rfl,(Zr hs ?_)⟩
  rw [Qfr c8 c8rr c8r]
  refine congrArg Value.bool ?_
  simp_all
 replace c9:=QQ2 c9
 refine Qag (Qag (Qab (Qaa (QaS rfl rfl (Qaa (Qad (V:=.bool (decide (o.kind=3))) rfl (Qaf (Qan (t:=decide (o.kind=3)) rfl (fun c10=>?_) (fun c10=>?_)))))))))
 ·
  replace c10:=QQ1 c10
  refine Qap (Qdp (congrArg Value.bool (QQ3 c10)) ?_)
  refine Qag (Qbj [some 30,some 31,some 32,some 33,some 34,some 35,some 36,some 37,some 38,some 39,some 4] [] [0,1,3,7,15,31,15,79,255,511,1023] [pv (Pq b3 (0+2)),pv (.int .u8 e.kind),pv (.bool (!decide (e.kind=4))),pv (.bool (!decide (e.kind=4))),pg ((!decide (e.kind=4)) == true) (Pq b1 (0+4)),pg ((!decide (e.kind=4)) == true) (I7 o.item),pg ((!decide (e.kind=4)) == true) (Pq b3 (0+4)),pg ((!decide (e.kind=4)) == true) (I7 e.item),pg ((!decide (e.kind=4)) == true) (.bool (decide (o.item=e.item))),pv (.bool ((!decide (e.kind=4))&&(decide (o.item=e.item)))),pv (.bool ((!decide (e.kind=4))&&(decide (o.item=e.item))))] (fun _ _=>_) [10] (by kernel_rfl) hs ⟨?_,?_,?_,?_,?_,?_,?_,?_,?_,?_,?_,trivial⟩ ?_)
  ·exact oa [] fun D J w hs=>Qae QbR rfl (Zz hs)
  ·exact oa [0] fun D J w hs=>QaE (V:=.int .u8 e.kind) QcN hs 1 rfl rfl rfl (Zz hs)
  ·exact oa [1] fun D J w hs=>Qch rfl rfl (Zz hs)
  ·exact oa [2] fun D J w hs=>Qac (V:=.bool (!decide (e.kind=4))) rfl (Zz hs)
  ·exact og [3] fun D J w hG hs=>Qae QcU rfl (Zz hs)
  ·exact oy [3,4] [4] fun D J w hG hs=>QaE (V:=.int .u16 o.item) Qar hs 0 rfl rfl rfl (Zz hs)
  ·exact og [3] fun D J w hG hs=>Qae QcU rfl (Zz hs)
  ·exact oy [3,6] [6] fun D J w hG hs=>QaE (V:=.int .u16 e.item) Qar hs 1 rfl rfl rfl (Zz hs)
  ·exact oy [3,5,7] [5,7] fun D J w hG hs=>QaS rfl rfl (Zz hs)
  ·exact oa [3,8] fun D J w hs=>Qa4 (h':=decide (o.item=e.item)) rfl rfl rfl (Zz hs)
  ·exact oa [9] fun D J w hs=>Qad (V:=.bool ((!decide (e.kind=4))&&(decide (o.item=e.item)))) rfl (Zz hs)
  rintro J1 w11 J2 hJ hs
  replace hJ:J2=upd (mix (sq 30 10++[4]) J1 _) 4 (.bool ((!decide (e.kind=4))&&(decide (o.item=e.item)))):=hJ
  subst hJ
  refine Qau ?_
  refine ⟨_,Qaq (V:=.bool ((!decide (e.kind=4))&&(decide (o.item=e.item)))) Tryz.results46 rfl,(Zr hs ?_)⟩
  rw [Qfr c8 c8rr c8r]
  refine congrArg Value.bool ?_
  simp_all
 replace c10:=QQ2 c10
 refine Qab (Qaa (QaS rfl rfl (Qaa (Qad (V:=.bool (decide (o.kind=2))) rfl (Qaf (Qan (t:=decide (o.kind=2)) rfl (fun c12=>?_) (fun c12=>?_)))))))
 ·
  replace c12:=QQ1 c12
  refine Qag (Qbj [some 30,some 31,some 32,some 33,some 34,some 35,some 36,some 37,some 38,some 39,some 4] [] [0,1,3,7,15,31,15,79,255,511,1023] [pv (Pq b3 (0+2)),pv (.int .u8 e.kind),pv (.bool (!decide (e.kind=4))),pv (.bool (!decide (e.kind=4))),pg ((!decide (e.kind=4)) == true) (Pq b1 (0+4)),pg ((!decide (e.kind=4)) == true) (I7 o.item),pg ((!decide (e.kind=4)) == true) (Pq b3 (0+4)),pg ((!decide (e.kind=4)) == true) (I7 e.item),pg ((!decide (e.kind=4)) == true) (.bool (decide (o.item=e.item))),pv (.bool ((!decide (e.kind=4))&&(decide (o.item=e.item)))),pv (.bool ((!decide (e.kind=4))&&(decide (o.item=e.item))))] (fun _ _=>_) [10] (by kernel_rfl) hs ⟨?_,?_,?_,?_,?_,?_,?_,?_,?_,?_,?_,trivial⟩ ?_)
  ·exact oa [] fun D J w hs=>Qae QbR rfl (Zz hs)
  ·exact oa [0] fun D J w hs=>QaE (V:=.int .u8 e.kind) QcN hs 1 rfl rfl rfl (Zz hs)
  ·exact oa [1] fun D J w hs=>Qch rfl rfl (Zz hs)
  ·exact oa [2] fun D J w hs=>Qac (V:=.bool (!decide (e.kind=4))) rfl (Zz hs)
  ·exact og [3] fun D J w hG hs=>Qae QcU rfl (Zz hs)
  ·exact oy [3,4] [4] fun D J w hG hs=>QaE (V:=.int .u16 o.item) Qar hs 0 rfl rfl rfl (Zz hs)
  ·exact og [3] fun D J w hG hs=>Qae QcU rfl (Zz hs)
  ·exact oy [3,6] [6] fun D J w hG hs=>QaE (V:=.int .u16 e.item) Qar hs 1 rfl rfl rfl (Zz hs)
  ·exact oy [3,5,7] [5,7] fun D J w hG hs=>QaS rfl rfl (Zz hs)
  ·exact oa [3,8] fun D J w hs=>Qa4 (h':=decide (o.item=e.item)) rfl rfl rfl (Zz hs)
  ·exact oa [9] fun D J w hs=>Qad (V:=.bool ((!decide (e.kind=4))&&(decide (o.item=e.item)))) rfl (Zz hs)
  rintro J1 w13 J2 hJ hs
  replace hJ:J2=upd (mix (sq 30 10++[4]) J1 _) 4 (.bool ((!decide (e.kind=4))&&(decide (o.item=e.item)))):=hJ
  subst hJ
  refine Qau ?_
  refine ⟨_,Qaq (V:=.bool ((!decide (e.kind=4))&&(decide (o.item=e.item)))) Tryz.results46 rfl,(Zr hs ?_)⟩
  rw [Qfr c8 c8rr c8r]
  refine congrArg Value.bool ?_
  simp_all
 replace c12:=QQ2 c12
 refine Qap (Qag (Qab (Qaa (Qad (V:=.bool false) rfl (Qaf (Qau ?_))))))
 refine ⟨_,Qaq (V:=.bool false) Tryz.results46 rfl,(Zr hs ?_)⟩
 rw [Qfr c8 c8rr c8r]
 refine congrArg Value.bool ?_
 simp_all
theorem Qoi (w:World) (o e:Opn) (he:Qc3 e.dot):Calls Tryz.prog 97 #[.agg (oc o).toArray,.agg (oc e).toArray] w (fun r w'=>r = .returned (.bool (QaV o e))/\Own w no w' []):=by
 refine Qaj (n:=46) Tryz.func97 rfl Tryz.ntmps97 rfl ?_
 have hs:=Own.start w
 refine Qag (Qab (Qaa (QaN (V:=.agg (oc o).toArray) (cs:=oc o) rfl rfl hs fun b1 w2 hs=>(Qaa (QaN (V:=.agg (oc e).toArray) (cs:=oc e) rfl rfl hs fun b3 w4 hs=>(Qaa (Qad (V:=.bool false) rfl (Qaf (Qag (Qag (Qbj [some 5,some 6,some 7,some 8,some 9,some 10,some 11,some 12,some 13,some 14,some 15,some 16,some 17,some 18,some 19,some 20,some 21,some 22] [] [0,1,3,7,15,31,15,79,255,511,1023,2047,4095,2047,10239,32767,65535,131071] [pv (.agg (oc e).toArray),pv (.bool (Qa0 e)),pv (.bool (!(Qa0 e))),pv (.bool (!(Qa0 e))),pg ((!(Qa0 e)) == false) (Pq b1 (0+3)),pg ((!(Qa0 e)) == false) (I7 o.cart),pg ((!(Qa0 e)) == false) (Pq b3 (0+3)),pg ((!(Qa0 e)) == false) (I7 e.cart),pg ((!(Qa0 e)) == false) (.bool (!decide (o.cart=e.cart))),pv (.bool ((!(Qa0 e))||(!decide (o.cart=e.cart)))),pv (.bool ((!(Qa0 e))||(!decide (o.cart=e.cart)))),pg (((!(Qa0 e))||(!decide (o.cart=e.cart))) == false) (Pq b1 (0+7)),pg (((!(Qa0 e))||(!decide (o.cart=e.cart))) == false) (.agg (vc o.ctx).toArray),pg (((!(Qa0 e))||(!decide (o.cart=e.cart))) == false) (Pq b3 (0+0)),pg (((!(Qa0 e))||(!decide (o.cart=e.cart))) == false) (.agg (dc e.dot).toArray),pg (((!(Qa0 e))||(!decide (o.cart=e.cart))) == false) (.bool (QbB o.ctx e.dot)),pg (((!(Qa0 e))||(!decide (o.cart=e.cart))) == false) (.bool (!(QbB o.ctx e.dot))),pv (.bool (((!(Qa0 e))||(!decide (o.cart=e.cart)))||(!(QbB o.ctx e.dot))))] (fun _ _=>_) [17] (by kernel_rfl) hs ⟨?_,?_,?_,?_,?_,?_,?_,?_,?_,?_,?_,?_,?_,?_,?_,?_,?_,?_,trivial⟩ ?_)))))))))))
 ·exact oa [] fun D J w hs=>QaG (cs:=oc e) Qb5 hs 1 rfl rfl rfl (Zz hs)
 ·exact oa [0] fun D J w hs=>Qat (vs:=[.agg (oc e).toArray]) (V:=.bool (Qa0 e)) QtR rfl rfl (QkL _ e) hs fun _ hs=>Zz hs
 ·exact oa [1] fun D J w hs=>Qbz rfl (Zz hs)
 ·exact oa [2] fun D J w hs=>Qac (V:=.bool (!(Qa0 e))) rfl (Zz hs)
 ·exact og [3] fun D J w hG hs=>Qae QdI rfl (Zz hs)
 ·exact oy [3,4] [4] fun D J w hG hs=>QaE (V:=.int .u16 o.cart) Qar hs 0 rfl rfl rfl (Zz hs)
 ·exact og [3] fun D J w hG hs=>Qae QdI rfl (Zz hs)
 ·exact oy [3,6] [6] fun D J w hG hs=>QaE (V:=.int .u16 e.cart) Qar hs 1 rfl rfl rfl (Zz hs)
 ·exact oy [3,5,7] [5,7] fun D J w hG hs=>Qch rfl rfl (Zz hs)
 ·exact oa [3,8] fun D J w hs=>Qb4 (h':=!decide (o.cart=e.cart)) rfl rfl rfl (Zz hs)
 ·exact oa [9] fun D J w hs=>Qac (V:=.bool ((!(Qa0 e))||(!decide (o.cart=e.cart)))) rfl (Zz hs)
 ·exact og [10] fun D J w hG hs=>Qae QdZ rfl (Zz hs)
 ·exact oy [10,11] [11] fun D J w hG hs=>Qb0 (vs:=vc o.ctx) QbA hs 0 rfl rfl rfl rfl (Zz hs)
 ·exact og [10] fun D J w hG hs=>Qae Qb3 rfl (Zz hs)
 ·exact oy [10,13] [13] fun D J w hG hs=>Qb0 (vs:=dc e.dot) QcR hs 1 rfl rfl rfl rfl (Zz hs)
 ·exact oy [10,12,14] [12,14] fun D J w hG hs=>Qat (vs:=[.agg (vc o.ctx).toArray,.agg (dc e.dot).toArray]) (V:=.bool (QbB o.ctx e.dot)) QoA rfl rfl (QhY _ o.ctx e.dot (by first|assumption|exact Qdl (by omega) (by omega) (by omega) (by omega))) hs fun _ hs=>Zz hs
 ·exact oy [10,15] [15] fun D J w hG hs=>Qbz rfl (Zz hs)
 ·exact oa [10,16] fun D J w hs=>Qb4 (h':=!(QbB o.ctx e.dot)) rfl rfl rfl (Zz hs)
 rintro J1 w7 J2 hJ hs
 replace hJ:J2=upd (mix (sq 5 18) J1 _) 22 (.bool (((!(Qa0 e))||(!decide (o.cart=e.cart)))||(!(QbB o.ctx e.dot)))):=hJ
 subst hJ
 refine Qan (t:=((!(Qa0 e))||(!decide (o.cart=e.cart)))||(!(QbB o.ctx e.dot))) rfl (fun c8=>?_) (fun c8=>?_)
 ·
  refine Qag (Qab (Qaa (Qad (V:=.bool false) rfl (Qaf (Qau ?_)))))
  refine ⟨_,Qaq (V:=.bool false) Tryz.results97 rfl,(Zr hs ?_)⟩
  exact congrArg Value.bool (QnS c8).symm
 have c8r:=Qfk c8
 replace c8:=Qfj c8
 have c8rr:=Qfk c8
 replace c8:=Qfj c8
 replace c8:=Qbf c8
 replace c8rr:=Qbf c8rr
 replace c8rr:=QQ1 c8rr
 replace c8r:=Qbf c8r
 refine Qap (Qag (Qag (Qab (Qaa (Qae QbR rfl (Qaa (QaE (V:=.int .u8 o.kind) QcN hs 0 rfl rfl rfl (Qaa (QaS rfl rfl (Qaf (Qan (t:=decide (o.kind=5)) rfl (fun c9=>?_) (fun c9=>?_))))))))))))
 ·
  replace c9:=QQ1 c9
  refine Qag (Qab (Qaa (Qad (V:=.bool true) rfl (Qaf (Qau ?_)))))
  refine ⟨_,Qaq (V:=.bool true) Tryz.results97 rfl,(Zr hs ?_)⟩
  rw [Qfr c8 c8rr c8r]
  refine congrArg Value.bool ?_
  simp_all
  try exact Bool.and_assoc _ _ _
 replace c9:=QQ2 c9
 refine Qap (Qag (Qbj [some 26,some 27,some 28,some 29,some 30,some 31,some 32,some 33,some 34,some 35,some 36,some 37,some 38,some 39,some 40,some 41,some 42,some 43,some 44,some 45,some 4] [] [0,1,3,7,15,31,63,127,255,511,1023,2047,4095,8191,16383,32767,16383,81919,262143,524287,1048575] [pv (Pq b1 (0+2)),pv (.int .u8 o.kind),pv (.bool (decide (o.kind=3))),pv (.bool (decide (o.kind=3))),pg ((decide (o.kind=3)) == false) (Pq b1 (0+2)),pg ((decide (o.kind=3)) == false) (.int .u8 o.kind),pg ((decide (o.kind=3)) == false) (.bool (decide (o.kind=2))),pv (.bool ((decide (o.kind=3))||(decide (o.kind=2)))),pv (.bool ((decide (o.kind=3))||(decide (o.kind=2)))),pg (((decide (o.kind=3))||(decide (o.kind=2))) == true) (Pq b3 (0+2)),pg (((decide (o.kind=3))||(decide (o.kind=2))) == true) (.int .u8 e.kind),pg (((decide (o.kind=3))||(decide (o.kind=2))) == true) (.bool (!decide (e.kind=4))),pv (.bool (((decide (o.kind=3))||(decide (o.kind=2)))&&(!decide (e.kind=4)))),pv (.bool (((decide (o.kind=3))||(decide (o.kind=2)))&&(!decide (e.kind=4)))),pg ((((decide (o.kind=3))||(decide (o.kind=2)))&&(!decide (e.kind=4))) == true) (Pq b1 (0+4)),pg ((((decide (o.kind=3))||(decide (o.kind=2)))&&(!decide (e.kind=4))) == true) (I7 o.item),pg ((((decide (o.kind=3))||(decide (o.kind=2)))&&(!decide (e.kind=4))) == true) (Pq b3 (0+4)),pg ((((decide (o.kind=3))||(decide (o.kind=2)))&&(!decide (e.kind=4))) == true) (I7 e.item),pg ((((decide (o.kind=3))||(decide (o.kind=2)))&&(!decide (e.kind=4))) == true) (.bool (decide (o.item=e.item))),pv (.bool ((((decide (o.kind=3))||(decide (o.kind=2)))&&(!decide (e.kind=4)))&&(decide (o.item=e.item)))),pv (.bool ((((decide (o.kind=3))||(decide (o.kind=2)))&&(!decide (e.kind=4)))&&(decide (o.item=e.item))))] (fun _ _=>_) [20] (by kernel_rfl) hs ⟨?_,?_,?_,?_,?_,?_,?_,?_,?_,?_,?_,?_,?_,?_,?_,?_,?_,?_,?_,?_,?_,trivial⟩ ?_))
 ·exact oa [] fun D J w hs=>Qae QbR rfl (Zz hs)
 ·exact oa [0] fun D J w hs=>QaE (V:=.int .u8 o.kind) QcN hs 0 rfl rfl rfl (Zz hs)
 ·exact oa [1] fun D J w hs=>QaS rfl rfl (Zz hs)
 ·exact oa [2] fun D J w hs=>Qac (V:=.bool (decide (o.kind=3))) rfl (Zz hs)
 ·exact og [3] fun D J w hG hs=>Qae QbR rfl (Zz hs)
 ·exact oy [3,4] [4] fun D J w hG hs=>QaE (V:=.int .u8 o.kind) QcN hs 0 rfl rfl rfl (Zz hs)
 ·exact oy [3,5] [5] fun D J w hG hs=>QaS rfl rfl (Zz hs)
 ·exact oa [3,6] fun D J w hs=>Qb4 (h':=decide (o.kind=2)) rfl rfl rfl (Zz hs)
 ·exact oa [7] fun D J w hs=>Qac (V:=.bool ((decide (o.kind=3))||(decide (o.kind=2)))) rfl (Zz hs)
 ·exact og [8] fun D J w hG hs=>Qae QbR rfl (Zz hs)
 ·exact oy [8,9] [9] fun D J w hG hs=>QaE (V:=.int .u8 e.kind) QcN hs 1 rfl rfl rfl (Zz hs)
 ·exact oy [8,10] [10] fun D J w hG hs=>Qch rfl rfl (Zz hs)
 ·exact oa [8,11] fun D J w hs=>Qa4 (h':=!decide (e.kind=4)) rfl rfl rfl (Zz hs)
 ·exact oa [12] fun D J w hs=>Qac (V:=.bool (((decide (o.kind=3))||(decide (o.kind=2)))&&(!decide (e.kind=4)))) rfl (Zz hs)
 ·exact og [13] fun D J w hG hs=>Qae QcU rfl (Zz hs)
 ·exact oy [13,14] [14] fun D J w hG hs=>QaE (V:=.int .u16 o.item) Qar hs 0 rfl rfl rfl (Zz hs)
 ·exact og [13] fun D J w hG hs=>Qae QcU rfl (Zz hs)
 ·exact oy [13,16] [16] fun D J w hG hs=>QaE (V:=.int .u16 e.item) Qar hs 1 rfl rfl rfl (Zz hs)
 ·exact oy [13,15,17] [15,17] fun D J w hG hs=>QaS rfl rfl (Zz hs)
 ·exact oa [13,18] fun D J w hs=>Qa4 (h':=decide (o.item=e.item)) rfl rfl rfl (Zz hs)
 ·exact oa [19] fun D J w hs=>Qad (V:=.bool ((((decide (o.kind=3))||(decide (o.kind=2)))&&(!decide (e.kind=4)))&&(decide (o.item=e.item)))) rfl (Zz hs)
 rintro J1 w10 J2 hJ hs
 replace hJ:J2=upd (mix (sq 26 20++[4]) J1 _) 4 (.bool ((((decide (o.kind=3))||(decide (o.kind=2)))&&(!decide (e.kind=4)))&&(decide (o.item=e.item)))):=hJ
 subst hJ
 refine Qau ?_
 refine ⟨_,Qaq (V:=.bool ((((decide (o.kind=3))||(decide (o.kind=2)))&&(!decide (e.kind=4)))&&(decide (o.item=e.item)))) Tryz.results97 rfl,(Zr hs ?_)⟩
 rw [Qfr c8 c8rr c8r]
 refine congrArg Value.bool ?_
 simp_all
 try exact Bool.and_assoc _ _ _
theorem QoN (w:World) (o:Opn) (ho:Qds o):Calls Tryz.prog 151 #[.agg (oc o).toArray] w (fun e w'=>e = .returned (.bool (Qcb o))/\Own w no w' []):=by
 refine Qaj (n:=28) Tryz.func151 rfl Tryz.ntmps151 rfl ?_
 have hs:=Own.start w
 refine Qag (Qab (Qaa (QaN (V:=.agg (oc o).toArray) (cs:=oc o) rfl rfl hs fun b1 w2 hs=>(Qaa (Qad (V:=.bool false) rfl (Qaf (Qag (Qag (Qab (Qaa (Qae QbR rfl (Qaa (QaE (V:=.int .u8 o.kind) QcN hs 0 rfl rfl rfl (Qaf (Qam (Qag (Qab (Qaa (QaS rfl rfl (Qaa (Qad (V:=.bool (decide (o.kind=1))) rfl (Qaf (Qan (t:=decide (o.kind=1)) rfl (fun c3=>?_) (fun c3=>?_))))))))))))))))))))))))
 ·
  replace c3:=QQ1 c3
  refine Qag (Qab (Qaa (Qae Qdt rfl (Qaa (QaE (V:=I7 o.qty) Qar hs 0 rfl rfl rfl (Qaa (QbY rfl rfl (Qaa (Qad (V:=.bool (decide (0<o.qty))) rfl (Qaf (Qau ?_)))))))))))
  refine ⟨_,Qaq (V:=.bool (decide (0<o.qty))) Tryz.results151 rfl,(Zr hs (congrArg Value.bool ?_))⟩
  unfold Qcb
  have ⟨_,_,_,_,⟨hq1,hq2⟩,_,_⟩:=ho
  simp_all
  try omega
 replace c3:=QQ2 c3
 refine Qag (Qab (Qaa (QaS rfl rfl (Qaa (Qad (V:=.bool (decide (o.kind=2))) rfl (Qaf (Qan (t:=decide (o.kind=2)) rfl (fun c4=>?_) (fun c4=>?_))))))))
 ·
  replace c4:=QQ1 c4
  refine Qag (Qab (Qaa (Qad (V:=.bool true) rfl (Qaf (Qau ?_)))))
  refine ⟨_,Qaq (V:=.bool true) Tryz.results151 rfl,(Zr hs (congrArg Value.bool ?_))⟩
  unfold Qcb
  have ⟨_,_,_,_,⟨hq1,hq2⟩,_,_⟩:=ho
  simp_all
  try omega
 replace c4:=QQ2 c4
 refine Qag (Qab (Qaa (QaS rfl rfl (Qaa (Qad (V:=.bool (decide (o.kind=3))) rfl (Qaf (Qan (t:=decide (o.kind=3)) rfl (fun c5=>?_) (fun c5=>?_))))))))
 ·
  replace c5:=QQ1 c5
  refine Qag (Qab (Qaa (Qae Qdt rfl (Qaa (QaE (V:=I7 o.qty) Qar hs 0 rfl rfl rfl (Qaa (QaS rfl rfl (Qaa (Qad (V:=.bool (decide (o.qty=0))) rfl (Qaf (Qau ?_)))))))))))
  refine ⟨_,Qaq (V:=.bool (decide (o.qty=0))) Tryz.results151 rfl,(Zr hs (congrArg Value.bool ?_))⟩
  unfold Qcb
  have ⟨_,_,_,_,⟨hq1,hq2⟩,_,_⟩:=ho
  simp_all
  try omega
 replace c5:=QQ2 c5
 refine Qag (Qag (Qab (Qaa (QaS rfl rfl (Qaa (Qad (V:=.bool (decide (o.kind=4))) rfl (Qaf (Qan (t:=decide (o.kind=4)) rfl (fun c6=>?_) (fun c6=>?_)))))))))
 ·
  replace c6:=QQ1 c6
  refine Qap (Qdp (congrArg Value.bool (QQ3 c6)) ?_)
  refine Qag (Qbj [some 20,some 21,some 22,some 23,some 24,some 25,some 26,some 27,some 2] [] [0,1,3,7,15,31,63,127,255] [pv (Pq b1 (0+4)),pv (I7 o.item),pv (.bool (decide (o.item=0))),pv (.bool (decide (o.item=0))),pg ((decide (o.item=0)) == true) (Pq b1 (0+5)),pg ((decide (o.item=0)) == true) (I7 o.qty),pg ((decide (o.item=0)) == true) (.bool (decide (o.qty=0))),pv (.bool ((decide (o.item=0))&&(decide (o.qty=0)))),pv (.bool ((decide (o.item=0))&&(decide (o.qty=0))))] (fun _ _=>_) [8] (by kernel_rfl) hs ⟨?_,?_,?_,?_,?_,?_,?_,?_,?_,trivial⟩ ?_)
  ·exact oa [] fun D J w hs=>Qae QcU rfl (Zz hs)
  ·exact oa [0] fun D J w hs=>QaE (V:=.int .u16 o.item) Qar hs 0 rfl rfl rfl (Zz hs)
  ·exact oa [1] fun D J w hs=>QaS rfl rfl (Zz hs)
  ·exact oa [2] fun D J w hs=>Qac (V:=.bool (decide (o.item=0))) rfl (Zz hs)
  ·exact og [3] fun D J w hG hs=>Qae Qdt rfl (Zz hs)
  ·exact oy [3,4] [4] fun D J w hG hs=>QaE (V:=.int .u16 o.qty) Qar hs 0 rfl rfl rfl (Zz hs)
  ·exact oy [3,5] [5] fun D J w hG hs=>QaS rfl rfl (Zz hs)
  ·exact oa [3,6] fun D J w hs=>Qa4 (h':=decide (o.qty=0)) rfl rfl rfl (Zz hs)
  ·exact oa [7] fun D J w hs=>Qad (V:=.bool ((decide (o.item=0))&&(decide (o.qty=0)))) rfl (Zz hs)
  rintro J1 w7 J2 hJ hs
  replace hJ:J2=upd (mix (sq 20 8++[2]) J1 _) 2 (.bool ((decide (o.item=0))&&(decide (o.qty=0)))):=hJ
  subst hJ
  refine Qau ?_
  refine ⟨_,Qaq (V:=.bool ((decide (o.item=0))&&(decide (o.qty=0)))) Tryz.results151 rfl,(Zr hs (congrArg Value.bool ?_))⟩
  unfold Qcb
  have ⟨_,_,_,_,⟨hq1,hq2⟩,_,_⟩:=ho
  simp_all
  try omega
 replace c6:=QQ2 c6
 refine Qab (Qaa (QaS rfl rfl (Qaa (Qad (V:=.bool (decide (o.kind=5))) rfl (Qaf (Qan (t:=decide (o.kind=5)) rfl (fun c8=>?_) (fun c8=>?_)))))))
 ·
  replace c8:=QQ1 c8
  refine Qag (Qbj [some 20,some 21,some 22,some 23,some 24,some 25,some 26,some 27,some 2] [] [0,1,3,7,15,31,63,127,255] [pv (Pq b1 (0+4)),pv (I7 o.item),pv (.bool (decide (o.item=0))),pv (.bool (decide (o.item=0))),pg ((decide (o.item=0)) == true) (Pq b1 (0+5)),pg ((decide (o.item=0)) == true) (I7 o.qty),pg ((decide (o.item=0)) == true) (.bool (decide (o.qty=0))),pv (.bool ((decide (o.item=0))&&(decide (o.qty=0)))),pv (.bool ((decide (o.item=0))&&(decide (o.qty=0))))] (fun _ _=>_) [8] (by kernel_rfl) hs ⟨?_,?_,?_,?_,?_,?_,?_,?_,?_,trivial⟩ ?_)
  ·exact oa [] fun D J w hs=>Qae QcU rfl (Zz hs)
  ·exact oa [0] fun D J w hs=>QaE (V:=.int .u16 o.item) Qar hs 0 rfl rfl rfl (Zz hs)
  ·exact oa [1] fun D J w hs=>QaS rfl rfl (Zz hs)
  ·exact oa [2] fun D J w hs=>Qac (V:=.bool (decide (o.item=0))) rfl (Zz hs)
  ·exact og [3] fun D J w hG hs=>Qae Qdt rfl (Zz hs)
  ·exact oy [3,4] [4] fun D J w hG hs=>QaE (V:=.int .u16 o.qty) Qar hs 0 rfl rfl rfl (Zz hs)
  ·exact oy [3,5] [5] fun D J w hG hs=>QaS rfl rfl (Zz hs)
  ·exact oa [3,6] fun D J w hs=>Qa4 (h':=decide (o.qty=0)) rfl rfl rfl (Zz hs)
  ·exact oa [7] fun D J w hs=>Qad (V:=.bool ((decide (o.item=0))&&(decide (o.qty=0)))) rfl (Zz hs)
  rintro J1 w9 J2 hJ hs
  replace hJ:J2=upd (mix (sq 20 8++[2]) J1 _) 2 (.bool ((decide (o.item=0))&&(decide (o.qty=0)))):=hJ
  subst hJ
  refine Qau ?_
  refine ⟨_,Qaq (V:=.bool ((decide (o.item=0))&&(decide (o.qty=0)))) Tryz.results151 rfl,(Zr hs (congrArg Value.bool ?_))⟩
  unfold Qcb
  have ⟨_,_,_,_,⟨hq1,hq2⟩,_,_⟩:=ho
  simp_all
  try omega
 replace c8:=QQ2 c8
 refine Qap (Qag (Qab (Qaa (Qad (V:=.bool false) rfl (Qaf (Qau ?_))))))
 refine ⟨_,Qaq (V:=.bool false) Tryz.results151 rfl,(Zr hs (congrArg Value.bool ?_))⟩
 unfold Qcb
 have ⟨_,_,_,_,⟨hq1,hq2⟩,_,_⟩:=ho
 simp_all
 try omega
theorem Qpb (w:World) (o:Opn) (ho:Qds o):Calls Tryz.prog 152 #[.agg (oc o).toArray] w (fun e w'=>e = .returned (.bool (Qcb o))/\Own w no w' []):=by
 refine Qaj (n:=28) Tryz.func152 rfl Tryz.ntmps152 rfl ?_
 have hs:=Own.start w
 refine Qag (Qab (Qaa (QaN (V:=.agg (oc o).toArray) (cs:=oc o) rfl rfl hs fun b1 w2 hs=>(Qaa (Qad (V:=.bool false) rfl (Qaf (Qag (Qag (Qab (Qaa (Qae QbR rfl (Qaa (QaE (V:=.int .u8 o.kind) QcN hs 0 rfl rfl rfl (Qaf (Qam (Qag (Qab (Qaa (QaS rfl rfl (Qaa (Qad (V:=.bool (decide (o.kind=1))) rfl (Qaf (Qan (t:=decide (o.kind=1)) rfl (fun c3=>?_) (fun c3=>?_))))))))))))))))))))))))
 ·
  replace c3:=QQ1 c3
  refine Qag (Qab (Qaa (Qae Qdt rfl (Qaa (QaE (V:=I7 o.qty) Qar hs 0 rfl rfl rfl (Qaa (Qcz rfl rfl (Qaa (Qad (V:=.bool (decide (1<=o.qty))) rfl (Qaf (Qau ?_)))))))))))
  refine ⟨_,Qaq (V:=.bool (decide (1<=o.qty))) Tryz.results152 rfl,(Zr hs (congrArg Value.bool ?_))⟩
  unfold Qcb
  have ⟨_,_,_,_,⟨hq1,hq2⟩,_,_⟩:=ho
  simp_all
  try omega
 replace c3:=QQ2 c3
 refine Qag (Qab (Qaa (QaS rfl rfl (Qaa (Qad (V:=.bool (decide (o.kind=2))) rfl (Qaf (Qan (t:=decide (o.kind=2)) rfl (fun c4=>?_) (fun c4=>?_))))))))
 ·
  replace c4:=QQ1 c4
  refine Qag (Qab (Qaa (Qad (V:=.bool true) rfl (Qaf (Qau ?_)))))
  refine ⟨_,Qaq (V:=.bool true) Tryz.results152 rfl,(Zr hs (congrArg Value.bool ?_))⟩
  unfold Qcb
  have ⟨_,_,_,_,⟨hq1,hq2⟩,_,_⟩:=ho
  simp_all
  try omega
 replace c4:=QQ2 c4
 refine Qag (Qab (Qaa (QaS rfl rfl (Qaa (Qad (V:=.bool (decide (o.kind=3))) rfl (Qaf (Qan (t:=decide (o.kind=3)) rfl (fun c5=>?_) (fun c5=>?_))))))))
 ·
  replace c5:=QQ1 c5
  refine Qag (Qab (Qaa (Qae Qdt rfl (Qaa (QaE (V:=I7 o.qty) Qar hs 0 rfl rfl rfl (Qaa (QaS rfl rfl (Qaa (Qad (V:=.bool (decide (o.qty=0))) rfl (Qaf (Qau ?_)))))))))))
  refine ⟨_,Qaq (V:=.bool (decide (o.qty=0))) Tryz.results152 rfl,(Zr hs (congrArg Value.bool ?_))⟩
  unfold Qcb
  have ⟨_,_,_,_,⟨hq1,hq2⟩,_,_⟩:=ho
  simp_all
  try omega
 replace c5:=QQ2 c5
 refine Qag (Qag (Qab (Qaa (QaS rfl rfl (Qaa (Qad (V:=.bool (decide (o.kind=4))) rfl (Qaf (Qan (t:=decide (o.kind=4)) rfl (fun c6=>?_) (fun c6=>?_)))))))))
 ·
  replace c6:=QQ1 c6
  refine Qap (Qdp (congrArg Value.bool (QQ3 c6)) ?_)
  refine Qag (Qbj [some 20,some 21,some 22,some 23,some 24,some 25,some 26,some 27,some 2] [] [0,1,3,7,15,31,63,127,255] [pv (Pq b1 (0+4)),pv (I7 o.item),pv (.bool (decide (o.item=0))),pv (.bool (decide (o.item=0))),pg ((decide (o.item=0)) == true) (Pq b1 (0+5)),pg ((decide (o.item=0)) == true) (I7 o.qty),pg ((decide (o.item=0)) == true) (.bool (decide (o.qty=0))),pv (.bool ((decide (o.item=0))&&(decide (o.qty=0)))),pv (.bool ((decide (o.item=0))&&(decide (o.qty=0))))] (fun _ _=>_) [8] (by kernel_rfl) hs ⟨?_,?_,?_,?_,?_,?_,?_,?_,?_,trivial⟩ ?_)
  ·exact oa [] fun D J w hs=>Qae QcU rfl (Zz hs)
  ·exact oa [0] fun D J w hs=>QaE (V:=.int .u16 o.item) Qar hs 0 rfl rfl rfl (Zz hs)
  ·exact oa [1] fun D J w hs=>QaS rfl rfl (Zz hs)
  ·exact oa [2] fun D J w hs=>Qac (V:=.bool (decide (o.item=0))) rfl (Zz hs)
  ·exact og [3] fun D J w hG hs=>Qae Qdt rfl (Zz hs)
  ·exact oy [3,4] [4] fun D J w hG hs=>QaE (V:=.int .u16 o.qty) Qar hs 0 rfl rfl rfl (Zz hs)
  ·exact oy [3,5] [5] fun D J w hG hs=>QaS rfl rfl (Zz hs)
  ·exact oa [3,6] fun D J w hs=>Qa4 (h':=decide (o.qty=0)) rfl rfl rfl (Zz hs)
  ·exact oa [7] fun D J w hs=>Qad (V:=.bool ((decide (o.item=0))&&(decide (o.qty=0)))) rfl (Zz hs)
  rintro J1 w7 J2 hJ hs
  replace hJ:J2=upd (mix (sq 20 8++[2]) J1 _) 2 (.bool ((decide (o.item=0))&&(decide (o.qty=0)))):=hJ
  subst hJ
  refine Qau ?_
  refine ⟨_,Qaq (V:=.bool ((decide (o.item=0))&&(decide (o.qty=0)))) Tryz.results152 rfl,(Zr hs (congrArg Value.bool ?_))⟩
  unfold Qcb
  have ⟨_,_,_,_,⟨hq1,hq2⟩,_,_⟩:=ho
  simp_all
  try omega
 replace c6:=QQ2 c6
 refine Qab (Qaa (QaS rfl rfl (Qaa (Qad (V:=.bool (decide (o.kind=5))) rfl (Qaf (Qan (t:=decide (o.kind=5)) rfl (fun c8=>?_) (fun c8=>?_)))))))
 ·
  replace c8:=QQ1 c8
  refine Qag (Qbj [some 20,some 21,some 22,some 23,some 24,some 25,some 26,some 27,some 2] [] [0,1,3,7,15,31,63,127,255] [pv (Pq b1 (0+4)),pv (I7 o.item),pv (.bool (decide (o.item=0))),pv (.bool (decide (o.item=0))),pg ((decide (o.item=0)) == true) (Pq b1 (0+5)),pg ((decide (o.item=0)) == true) (I7 o.qty),pg ((decide (o.item=0)) == true) (.bool (decide (o.qty=0))),pv (.bool ((decide (o.item=0))&&(decide (o.qty=0)))),pv (.bool ((decide (o.item=0))&&(decide (o.qty=0))))] (fun _ _=>_) [8] (by kernel_rfl) hs ⟨?_,?_,?_,?_,?_,?_,?_,?_,?_,trivial⟩ ?_)
  ·exact oa [] fun D J w hs=>Qae QcU rfl (Zz hs)
  ·exact oa [0] fun D J w hs=>QaE (V:=.int .u16 o.item) Qar hs 0 rfl rfl rfl (Zz hs)
  ·exact oa [1] fun D J w hs=>QaS rfl rfl (Zz hs)
  ·exact oa [2] fun D J w hs=>Qac (V:=.bool (decide (o.item=0))) rfl (Zz hs)
  ·exact og [3] fun D J w hG hs=>Qae Qdt rfl (Zz hs)
  ·exact oy [3,4] [4] fun D J w hG hs=>QaE (V:=.int .u16 o.qty) Qar hs 0 rfl rfl rfl (Zz hs)
  ·exact oy [3,5] [5] fun D J w hG hs=>QaS rfl rfl (Zz hs)
  ·exact oa [3,6] fun D J w hs=>Qa4 (h':=decide (o.qty=0)) rfl rfl rfl (Zz hs)
  ·exact oa [7] fun D J w hs=>Qad (V:=.bool ((decide (o.item=0))&&(decide (o.qty=0)))) rfl (Zz hs)
  rintro J1 w9 J2 hJ hs
  replace hJ:J2=upd (mix (sq 20 8++[2]) J1 _) 2 (.bool ((decide (o.item=0))&&(decide (o.qty=0)))):=hJ
  subst hJ
  refine Qau ?_
  refine ⟨_,Qaq (V:=.bool ((decide (o.item=0))&&(decide (o.qty=0)))) Tryz.results152 rfl,(Zr hs (congrArg Value.bool ?_))⟩
  unfold Qcb
  have ⟨_,_,_,_,⟨hq1,hq2⟩,_,_⟩:=ho
  simp_all
  try omega
 replace c8:=QQ2 c8
 refine Qap (Qag (Qab (Qaa (Qad (V:=.bool false) rfl (Qaf (Qau ?_))))))
 refine ⟨_,Qaq (V:=.bool false) Tryz.results152 rfl,(Zr hs (congrArg Value.bool ?_))⟩
 unfold Qcb
 have ⟨_,_,_,_,⟨hq1,hq2⟩,_,_⟩:=ho
 simp_all
 try omega
theorem Qmk (w:World) (o:Opn) (n:Int) (hO:Qds o):Calls Tryz.prog 103 #[.agg (oc o).toArray,.int .i64 n] w (fun e w'=>e = .returned (.bool (QaO o n))/\Own w no w' []):=by
 refine Qaj (n:=50) Tryz.func103 rfl Tryz.ntmps103 rfl ?_
 have hs:=Own.start w
 have ⟨⟨⟨hr1,hr2⟩,hr3,hr4⟩,_,_,_,⟨hq1,hq2⟩,_,hctx⟩:=hO
 refine Qag (Qab (Qaa (QaN (V:=.agg (oc o).toArray) (cs:=oc o) rfl rfl hs fun b1 w2 hs=>(Qaa (Qad (V:=.bool false) rfl (Qaf (Qag (Qag (Qbj [some 6,some 7,some 8,some 9,some 10,some 11,some 12,some 13,some 14,some 15,some 16,some 17,some 18,some 19,some 20,some 21,some 22,some 23,some 24,some 25,some 26,some 27,some 28] [] [0,1,0,7,15,31,63,127,255,511,63,2047,4095,8191,16383,32767,65535,131071,262143,524287,1048575,2097151,4194303] [pv (Pq b1 (0+7)),pv (.agg (vc o.ctx).toArray),pv (I6 n),pv (.bool (QaK o.ctx n)),pv (.bool (!(QaK o.ctx n))),pv (.bool (!(QaK o.ctx n))),pg ((!(QaK o.ctx n)) == false) (Pq b1 (0+0)),pg ((!(QaK o.ctx n)) == false) (Pq b1 (0+0+0)),pg ((!(QaK o.ctx n)) == false) (.int .u8 o.dot.rep),pg ((!(QaK o.ctx n)) == false) (I6 o.dot.rep),pg ((!(QaK o.ctx n)) == false) (I6 n),pg ((!(QaK o.ctx n)) == false) (.bool (decide (n<=o.dot.rep))),pv (.bool ((!(QaK o.ctx n))||(decide (n<=o.dot.rep)))),pv (.bool ((!(QaK o.ctx n))||(decide (n<=o.dot.rep)))),pg (((!(QaK o.ctx n))||(decide (n<=o.dot.rep))) == false) (Pq b1 (0+6)),pg (((!(QaK o.ctx n))||(decide (n<=o.dot.rep))) == false) (.int .u32 o.tick),pg (((!(QaK o.ctx n))||(decide (n<=o.dot.rep))) == false) (.bool (decide (1073741824<o.tick))),pv (.bool (((!(QaK o.ctx n))||(decide (n<=o.dot.rep)))||(decide (1073741824<o.tick)))),pv (.bool (((!(QaK o.ctx n))||(decide (n<=o.dot.rep)))||(decide (1073741824<o.tick)))),pg ((((!(QaK o.ctx n))||(decide (n<=o.dot.rep)))||(decide (1073741824<o.tick))) == false) (.agg (oc o).toArray),pg ((((!(QaK o.ctx n))||(decide (n<=o.dot.rep)))||(decide (1073741824<o.tick))) == false) (.bool (Qcb o)),pg ((((!(QaK o.ctx n))||(decide (n<=o.dot.rep)))||(decide (1073741824<o.tick))) == false) (.bool (!(Qcb o))),pv (.bool ((((!(QaK o.ctx n))||(decide (n<=o.dot.rep)))||(decide (1073741824<o.tick)))||(!(Qcb o))))] (fun _ _=>_) [22] (by kernel_rfl) hs ⟨?_,?_,?_,?_,?_,?_,?_,?_,?_,?_,?_,?_,?_,?_,?_,?_,?_,?_,?_,?_,?_,?_,?_,trivial⟩ ?_)))))))))
 ·exact oa [] fun D J w hs=>Qae QdZ rfl (Zz hs)
 ·exact oa [0] fun D J w hs=>Qb0 (vs:=vc o.ctx) QbA hs 0 rfl rfl rfl rfl (Zz hs)
 ·exact oa [] fun D J w hs=>Qac (V:=.int .i64 n) rfl (Zz hs)
 ·exact oa [1,2] fun D J w hs=>Qat (vs:=[.agg (vc o.ctx).toArray,.int .i64 n]) (V:=.bool (QaK o.ctx n)) Qrf rfl rfl (Qf1 _ o.ctx n (by first|assumption|exact Qca)) hs fun _ hs=>Zz hs
 ·exact oa [3] fun D J w hs=>Qbz rfl (Zz hs)
 ·exact oa [4] fun D J w hs=>Qac (V:=.bool (!(QaK o.ctx n))) rfl (Zz hs)
 ·exact og [5] fun D J w hG hs=>Qae Qb3 rfl (Zz hs)
 ·exact oy [5,6] [6] fun D J w hG hs=>Qae QbI rfl (Zz hs)
 ·exact oy [5,7] [7] fun D J w hG hs=>QaE (V:=.int .u8 o.dot.rep) QcN hs 0 rfl rfl rfl (Zz hs)
 ·exact oy [5,8] [8] fun D J w hG hs=>QbU Qwl Qg2 rfl (QbH (by omega) (by omega)) (Zz hs)
 ·exact og [5] fun D J w hG hs=>Qac (V:=.int .i64 n) rfl (Zz hs)
 ·exact oy [5,9,10] [9,10] fun D J w hG hs=>Qcz rfl rfl (Zz hs)
 ·exact oa [5,11] fun D J w hs=>Qb4 (h':=decide (n<=o.dot.rep)) rfl rfl rfl (Zz hs)
 ·exact oa [12] fun D J w hs=>Qac (V:=.bool ((!(QaK o.ctx n))||(decide (n<=o.dot.rep)))) rfl (Zz hs)
 ·exact og [13] fun D J w hG hs=>Qae QhH rfl (Zz hs)
 ·exact oy [13,14] [14] fun D J w hG hs=>QaE (V:=.int .u32 o.tick) Qa6 hs 0 rfl rfl rfl (Zz hs)
 ·exact oy [13,15] [15] fun D J w hG hs=>QbY rfl rfl (Zz hs)
 ·exact oa [13,16] fun D J w hs=>Qb4 (h':=decide (1073741824<o.tick)) rfl rfl rfl (Zz hs)
 ·exact oa [17] fun D J w hs=>Qac (V:=.bool (((!(QaK o.ctx n))||(decide (n<=o.dot.rep)))||(decide (1073741824<o.tick)))) rfl (Zz hs)
 ·exact og [18] fun D J w hG hs=>QaG (cs:=oc o) Qb5 hs 0 rfl rfl rfl (Zz hs)
 ·exact oy [18,19] [19] fun D J w hG hs=>Qat (vs:=[.agg (oc o).toArray]) (V:=.bool (Qcb o)) QtD rfl rfl (QoN _ o (by assumption)) hs fun _ hs=>Zz hs
 ·exact oy [18,20] [20] fun D J w hG hs=>Qbz rfl (Zz hs)
 ·exact oa [18,21] fun D J w hs=>Qb4 (h':=!(Qcb o)) rfl rfl rfl (Zz hs)
 rintro J1 w5 J2 hJ hs
 replace hJ:J2=upd (mix (sq 6 23) J1 _) 28 (.bool ((((!(QaK o.ctx n))||(decide (n<=o.dot.rep)))||(decide (1073741824<o.tick)))||(!(Qcb o)))):=hJ
 subst hJ
 refine Qan (t:=(((!(QaK o.ctx n))||(decide (n<=o.dot.rep)))||(decide (1073741824<o.tick)))||(!(Qcb o))) rfl (fun c6=>?_) (fun c6=>?_)
 ·
  refine Qag (Qab (Qaa (Qad (V:=.bool false) rfl (Qaf (Qau ?_)))))
  refine ⟨_,Qaq (V:=.bool false) Tryz.results103 rfl,(Zr hs ?_)⟩
  exact congrArg Value.bool (QoQ c6).symm
 have c6r:=Qfk c6
 replace c6:=Qfj c6
 have c6rr:=Qfk c6
 replace c6:=Qfj c6
 have c6rrr:=Qfk c6
 replace c6:=Qfj c6
 replace c6:=Qbf c6
 replace c6rrr:=QQ2 c6rrr
 replace c6rr:=QQ2 c6rr
 replace c6r:=Qbf c6r
 refine Qap (Qag (Qab (Qaa (Qae Qb3 rfl (Qaa (Qb0 (vs:=dc o.dot) QcR hs 0 rfl rfl rfl rfl (Qaa (QaM (cs:=dc (⟨0,0⟩:Dot)) QuX rfl hs fun b7 w8 hs=>(Qaa (QcK (V:=.agg (dc o.dot).toArray) (vs:=dc o.dot) (cs':=dc o.dot) QcR.1 hs 1 rfl rfl rfl rfl rfl (QQ8 rfl) (Qt1 _) (QaB rfl) fun w9 hs=>(Qaf (Qag ?_))))))))))))
 have hnn:=Qhz c6
 refine QaI HM [some 31,some 32,some 33,some 34,some 35,some 36,some 37,some 38,some 39,some 40,some 41,some 42,some 43,some 44,some 45,some 46,some 47,some 48,some 49,some 4] [] [0,1,3,7,15,31,63,127,255,511,1023,511,4095,8191,511,16895,49663,131071,262143,524287] [pv (Pq b7 (0+1)),pv (.int .u32 o.dot.seq),pv (.bool (decide (1<=o.dot.seq))),pv (.bool (decide (1<=o.dot.seq))),pg ((decide (1<=o.dot.seq)) == true) (Pq b7 (0+1)),pg ((decide (1<=o.dot.seq)) == true) (.int .u32 o.dot.seq),pg ((decide (1<=o.dot.seq)) == true) (.bool (decide (o.dot.seq<=1048576))),pv (.bool ((decide (1<=o.dot.seq))&&(decide (o.dot.seq<=1048576)))),pv (.bool ((decide (1<=o.dot.seq))&&(decide (o.dot.seq<=1048576)))),pg (((decide (1<=o.dot.seq))&&(decide (o.dot.seq<=1048576))) == true) (Pq b7 (0+0)),pg (((decide (1<=o.dot.seq))&&(decide (o.dot.seq<=1048576))) == true) (.int .u8 o.dot.rep),pg (((decide (1<=o.dot.seq))&&(decide (o.dot.seq<=1048576))) == true) (Pq b1 (0+7)),pg (((decide (1<=o.dot.seq))&&(decide (o.dot.seq<=1048576))) == true) (.pointer (some ⟨b1,0+7+o.dot.rep.toNat,none⟩)),pg (((decide (1<=o.dot.seq))&&(decide (o.dot.seq<=1048576))) == true) (.int .u32 (vat o.ctx o.dot.rep.toNat)),pg (((decide (1<=o.dot.seq))&&(decide (o.dot.seq<=1048576))) == true) (Pq b7 (0+1)),pg (((decide (1<=o.dot.seq))&&(decide (o.dot.seq<=1048576))) == true) (.int .u32 o.dot.seq),pg (((decide (1<=o.dot.seq))&&(decide (o.dot.seq<=1048576))) == true) (.int .u32 (o.dot.seq-1)),pg (((decide (1<=o.dot.seq))&&(decide (o.dot.seq<=1048576))) == true) (.bool (decide (vat o.ctx o.dot.rep.toNat=o.dot.seq-1))),pv (.bool (((decide (1<=o.dot.seq))&&(decide (o.dot.seq<=1048576)))&&(decide (vat o.ctx o.dot.rep.toNat=o.dot.seq-1)))),pv (.bool (((decide (1<=o.dot.seq))&&(decide (o.dot.seq<=1048576)))&&(decide (vat o.ctx o.dot.rep.toNat=o.dot.seq-1))))] (fun _ _=>_) [19] (by kernel_rfl) hs ⟨?_,?_,?_,?_,?_,?_,?_,?_,?_,?_,?_,?_,?_,?_,?_,?_,?_,?_,?_,?_,trivial⟩ ?_
 ·exact oa [] fun D J w hs=>Qae QbQ rfl (Zz hs)
 ·exact oa [0] fun D J w hs=>QaE (V:=.int .u32 o.dot.seq) Qa6 hs 1 rfl rfl rfl (Zz hs)
 ·exact oa [1] fun D J w hs=>Qcz rfl rfl (Zz hs)
 ·exact oa [2] fun D J w hs=>Qac (V:=.bool (decide (1<=o.dot.seq))) rfl (Zz hs)
 ·exact og [3] fun D J w hG hs=>Qae QbQ rfl (Zz hs)
 ·exact oy [3,4] [4] fun D J w hG hs=>QaE (V:=.int .u32 o.dot.seq) Qa6 hs 1 rfl rfl rfl (Zz hs)
 ·exact oy [3,5] [5] fun D J w hG hs=>Qdn rfl rfl (Zz hs)
 ·exact oa [3,6] fun D J w hs=>Qa4 (h':=decide (o.dot.seq<=1048576)) rfl rfl rfl (Zz hs)
 ·exact oa [7] fun D J w hs=>Qac (V:=.bool ((decide (1<=o.dot.seq))&&(decide (o.dot.seq<=1048576)))) rfl (Zz hs)
 ·refine og [8] fun D J w hG hs=>?_
  have hg9:=QbD (eq_of_beq hG)
  have hgd:=QQ1 hg9
  exact Qae QbI rfl (Zz hs)
 ·refine oy [8,9] [9] fun D J w hG hs=>?_
  have hg9:=QbD (eq_of_beq hG)
  have hgd:=QQ1 hg9
  exact QaE (V:=.int .u8 o.dot.rep) QcN hs 1 rfl rfl rfl (Zz hs)
 ·refine og [8] fun D J w hG hs=>?_
  have hg9:=QbD (eq_of_beq hG)
  have hgd:=QQ1 hg9
  exact Qae QdZ rfl (Zz hs)
 ·refine oy [8,10,11] [10,11] fun D J w hG hs=>?_
  have hg9:=QbD (eq_of_beq hG)
  have hgd:=QQ1 hg9
  exact QcA Qfa Qa6.1 rfl rfl (by omega) (by omega) (Zz hs)
 ·refine oy [8,12] [12] fun D J w hG hs=>?_
  have hg9:=QbD (eq_of_beq hG)
  have hgd:=QQ1 hg9
  exact QaE (V:=.int .u32 (vat o.ctx o.dot.rep.toNat)) Qa6 hs 0 rfl rfl (Qqi (by omega) (by omega)) (Zz hs)
 ·refine og [8] fun D J w hG hs=>?_
  have hg9:=QbD (eq_of_beq hG)
  have hgd:=QQ1 hg9
  exact Qae QbQ rfl (Zz hs)
 ·refine oy [8,14] [14] fun D J w hG hs=>?_
  have hg9:=QbD (eq_of_beq hG)
  have hgd:=QQ1 hg9
  exact QaE (V:=.int .u32 o.dot.seq) Qa6 hs 1 rfl rfl rfl (Zz hs)
 ·refine oy [8,15] [15] fun D J w hG hs=>?_
  have hg9:=QbD (eq_of_beq hG)
  have hgd:=QQ1 hg9
  exact Qa7 (a:=o.dot.seq) (b:=1) (c:=o.dot.seq-1) rfl rfl (Qgr (by omega) (by omega)) (Zz hs)
 ·refine oy [8,13,16] [13,16] fun D J w hG hs=>?_
  have hg9:=QbD (eq_of_beq hG)
  have hgd:=QQ1 hg9
  exact QaS rfl rfl (Zz hs)
 ·exact oa [8,17] fun D J w hs=>Qa4 (h':=decide (vat o.ctx o.dot.rep.toNat=o.dot.seq-1)) rfl rfl rfl (Zz hs)
 ·exact oa [18] fun D J w hs=>Qad (V:=.bool (((decide (1<=o.dot.seq))&&(decide (o.dot.seq<=1048576)))&&(decide (vat o.ctx o.dot.rep.toNat=o.dot.seq-1)))) rfl (Zz hs)
 rintro J1 w10 J2 hJ hs
 replace hJ:J2=upd (mix (sq 31 19++[4]) J1 _) 4 (.bool (((decide (1<=o.dot.seq))&&(decide (o.dot.seq<=1048576)))&&(decide (vat o.ctx o.dot.rep.toNat=o.dot.seq-1)))):=hJ
 subst hJ
 refine Qau ?_
 refine ⟨_,Qaq (V:=.bool (((decide (1<=o.dot.seq))&&(decide (o.dot.seq<=1048576)))&&(decide (vat o.ctx o.dot.rep.toNat=o.dot.seq-1)))) Tryz.results103 rfl,(Zr hs ?_)⟩
 exact congrArg Value.bool (Qor c6 c6rrr c6rr c6r).symm
theorem QkV (w:World) (o:Opn) (n:Int) (hO:Qds o):Calls Tryz.prog 105 #[.agg (oc o).toArray,.int .i64 n] w (fun e w'=>e = .returned (.bool (QaO o n))/\Own w no w' []):=by
 refine Qaj (n:=52) Tryz.func105 rfl Tryz.ntmps105 rfl ?_
 have hs:=Own.start w
 have ⟨⟨⟨hr1,hr2⟩,hr3,hr4⟩,_,_,_,⟨hq1,hq2⟩,_,hctx⟩:=hO
 refine Qag (Qab (Qaa (QaN (V:=.agg (oc o).toArray) (cs:=oc o) rfl rfl hs fun b1 w2 hs=>(Qaa (Qad (V:=.bool false) rfl (Qaf (Qag (Qag (Qbj [some 5,some 6,some 7,some 8,some 9,some 10,some 11,some 12,some 13,some 14,some 15,some 16,some 17,some 18,some 19,some 20,some 21,some 22,some 23,some 24,some 25,some 26,some 27,some 28,some 29,some 30,some 31] [] [0,1,3,7,15,31,63,127,255,511,1023,127,4095,8191,16383,32767,65535,131071,262143,524287,1048575,2097151,4194303,2097151,16777215,33554431,67108863] [pv (I6 n),pv (.bool (decide (n<1))),pv (.bool (decide (n<1))),pg ((decide (n<1)) == false) (I6 n),pg ((decide (n<1)) == false) (.bool (decide (16<n))),pv (.bool ((decide (n<1))||(decide (16<n)))),pv (.bool ((decide (n<1))||(decide (16<n)))),pg (((decide (n<1))||(decide (16<n))) == false) (Pq b1 (0+0)),pg (((decide (n<1))||(decide (16<n))) == false) (Pq b1 (0+0+0)),pg (((decide (n<1))||(decide (16<n))) == false) (.int .u8 o.dot.rep),pg (((decide (n<1))||(decide (16<n))) == false) (I6 o.dot.rep),pg (((decide (n<1))||(decide (16<n))) == false) (I6 n),pg (((decide (n<1))||(decide (16<n))) == false) (.bool (decide (n<=o.dot.rep))),pv (.bool (((decide (n<1))||(decide (16<n)))||(decide (n<=o.dot.rep)))),pv (.bool (((decide (n<1))||(decide (16<n)))||(decide (n<=o.dot.rep)))),pg ((((decide (n<1))||(decide (16<n)))||(decide (n<=o.dot.rep))) == false) (Pq b1 (0+0)),pg ((((decide (n<1))||(decide (16<n)))||(decide (n<=o.dot.rep))) == false) (.agg (dc o.dot).toArray),pg ((((decide (n<1))||(decide (16<n)))||(decide (n<=o.dot.rep))) == false) (.bool (Qcd o.dot)),pg ((((decide (n<1))||(decide (16<n)))||(decide (n<=o.dot.rep))) == false) (.bool (!(Qcd o.dot))),pv (.bool ((((decide (n<1))||(decide (16<n)))||(decide (n<=o.dot.rep)))||(!(Qcd o.dot)))),pv (.bool ((((decide (n<1))||(decide (16<n)))||(decide (n<=o.dot.rep)))||(!(Qcd o.dot)))),pg (((((decide (n<1))||(decide (16<n)))||(decide (n<=o.dot.rep)))||(!(Qcd o.dot))) == false) (Pq b1 (0+7)),pg (((((decide (n<1))||(decide (16<n)))||(decide (n<=o.dot.rep)))||(!(Qcd o.dot))) == false) (.agg (vc o.ctx).toArray),pg (((((decide (n<1))||(decide (16<n)))||(decide (n<=o.dot.rep)))||(!(Qcd o.dot))) == false) (I6 n),pg (((((decide (n<1))||(decide (16<n)))||(decide (n<=o.dot.rep)))||(!(Qcd o.dot))) == false) (.bool (QaK o.ctx n)),pg (((((decide (n<1))||(decide (16<n)))||(decide (n<=o.dot.rep)))||(!(Qcd o.dot))) == false) (.bool (!(QaK o.ctx n))),pv (.bool (((((decide (n<1))||(decide (16<n)))||(decide (n<=o.dot.rep)))||(!(Qcd o.dot)))||(!(QaK o.ctx n))))] (fun _ _=>_) [26] (by kernel_rfl) hs ⟨?_,?_,?_,?_,?_,?_,?_,?_,?_,?_,?_,?_,?_,?_,?_,?_,?_,?_,?_,?_,?_,?_,?_,?_,?_,?_,?_,trivial⟩ ?_)))))))))
 ·exact oa [] fun D J w hs=>Qac (V:=.int .i64 n) rfl (Zz hs)
 ·exact oa [0] fun D J w hs=>QaQ rfl rfl (Zz hs)
 ·exact oa [1] fun D J w hs=>Qac (V:=.bool (decide (n<1))) rfl (Zz hs)
 ·exact og [2] fun D J w hG hs=>Qac (V:=.int .i64 n) rfl (Zz hs)
 ·exact oy [2,3] [3] fun D J w hG hs=>QbY rfl rfl (Zz hs)
 ·exact oa [2,4] fun D J w hs=>Qb4 (h':=decide (16<n)) rfl rfl rfl (Zz hs)
 ·exact oa [5] fun D J w hs=>Qac (V:=.bool ((decide (n<1))||(decide (16<n)))) rfl (Zz hs)
 ·exact og [6] fun D J w hG hs=>Qae Qb3 rfl (Zz hs)
 ·exact oy [6,7] [7] fun D J w hG hs=>Qae QbI rfl (Zz hs)
 ·exact oy [6,8] [8] fun D J w hG hs=>QaE (V:=.int .u8 o.dot.rep) QcN hs 0 rfl rfl rfl (Zz hs)
 ·exact oy [6,9] [9] fun D J w hG hs=>QbU Qwl Qg2 rfl (QbH (by omega) (by omega)) (Zz hs)
 ·exact og [6] fun D J w hG hs=>Qac (V:=.int .i64 n) rfl (Zz hs)
 ·exact oy [6,10,11] [10,11] fun D J w hG hs=>Qcz rfl rfl (Zz hs)
 ·exact oa [6,12] fun D J w hs=>Qb4 (h':=decide (n<=o.dot.rep)) rfl rfl rfl (Zz hs)
 ·exact oa [13] fun D J w hs=>Qac (V:=.bool (((decide (n<1))||(decide (16<n)))||(decide (n<=o.dot.rep)))) rfl (Zz hs)
 ·exact og [14] fun D J w hG hs=>Qae Qb3 rfl (Zz hs)
 ·exact oy [14,15] [15] fun D J w hG hs=>Qb0 (vs:=dc o.dot) QcR hs 0 rfl rfl rfl rfl (Zz hs)
 ·exact oy [14,16] [16] fun D J w hG hs=>Qat (vs:=[.agg (dc o.dot).toArray]) (V:=.bool (Qcd o.dot)) Qp2 rfl rfl (Ql3 _ o.dot) hs fun _ hs=>Zz hs
 ·exact oy [14,17] [17] fun D J w hG hs=>Qbz rfl (Zz hs)
 ·exact oa [14,18] fun D J w hs=>Qb4 (h':=!(Qcd o.dot)) rfl rfl rfl (Zz hs)
 ·exact oa [19] fun D J w hs=>Qac (V:=.bool ((((decide (n<1))||(decide (16<n)))||(decide (n<=o.dot.rep)))||(!(Qcd o.dot)))) rfl (Zz hs)
 ·exact og [20] fun D J w hG hs=>Qae QdZ rfl (Zz hs)
 ·exact oy [20,21] [21] fun D J w hG hs=>Qb0 (vs:=vc o.ctx) QbA hs 0 rfl rfl rfl rfl (Zz hs)
 ·exact og [20] fun D J w hG hs=>Qac (V:=.int .i64 n) rfl (Zz hs)
 ·exact oy [20,22,23] [22,23] fun D J w hG hs=>Qat (vs:=[.agg (vc o.ctx).toArray,.int .i64 n]) (V:=.bool (QaK o.ctx n)) QqJ rfl rfl (Qf8 _ o.ctx n (by first|assumption|exact Qca)) hs fun _ hs=>Zz hs
 ·exact oy [20,24] [24] fun D J w hG hs=>Qbz rfl (Zz hs)
 ·exact oa [20,25] fun D J w hs=>Qb4 (h':=!(QaK o.ctx n)) rfl rfl rfl (Zz hs)
 rintro J1 w5 J2 hJ hs
 replace hJ:J2=upd (mix (sq 5 27) J1 _) 31 (.bool (((((decide (n<1))||(decide (16<n)))||(decide (n<=o.dot.rep)))||(!(Qcd o.dot)))||(!(QaK o.ctx n)))):=hJ
 subst hJ
 refine Qan (t:=((((decide (n<1))||(decide (16<n)))||(decide (n<=o.dot.rep)))||(!(Qcd o.dot)))||(!(QaK o.ctx n))) rfl (fun c6=>?_) (fun c6=>?_)
 ·
  refine Qag (Qab (Qaa (Qad (V:=.bool false) rfl (Qaf (Qau ?_)))))
  refine ⟨_,Qaq (V:=.bool false) Tryz.results105 rfl,(Zr hs ?_)⟩
  exact congrArg Value.bool (Qmc c6).symm
 have c6r:=Qfk c6
 replace c6:=Qfj c6
 have c6rr:=Qfk c6
 replace c6:=Qfj c6
 have c6rrr:=Qfk c6
 replace c6:=Qfj c6
 have c6rrrr:=Qfk c6
 replace c6:=Qfj c6
 replace c6:=QQ2 c6
 replace c6rrrr:=QQ2 c6rrrr
 replace c6rrr:=QQ2 c6rrr
 replace c6rr:=Qbf c6rr
 replace c6r:=Qbf c6r
 refine Qap (Qag ?_)
 have hnn:=Qhz c6r
 have hdd:=QaP c6rr
 refine QaI HM [some 32,some 33,some 34,some 35,some 36,some 37,some 38,some 39,some 40,some 41,some 42,some 43,some 44,some 45,some 46,some 47,some 48,some 49,some 50,some 51,some 4] [] [0,1,3,0,15,31,0,64,192,448,1023,2047,4095,8191,16383,32767,65535,131071,262143,524287,1048575] [pv (Pq b1 (0+0)),pv (Pq b1 (0+0+0)),pv (.int .u8 o.dot.rep),pv (Pq b1 (0+7)),pv (.pointer (some ⟨b1,0+7+o.dot.rep.toNat,none⟩)),pv (.int .u32 (vat o.ctx o.dot.rep.toNat)),pv (Pq b1 (0+0)),pv (Pq b1 (0+0+1)),pv (.int .u32 o.dot.seq),pv (.int .u32 (o.dot.seq-1)),pv (.bool (decide (vat o.ctx o.dot.rep.toNat=o.dot.seq-1))),pv (.bool (decide (vat o.ctx o.dot.rep.toNat=o.dot.seq-1))),pg ((decide (vat o.ctx o.dot.rep.toNat=o.dot.seq-1)) == true) (Pq b1 (0+6)),pg ((decide (vat o.ctx o.dot.rep.toNat=o.dot.seq-1)) == true) (.int .u32 o.tick),pg ((decide (vat o.ctx o.dot.rep.toNat=o.dot.seq-1)) == true) (.bool (decide (o.tick<=1073741824))),pv (.bool ((decide (vat o.ctx o.dot.rep.toNat=o.dot.seq-1))&&(decide (o.tick<=1073741824)))),pv (.bool ((decide (vat o.ctx o.dot.rep.toNat=o.dot.seq-1))&&(decide (o.tick<=1073741824)))),pg (((decide (vat o.ctx o.dot.rep.toNat=o.dot.seq-1))&&(decide (o.tick<=1073741824))) == true) (.agg (oc o).toArray),pg (((decide (vat o.ctx o.dot.rep.toNat=o.dot.seq-1))&&(decide (o.tick<=1073741824))) == true) (.bool (Qcb o)),pv (.bool (((decide (vat o.ctx o.dot.rep.toNat=o.dot.seq-1))&&(decide (o.tick<=1073741824)))&&(Qcb o))),pv (.bool (((decide (vat o.ctx o.dot.rep.toNat=o.dot.seq-1))&&(decide (o.tick<=1073741824)))&&(Qcb o)))] (fun _ _=>_) [20] (by kernel_rfl) hs ⟨?_,?_,?_,?_,?_,?_,?_,?_,?_,?_,?_,?_,?_,?_,?_,?_,?_,?_,?_,?_,?_,trivial⟩ ?_
 ·exact oa [] fun D J w hs=>Qae Qb3 rfl (Zz hs)
 ·exact oa [0] fun D J w hs=>Qae QbI rfl (Zz hs)
 ·exact oa [1] fun D J w hs=>QaE (V:=.int .u8 o.dot.rep) QcN hs 0 rfl rfl rfl (Zz hs)
 ·exact oa [] fun D J w hs=>Qae QdZ rfl (Zz hs)
 ·exact oa [2,3] fun D J w hs=>QcA Qfa Qa6.1 rfl rfl (by omega) (by omega) (Zz hs)
 ·exact oa [4] fun D J w hs=>QaE (V:=.int .u32 (vat o.ctx o.dot.rep.toNat)) Qa6 hs 0 rfl rfl (Qqi (by omega) (by omega)) (Zz hs)
 ·exact oa [] fun D J w hs=>Qae Qb3 rfl (Zz hs)
 ·exact oa [6] fun D J w hs=>Qae QbQ rfl (Zz hs)
 ·exact oa [7] fun D J w hs=>QaE (V:=.int .u32 o.dot.seq) Qa6 hs 0 rfl rfl rfl (Zz hs)
 ·exact oa [8] fun D J w hs=>Qa7 (a:=o.dot.seq) (b:=1) (c:=o.dot.seq-1) rfl rfl (Qgr (by omega) (by omega)) (Zz hs)
 ·exact oa [5,9] fun D J w hs=>QaS rfl rfl (Zz hs)
 ·exact oa [10] fun D J w hs=>Qac (V:=.bool (decide (vat o.ctx o.dot.rep.toNat=o.dot.seq-1))) rfl (Zz hs)
 ·exact og [11] fun D J w hG hs=>Qae QhH rfl (Zz hs)
 ·exact oy [11,12] [12] fun D J w hG hs=>QaE (V:=.int .u32 o.tick) Qa6 hs 0 rfl rfl rfl (Zz hs)
 ·exact oy [11,13] [13] fun D J w hG hs=>Qdn rfl rfl (Zz hs)
 ·exact oa [11,14] fun D J w hs=>Qa4 (h':=decide (o.tick<=1073741824)) rfl rfl rfl (Zz hs)
 ·exact oa [15] fun D J w hs=>Qac (V:=.bool ((decide (vat o.ctx o.dot.rep.toNat=o.dot.seq-1))&&(decide (o.tick<=1073741824)))) rfl (Zz hs)
 ·exact og [16] fun D J w hG hs=>QaG (cs:=oc o) Qb5 hs 0 rfl rfl rfl (Zz hs)
 ·exact oy [16,17] [17] fun D J w hG hs=>Qat (vs:=[.agg (oc o).toArray]) (V:=.bool (Qcb o)) QsN rfl rfl (Qpb _ o (by assumption)) hs fun _ hs=>Zz hs
 ·exact oa [16,18] fun D J w hs=>Qa4 (h':=Qcb o) rfl rfl rfl (Zz hs)
 ·exact oa [19] fun D J w hs=>Qad (V:=.bool (((decide (vat o.ctx o.dot.rep.toNat=o.dot.seq-1))&&(decide (o.tick<=1073741824)))&&(Qcb o))) rfl (Zz hs)
 rintro J1 w8 J2 hJ hs
 replace hJ:J2=upd (mix (sq 32 20++[4]) J1 _) 4 (.bool (((decide (vat o.ctx o.dot.rep.toNat=o.dot.seq-1))&&(decide (o.tick<=1073741824)))&&(Qcb o))):=hJ
 subst hJ
 refine Qau ?_
 refine ⟨_,Qaq (V:=.bool (((decide (vat o.ctx o.dot.rep.toNat=o.dot.seq-1))&&(decide (o.tick<=1073741824)))&&(Qcb o))) Tryz.results105 rfl,(Zr hs ?_)⟩
 exact congrArg Value.bool (QlE c6rrr c6rr c6r).symm
end Tt
end Go.Proofs
namespace Go.Proofs
open Go Go.Vx Go.RowKit
namespace Tt
theorem Qmz (w:World) (p:Pst) (a1:Option Addr) (c1:Nat) (a2:Option Addr) (c2:Nat) (a3:Option Addr) (c3:Nat) (hok:Qc0 p) (hle:p.base.ents.length<=400) (hlt:p.base.ticks.length<=400) (hlo:p.ops.length<=400) (hr1:Rd w (.slice a1 p.base.ents.length c1) 7 (p.base.ents.map cec)) (hr2:Rd w (.slice a2 p.base.ticks.length c2) 2 (p.base.ticks.map lsc)) (hr3:Rd w (.slice a3 p.ops.length c3) 23 (p.ops.map oc)):Calls Tryz.prog 59 #[.agg (((vc p.base.known)++[(.slice a1 p.base.ents.length c1:Value),(.slice a2 p.base.ticks.length c2:Value) ])++[(.slice a3 p.ops.length c3:Value) ]++(vc p.known)).toArray] w (fun e w'=>e = .returned (.bool (Qb9 p))/\Own w no w' []):=by
 refine Qaj (n:=45) Tryz.func59 rfl Tryz.ntmps59 rfl ?_
 have hs:=Own.start w
 have ⟨hokb,hoko,hokk⟩:=hok
 have hn3:=hr3.sml
 refine Qag (Qab (Qaa (QaN (V:=.agg (((vc p.base.known)++[(.slice a1 p.base.ents.length c1:Value),(.slice a2 p.base.ticks.length c2:Value) ])++[(.slice a3 p.ops.length c3:Value) ]++(vc p.known)).toArray) (cs:=((vc p.base.known)++[(.slice a1 p.base.ents.length c1:Value),(.slice a2 p.base.ticks.length c2:Value) ])++[(.slice a3 p.ops.length c3:Value) ]++(vc p.known)) rfl rfl hs fun b1 w2 hs=>(Qaa (Qad (V:=.bool false) rfl (Qaf (Qag (Qab (Qaa (Qgp rfl hs dv uv fun mr3 w4 hs=>(Qaa (Qad (V:=.map (some mr3)) rfl (Qaf (Qag (Qag (Qab (Qaa (Qae QmX rfl (Qaa (QaE (V:=.slice a3 p.ops.length c3) Qfs hs 0 rfl rfl rfl (Qaa (Qa2 (n:=p.ops.length) QdK (Rd.own' hr3 hs) (by simp) rfl (Qaa (Qac (V:=I6 0) rfl (Qaf (Qam (QaA (fun J μ J' w'=>∃ (Jo:Env) (k:Nat) (sm:List (Dot × Unit)),J'=upd (mix ([2,5,6,7]++sq 12 30) Jo J) 12 (I6 (k:Int))/\(k<=p.ops.length)/\(∀ j:Nat,j<k->QhG p.base.known p.ops j=false)/\(sm=Qiw (p.ops.take k))/\μ=p.ops.length-k/\Own w no w' [blk b1 (((vc p.base.known)++[(.slice a1 p.base.ents.length c1:Value),(.slice a2 p.base.ticks.length c2:Value) ])++[(.slice a3 p.ops.length c3:Value) ]++(vc p.known)) 43,QgV mr3 dv uv sm]) ?_ ?_)))))))))))))))))))))))))))
 ·exact ⟨_,_,0,[],Qai (Qao (ds:=([2,5,6,7]++sq 12 30)) (Agr.refl _ _)) rfl,(by omega),(fun j hj=>absurd hj (Nat.not_lt_zero j)),rfl,rfl,hs⟩
 rintro μ J' w5 ⟨Jo,k,sm,rfl,hk,hbo,hsm,rfl,hs⟩
 refine Qag (Qab (Qaa (QaQ rfl rfl (Qaf (Qag (Qan (t:=decide ((k:Int)<((p.ops.length:Nat):Int))) rfl (fun c6=>?_) (fun c6=>?_)))))))
 ·
  replace c6:=QQ1 c6
  refine Qap (Qag (Qam (Qag (Qab (Qaa (Qaw QdK Qb5.1 (Rd.own' hr3 hs) rfl rfl (by omega) (by rw [QQ6];omega) (Qaa (Qa1 (j:=0) (vs:=oc (gd p.ops k)) k Qb5 (Rd.own' hr3 hs) (QaT (by omega)) rfl rfl rfl (by omega) (Qaa (QaM (cs:=oc (⟨(⟨0,0⟩:Dot),0,0,0,0,0,vzero⟩:Opn)) QnV rfl hs fun b7 w8 hs=>(Qaa (QcK (V:=.agg (oc (gd p.ops k)).toArray) (vs:=oc (gd p.ops k)) (cs':=oc (gd p.ops k)) Qb5.1 hs 2 rfl rfl rfl rfl rfl (QQ8 rfl) (Qey _) (QaB rfl) fun w9 hs=>?_))))))))))))
  replace hs:Own w no w9 [blk b1 (((vc p.base.known)++[(.slice a1 p.base.ents.length c1:Value),(.slice a2 p.base.ticks.length c2:Value) ])++[(.slice a3 p.ops.length c3:Value) ]++(vc p.known)) 43,QgV mr3 dv uv sm,blk b7 (oc (gd p.ops k)) 98]:=hs
  refine Qaf (Qag ?_)
  have hOk:=hoko _ (QbK (l:=p.ops) (i:=k) (by omega))
  have hdk:=hOk.1
  refine Qab (Qaa (Qac (V:=.map (some mr3)) rfl (Qaa (Qae Qb3 rfl (Qaa (Qb0 (vs:=dc ((gd p.ops k).dot)) QcR hs 2 rfl rfl rfl rfl (Qaa (Qgd (k:=(gd p.ops k).dot) Qkt Qoh Qkh (hs.mapf 1 rfl) rfl rfl (Qaa (Qac (V:=.tuple #[.agg #[],.bool ((mget ((gd p.ops k).dot) sm).isSome)]) rfl (Qaa (Qax (V:=.agg #[]) rfl rfl (Qaa (Qax (V:=.bool ((mget ((gd p.ops k).dot) sm).isSome)) rfl rfl (Qaa (QaM (cs:=[]) Qkh rfl hs fun b10 w11 hs=>(Qaa (QcK (V:=.agg #[]) (vs:=[]) (cs':=[]) Qp5.1 hs 3 rfl rfl rfl rfl rfl (QQ8 rfl) Qbk (QaB rfl) fun w12 hs=>(Qaa (Qad (V:=.bool ((mget ((gd p.ops k).dot) sm).isSome)) rfl (Qaf (Qag (Qag (Qbj [some 23,some 24,some 25,some 26,some 27,some 28,some 29,some 30,some 31,some 32,some 33,some 34,some 35,some 36] [] [0,1,3,7,15,31,63,127,255,511,127,1151,4095,8191] [pv (.bool ((mget ((gd p.ops k).dot) sm).isSome)),pv (.bool ((mget ((gd p.ops k).dot) sm).isSome)),pg (((mget ((gd p.ops k).dot) sm).isSome) == false) (.agg (oc (gd p.ops k)).toArray),pg (((mget ((gd p.ops k).dot) sm).isSome) == false) (.bool (QaO (gd p.ops k) 16)),pg (((mget ((gd p.ops k).dot) sm).isSome) == false) (.bool (!(QaO (gd p.ops k) 16))),pv (.bool (((mget ((gd p.ops k).dot) sm).isSome)||(!(QaO (gd p.ops k) 16)))),pv (.bool (((mget ((gd p.ops k).dot) sm).isSome)||(!(QaO (gd p.ops k) 16)))),pg ((((mget ((gd p.ops k).dot) sm).isSome)||(!(QaO (gd p.ops k) 16))) == false) (Pq b1 (0+0)),pg ((((mget ((gd p.ops k).dot) sm).isSome)||(!(QaO (gd p.ops k) 16))) == false) (Pq b1 (0+0+0)),pg ((((mget ((gd p.ops k).dot) sm).isSome)||(!(QaO (gd p.ops k) 16))) == false) (.agg (vc p.base.known).toArray),pg ((((mget ((gd p.ops k).dot) sm).isSome)||(!(QaO (gd p.ops k) 16))) == false) (Pq b7 (0+0)),pg ((((mget ((gd p.ops k).dot) sm).isSome)||(!(QaO (gd p.ops k) 16))) == false) (.agg (dc ((gd p.ops k).dot)).toArray),pg ((((mget ((gd p.ops k).dot) sm).isSome)||(!(QaO (gd p.ops k) 16))) == false) (.bool (QbB p.base.known ((gd p.ops k).dot))),pv (.bool ((((mget ((gd p.ops k).dot) sm).isSome)||(!(QaO (gd p.ops k) 16)))||(QbB p.base.known ((gd p.ops k).dot))))] (fun _ _=>_) [13] (by kernel_rfl) hs ⟨?_,?_,?_,?_,?_,?_,?_,?_,?_,?_,?_,?_,?_,?_,trivial⟩ ?_))))))))))))))))))))))))
  ·exact oa [] fun D J w hs=>Qac (V:=.bool ((mget ((gd p.ops k).dot) sm).isSome)) rfl (Zz hs)
  ·exact oa [0] fun D J w hs=>Qac (V:=.bool ((mget ((gd p.ops k).dot) sm).isSome)) rfl (Zz hs)
  ·exact og [1] fun D J w hG hs=>QaG (cs:=oc (gd p.ops k)) Qb5 hs 2 rfl rfl rfl (Zz hs)
  ·exact oy [1,2] [2] fun D J w hG hs=>Qat (vs:=[.agg (oc (gd p.ops k)).toArray,.int .i64 16]) (V:=.bool (QaO (gd p.ops k) 16)) QtL rfl rfl (Qmk _ (gd p.ops k) 16 (by assumption)) hs fun _ hs=>Zz hs
  ·exact oy [1,3] [3] fun D J w hG hs=>Qbz rfl (Zz hs)
  ·exact oa [1,4] fun D J w hs=>Qb4 (h':=!(QaO (gd p.ops k) 16)) rfl rfl rfl (Zz hs)
  ·exact oa [5] fun D J w hs=>Qac (V:=.bool (((mget ((gd p.ops k).dot) sm).isSome)||(!(QaO (gd p.ops k) 16)))) rfl (Zz hs)
  ·exact og [6] fun D J w hG hs=>Qae Qf5 rfl (Zz hs)
  ·exact oy [6,7] [7] fun D J w hG hs=>Qae QhW rfl (Zz hs)
  ·exact oy [6,8] [8] fun D J w hG hs=>Qb0 (vs:=vc p.base.known) QbA hs 0 rfl rfl rfl rfl (Zz hs)
  ·exact og [6] fun D J w hG hs=>Qae Qb3 rfl (Zz hs)
  ·exact oy [6,10] [10] fun D J w hG hs=>Qb0 (vs:=dc ((gd p.ops k).dot)) QcR hs 2 rfl rfl rfl rfl (Zz hs)
  ·exact oy [6,9,11] [9,11] fun D J w hG hs=>Qat (vs:=[.agg (vc p.base.known).toArray,.agg (dc ((gd p.ops k).dot)).toArray]) (V:=.bool (QbB p.base.known ((gd p.ops k).dot))) Qn3 rfl rfl (QhS _ p.base.known ((gd p.ops k).dot) (by first|assumption|exact Qdl (by omega) (by omega) (by omega) (by omega))) hs fun _ hs=>Zz hs
  ·exact oa [6,12] fun D J w hs=>Qb4 (h':=QbB p.base.known ((gd p.ops k).dot)) rfl rfl rfl (Zz hs)
  rintro J1 w15 J2 hJ hs
  replace hJ:J2=upd (mix (sq 23 14) J1 _) 36 (.bool ((((mget ((gd p.ops k).dot) sm).isSome)||(!(QaO (gd p.ops k) 16)))||(QbB p.base.known ((gd p.ops k).dot)))):=hJ
  subst hJ
  refine Qan (t:=(((mget ((gd p.ops k).dot) sm).isSome)||(!(QaO (gd p.ops k) 16)))||(QbB p.base.known ((gd p.ops k).dot))) rfl (fun c16=>?_) (fun c16=>?_)
  ·
   refine Qag (Qab (Qaa (Qad (V:=.bool false) rfl (Qaf (Qau ?_)))))
   refine ⟨_,Qaq (V:=.bool false) Tryz.results59 rfl,(Zr hs (congrArg Value.bool (Qel (i:=k) (by omega) ?_).symm))⟩
   unfold QhG
   rw [← Qi4,← hsm]
   have hq:=c16
   revert hq
   cases QaO (gd p.ops k) 16<;>cases QbB p.base.known (gd p.ops k).dot<;>cases (mget (gd p.ops k).dot sm).isSome<;>simp
  have c16r:=Qfk c16
  replace c16:=Qfj c16
  have c16rr:=Qfk c16
  replace c16:=Qfj c16
  replace c16rr:=Qbf c16rr
  refine Qap (Qab (Qaa (Qac (V:=.map (some mr3)) rfl (Qaa (Qae Qb3 rfl (Qaa (Qb0 (vs:=dc ((gd p.ops k).dot)) QcR hs 2 rfl rfl rfl rfl (Qaa (Qbw (vs:=[]) (cs:=[]) QqG (rfl) rfl (Qaa (QfO (k:=(gd p.ops k).dot) (v:=()) Qkt Qoh hs 1 rfl rfl rfl rfl fun w17 hs=>(Qaf (Qab (Qaa (QaD (a:=(k:Int)) (b:=1) (c:=((k+1:Nat):Int)) rfl rfl (Qak (by omega) (by omega)) (Qaa (Qac (V:=I6 ((k+1:Nat):Int)) rfl (Qaf ?_))))))))))))))))))
  have hbk:QhG p.base.known p.ops k=false:=by
   unfold QhG
   rw [c16rr,c16r,← Qi4,← hsm,c16];rfl
  refine ⟨_,?_,_,k+1,mput ((gd p.ops k).dot) () sm,Qai (Qao (ds:=([2,5,6,7]++sq 12 30)) (by repeat (first|exact Agr.refl _ _|refine Agr.upd ?_ rfl|refine Agr.mix ?_ rfl))) rfl,(by omega),(Qb8 hbo hbk),(by rw [Qlb (by omega),← hsm]),rfl,hs.take 2⟩
  omega
 replace c6:=QQ2 c6
 refine QaF (Qag (Qab (Qaa (Qae Qf5 rfl (Qaa (Qb0 (vs:=(vc p.base.known)++[(.slice a1 p.base.ents.length c1:Value),(.slice a2 p.base.ticks.length c2:Value) ]) QcJ hs 0 rfl rfl rfl rfl (Qaa (Qat (vs:=[.agg ((vc p.base.known)++[(.slice a1 p.base.ents.length c1:Value),(.slice a2 p.base.ticks.length c2:Value) ]).toArray]) (V:=.bool (Qas p.base)) QrJ rfl rfl ?hc hs fun w18 hs=>?_))))))))
 case hc=>exact (Qf0 _ p.base a1 c1 a2 c2 hokb (by omega) (by omega) (Rd.own' hr1 hs) (Rd.own' hr2 hs))
 refine Qaa (Qad (V:=.bool (Qas p.base)) rfl (Qaf (Qau ?_)))
 refine ⟨_,Qaq (V:=.bool (Qas p.base)) Tryz.results59 rfl,(Zr hs ?_)⟩
 exact congrArg Value.bool (QgL fun j hj=>hbo j (by omega)).symm
theorem QmJ (w:World) (p:Pst) (a1:Option Addr) (c1:Nat) (a2:Option Addr) (c2:Nat) (a3:Option Addr) (c3:Nat) (cut:Vec) (hcut:QbV cut) (hok:Qc0 p) (hle:p.base.ents.length<=400) (hlt:p.base.ticks.length<=400) (hlo:p.ops.length<=400) (hr1:Rd w (.slice a1 p.base.ents.length c1) 7 (p.base.ents.map cec)) (hr2:Rd w (.slice a2 p.base.ticks.length c2) 2 (p.base.ticks.map lsc)) (hr3:Rd w (.slice a3 p.ops.length c3) 23 (p.ops.map oc)):Calls Tryz.prog 17 #[.agg (((vc p.base.known)++[(.slice a1 p.base.ents.length c1:Value),(.slice a2 p.base.ticks.length c2:Value) ])++[(.slice a3 p.ops.length c3:Value) ]++(vc p.known)).toArray,.agg (vc cut).toArray] w (fun e w'=>e = .returned (.int .i64 (Qbb p cut))/\Own w no w' []):=by
 refine Qaj (n:=26) Tryz.func17 rfl Tryz.ntmps17 rfl ?_
 have hs:=Own.start w
 have ⟨hokb,hoko,hokk⟩:=hok
 refine Qag (Qab (Qaa (QaN (V:=.agg (((vc p.base.known)++[(.slice a1 p.base.ents.length c1:Value),(.slice a2 p.base.ticks.length c2:Value) ])++[(.slice a3 p.ops.length c3:Value) ]++(vc p.known)).toArray) (cs:=((vc p.base.known)++[(.slice a1 p.base.ents.length c1:Value),(.slice a2 p.base.ticks.length c2:Value) ])++[(.slice a3 p.ops.length c3:Value) ]++(vc p.known)) rfl rfl hs fun b1 w2 hs=>(Qaa (QaN (V:=.agg (vc cut).toArray) (cs:=vc cut) rfl rfl hs fun b3 w4 hs=>(Qaa (Qad (V:=I6 0) rfl (Qaf (Qag (Qam (Qag (Qab (Qaa (QaG (cs:=((vc p.base.known)++[(.slice a1 p.base.ents.length c1:Value),(.slice a2 p.base.ticks.length c2:Value) ])++[(.slice a3 p.ops.length c3:Value) ]++(vc p.known)) QeD hs 0 rfl rfl rfl (Qaa (Qat (vs:=[.agg (((vc p.base.known)++[(.slice a1 p.base.ents.length c1:Value),(.slice a2 p.base.ticks.length c2:Value) ])++[(.slice a3 p.ops.length c3:Value) ]++(vc p.known)).toArray]) (V:=.bool (Qb9 p)) QuU rfl rfl ?hc hs fun w5 hs=>?_))))))))))))))))
 case hc=>exact (Qmz _ p a1 c1 a2 c2 a3 c3 hok hle hlt hlo (Rd.own' hr1 hs) (Rd.own' hr2 hs) (Rd.own' hr3 hs))
 refine Qaa (Qbz rfl (Qaa (Qad (V:=.bool (!(Qb9 p))) rfl (Qaf (Qan (t:=!(Qb9 p)) rfl (fun c6=>?_) (fun c6=>?_))))))
 ·
  replace c6:=Qbn c6
  refine Qag (Qab (Qaa (Qad (V:=I6 2) rfl (Qaf (Qau ?_)))))
  refine ⟨_,Qaq (V:=I6 2) Tryz.results17 rfl,(Zr hs (congrArg (Value.int .i64) ?_))⟩
  unfold Qbb
  rw [c6];rfl
 replace c6:=Qbf c6
 refine Qag (Qab (Qaa (QaG (cs:=vc cut) QbA hs 1 rfl rfl rfl (Qaa (Qat (vs:=[.agg (vc cut).toArray,I6 16]) (V:=.bool (QaK cut 16)) Qrf rfl rfl ?hc hs fun w7 hs=>?_)))))
 case hc=>exact (Qf1 _ cut 16 (by first|assumption|exact Qca))
 refine Qaa (Qbz rfl (Qaa (Qad (V:=.bool (!(QaK cut 16))) rfl (Qaf (Qan (t:=!(QaK cut 16)) rfl (fun c8=>?_) (fun c8=>?_))))))
 ·
  replace c8:=Qbn c8
  refine Qag (Qab (Qaa (Qad (V:=I6 13) rfl (Qaf (Qau ?_)))))
  refine ⟨_,Qaq (V:=I6 13) Tryz.results17 rfl,(Zr hs (congrArg (Value.int .i64) ?_))⟩
  unfold Qbb
  rw [c6,c8];rfl
 replace c8:=Qbf c8
 refine Qag (Qab (Qaa (QaG (cs:=vc cut) QbA hs 1 rfl rfl rfl (Qaa (Qae Qsj rfl (Qaa (Qb0 (vs:=vc p.known) QbA hs 0 rfl rfl rfl rfl (Qaa (Qat (vs:=[.agg (vc cut).toArray,.agg (vc p.known).toArray]) (V:=.bool (vle cut p.known)) QqN rfl rfl ?hc hs fun w9 hs=>?_)))))))))
 case hc=>exact (Qgj _ cut p.known)
 refine Qaa (Qbz rfl (Qaa (Qad (V:=.bool (!(vle cut p.known))) rfl (Qaf (Qan (t:=!(vle cut p.known)) rfl (fun c10=>?_) (fun c10=>?_))))))
 ·
  replace c10:=Qbn c10
  refine Qag (Qab (Qaa (Qad (V:=I6 11) rfl (Qaf (Qau ?_)))))
  refine ⟨_,Qaq (V:=I6 11) Tryz.results17 rfl,(Zr hs (congrArg (Value.int .i64) ?_))⟩
  unfold Qbb
  rw [c6,c8,c10];rfl
 replace c10:=Qbf c10
 refine Qag (Qab (Qaa (Qae Qf5 rfl (Qaa (Qae QhW rfl (Qaa (Qb0 (vs:=vc p.base.known) QbA hs 0 rfl rfl rfl rfl (Qaa (QaG (cs:=vc cut) QbA hs 1 rfl rfl rfl (Qaa (Qat (vs:=[.agg (vc p.base.known).toArray,.agg (vc cut).toArray]) (V:=.bool (vle p.base.known cut)) QqN rfl rfl ?hc hs fun w11 hs=>?_)))))))))))
 case hc=>exact (Qgj _ p.base.known cut)
 refine Qaa (Qbz rfl (Qaa (Qad (V:=.bool (!(vle p.base.known cut))) rfl (Qaf (Qan (t:=!(vle p.base.known cut)) rfl (fun c12=>?_) (fun c12=>?_))))))
 ·
  replace c12:=Qbn c12
  refine Qag (Qab (Qaa (Qad (V:=I6 12) rfl (Qaf (Qau ?_)))))
  refine ⟨_,Qaq (V:=I6 12) Tryz.results17 rfl,(Zr hs (congrArg (Value.int .i64) ?_))⟩
  unfold Qbb
  rw [c6,c8,c10,c12];rfl
 replace c12:=Qbf c12
 refine Qap (Qag (Qab (Qaa (Qad (V:=I6 0) rfl (Qaf (Qau ?_))))))
 refine ⟨_,Qaq (V:=I6 0) Tryz.results17 rfl,(Zr hs (congrArg (Value.int .i64) ?_))⟩
 unfold Qbb
 rw [c6,c8,c10,c12];rfl
end Tt
end Go.Proofs
namespace Go.Proofs
open Go Go.Vx Go.RowKit
namespace Tt
theorem Qps (w:World) (x:Cen):Calls Tryz.prog 47 #[.agg (cec x).toArray] w (fun e w'=>e = .returned (.agg (oc (Qbm x)).toArray)/\Own w no w' []):=by
 refine Qaj (n:=14) Tryz.func47 rfl Tryz.ntmps47 rfl ?_
 have hs:=Own.start w
 refine Qag (Qab (Qaa (QaN (V:=.agg (cec x).toArray) (cs:=cec x) rfl rfl hs fun b1 w2 hs=>(Qaa (QaM (cs:=oc (⟨(⟨0,0⟩:Dot),0,0,0,0,0,vzero⟩:Opn)) QnV rfl hs fun b3 w4 hs=>(Qaf (Qag (Qab (Qaa (Qae QbO rfl (Qaa (Qb0 (vs:=dc x.dot) QcR hs 0 rfl rfl rfl rfl (Qaa (Qae QeV rfl (Qaa (QaE (V:=.int .u8 x.kind) QcN hs 0 rfl rfl rfl (Qaa (Qae QdL rfl (Qaa (QaE (V:=I7 x.cart) Qar hs 0 rfl rfl rfl (Qaa (Qae QdR rfl (Qaa (QaE (V:=I7 x.item) Qar hs 0 rfl rfl rfl (Qaa (Qae Qe0 rfl (Qaa (QaE (V:=I7 x.qty) Qar hs 0 rfl rfl rfl (Qaa (QcI (vs:=[(0,.agg (dc x.dot).toArray),(1,.int .u8 x.kind),(2,I7 x.cart),(3,I7 x.item),(4,I7 x.qty)]) (cs:=oc (⟨x.dot,x.kind,x.cart,x.item,x.qty,0,vzero⟩:Opn)) [dc (⟨0,0⟩:Dot),[(.int .u8 0:Value)],[(I7 0:Value)],[(I7 0:Value)],[(I7 0:Value)],[(.int .u32 0:Value)],vc vzero] [dc x.dot,[(.int .u8 x.kind:Value)],[(I7 x.cart:Value)],[(I7 x.item:Value)],[(I7 x.qty:Value)],[(.int .u32 0:Value)],vc vzero] QqW rfl (rfl) rfl rfl (Qaa (QcK (V:=.agg (oc (⟨x.dot,x.kind,x.cart,x.item,x.qty,0,vzero⟩:Opn)).toArray) (vs:=oc (⟨x.dot,x.kind,x.cart,x.item,x.qty,0,vzero⟩:Opn)) (cs':=oc (⟨x.dot,x.kind,x.cart,x.item,x.qty,0,vzero⟩:Opn)) Qb5.1 hs 1 rfl rfl rfl rfl rfl (QQ8 rfl) (Qey _) (QaB rfl) fun w5 hs=>(Qaf (Qau ?_))))))))))))))))))))))))))))))))))
 refine ⟨_,QcH (cs:=oc (⟨x.dot,x.kind,x.cart,x.item,x.qty,0,vzero⟩:Opn)) Tryz.results47 Qb5 hs 1 rfl rfl rfl,(Zr hs ?_)⟩
 rfl
theorem Qpw (w:World) (x:Cen):Calls Tryz.prog 53 #[.agg (cec x).toArray] w (fun e w'=>e = .returned (.agg (oc (Qbm x)).toArray)/\Own w no w' []):=by
 refine Qaj (n:=14) Tryz.func53 rfl Tryz.ntmps53 rfl ?_
 have hs:=Own.start w
 refine Qag (Qab (Qaa (QaN (V:=.agg (cec x).toArray) (cs:=cec x) rfl rfl hs fun b1 w2 hs=>(Qaa (QaM (cs:=oc (⟨(⟨0,0⟩:Dot),0,0,0,0,0,vzero⟩:Opn)) QnV rfl hs fun b3 w4 hs=>(Qaf (Qag (Qab (Qaa (Qae QbP rfl (Qaa (Qb0 (vs:=dc x.dot) QcR hs 0 rfl rfl rfl rfl (Qaa (Qae Qes rfl (Qaa (QaE (V:=.int .u8 x.kind) QcN hs 0 rfl rfl rfl (Qaa (Qae Qdj rfl (Qaa (QaE (V:=I7 x.cart) Qar hs 0 rfl rfl rfl (Qaa (Qae QfR rfl (Qaa (QaE (V:=I7 x.item) Qar hs 0 rfl rfl rfl (Qaa (Qae Qe5 rfl (Qaa (QaE (V:=I7 x.qty) Qar hs 0 rfl rfl rfl (Qaa (QcI (vs:=[(0,.agg (dc x.dot).toArray),(1,.int .u8 x.kind),(2,I7 x.cart),(3,I7 x.item),(4,I7 x.qty)]) (cs:=oc (⟨x.dot,x.kind,x.cart,x.item,x.qty,0,vzero⟩:Opn)) [dc (⟨0,0⟩:Dot),[(.int .u8 0:Value)],[(I7 0:Value)],[(I7 0:Value)],[(I7 0:Value)],[(.int .u32 0:Value)],vc vzero] [dc x.dot,[(.int .u8 x.kind:Value)],[(I7 x.cart:Value)],[(I7 x.item:Value)],[(I7 x.qty:Value)],[(.int .u32 0:Value)],vc vzero] QqW rfl (rfl) rfl rfl (Qaa (QcK (V:=.agg (oc (⟨x.dot,x.kind,x.cart,x.item,x.qty,0,vzero⟩:Opn)).toArray) (vs:=oc (⟨x.dot,x.kind,x.cart,x.item,x.qty,0,vzero⟩:Opn)) (cs':=oc (⟨x.dot,x.kind,x.cart,x.item,x.qty,0,vzero⟩:Opn)) Qb5.1 hs 1 rfl rfl rfl rfl rfl (QQ8 rfl) (Qey _) (QaB rfl) fun w5 hs=>(Qaf (Qau ?_))))))))))))))))))))))))))))))))))
 refine ⟨_,QcH (cs:=oc (⟨x.dot,x.kind,x.cart,x.item,x.qty,0,vzero⟩:Opn)) Tryz.results53 Qb5 hs 1 rfl rfl rfl,(Zr hs ?_)⟩
 rfl
theorem order_ok (w:World) (x y:Cen):Calls Tryz.prog 49 #[.agg (cec x).toArray,.agg (cec y).toArray] w (fun e w'=>e = .returned (.int .i64 (QcD x y))/\Own w no w' []):=by
 refine Qaj (n:=26) Tryz.func49 rfl Tryz.ntmps49 rfl ?_
 have hs:=Own.start w
 refine Qag (Qab (Qaa (QaN (V:=.agg (cec x).toArray) (cs:=cec x) rfl rfl hs fun b1 w2 hs=>(Qaa (QaN (V:=.agg (cec y).toArray) (cs:=cec y) rfl rfl hs fun b3 w4 hs=>(Qaa (Qad (V:=I6 0) rfl (Qaf (Qag ?_)))))))))
 replace hs:=hs.more emp trivial
 refine QaI HM [some 5,some 6,some 7,some 8,some 9,some 10,some 11,some 12,some 13,some 14,some 15,some 16,some 17,some 18,some 19,some 20,some 21,some 22,some 23,some 24,some 25,some 4] [[],[],[],[],[],[],[],[],[],[],[],[],[],[],[],[],[],[],[],[24]] [0,1,0,4,15,0,32,96,0,256,768,2047,0,4096,12288,0,32768,98304,262143,524287,1048575,2097151] [pv (Pq b1 (0+0)),pv (I7 x.cart),pv (Pq b3 (0+0)),pv (I7 y.cart),pv (I6 (Qa3 x.cart y.cart)),pv (Pq b1 (0+4)),pv (Pq b1 (0+4+0)),pv (.int .u8 x.dot.rep),pv (Pq b3 (0+4)),pv (Pq b3 (0+4+0)),pv (.int .u8 y.dot.rep),pv (I6 (Qa3 x.dot.rep y.dot.rep)),pv (Pq b1 (0+4)),pv (Pq b1 (0+4+1)),pv (.int .u32 x.dot.seq),pv (Pq b3 (0+4)),pv (Pq b3 (0+4+1)),pv (.int .u32 y.dot.seq),pv (I6 (Qa3 x.dot.seq y.dot.seq)),(true,fun J=>.slice (some ⟨(bOf (J 24)),0,none⟩) 3 3),pv (I6 (orI [Qa3 x.cart y.cart,Qa3 x.dot.rep y.dot.rep,Qa3 x.dot.seq y.dot.seq])),pv (I6 (orI [Qa3 x.cart y.cart,Qa3 x.dot.rep y.dot.rep,Qa3 x.dot.seq y.dot.seq]))] (fun D J=>[blk b1 (cec x) 106,blk b3 (cec y) 106,cond (D 19) (row (.slice (some ⟨(bOf (J 24)),0,none⟩) 3 3) ([Qa3 x.cart y.cart,Qa3 x.dot.rep y.dot.rep,Qa3 x.dot.seq y.dot.seq].map (ic .i64)) 3 1) (emp)]) [21] (by kernel_rfl) hs ⟨?_,?_,?_,?_,?_,?_,?_,?_,?_,?_,?_,?_,?_,?_,?_,?_,?_,?_,?_,?_,?_,?_,trivial⟩ ?_
 ·exact oa [] fun D J w hs=>Qae QdL rfl (Zz hs)
 ·exact oa [0] fun D J w hs=>QaE (V:=.int .u16 x.cart) Qar hs 0 rfl rfl rfl (Zz hs)
 ·exact oa [] fun D J w hs=>Qae QdL rfl (Zz hs)
 ·exact oa [2] fun D J w hs=>QaE (V:=.int .u16 y.cart) Qar hs 1 rfl rfl rfl (Zz hs)
 ·exact oa [1,3] fun D J w hs=>Qat (vs:=[.int .u16 x.cart,.int .u16 y.cart]) (V:=.int .i64 (Qa3 x.cart y.cart)) Qpv rfl rfl (Qc1 _ x.cart y.cart) hs fun _ hs=>Zz hs
 ·exact oa [] fun D J w hs=>Qae QbO rfl (Zz hs)
 ·exact oa [5] fun D J w hs=>Qae QbI rfl (Zz hs)
 ·exact oa [6] fun D J w hs=>QaE (V:=.int .u8 x.dot.rep) QcN hs 0 rfl rfl rfl (Zz hs)
 ·exact oa [] fun D J w hs=>Qae QbO rfl (Zz hs)
 ·exact oa [8] fun D J w hs=>Qae QbI rfl (Zz hs)
 ·exact oa [9] fun D J w hs=>QaE (V:=.int .u8 y.dot.rep) QcN hs 1 rfl rfl rfl (Zz hs)
 ·exact oa [7,10] fun D J w hs=>Qat (vs:=[.int .u8 x.dot.rep,.int .u8 y.dot.rep]) (V:=.int .i64 (Qa3 x.dot.rep y.dot.rep)) QrR rfl rfl (Qea _ x.dot.rep y.dot.rep) hs fun _ hs=>Zz hs
 ·exact oa [] fun D J w hs=>Qae QbO rfl (Zz hs)
 ·exact oa [12] fun D J w hs=>Qae QbQ rfl (Zz hs)
 ·exact oa [13] fun D J w hs=>QaE (V:=.int .u32 x.dot.seq) Qa6 hs 0 rfl rfl rfl (Zz hs)
 ·exact oa [] fun D J w hs=>Qae QbO rfl (Zz hs)
 ·exact oa [15] fun D J w hs=>Qae QbQ rfl (Zz hs)
 ·exact oa [16] fun D J w hs=>QaE (V:=.int .u32 y.dot.seq) Qa6 hs 1 rfl rfl rfl (Zz hs)
 ·exact oa [14,17] fun D J w hs=>Qat (vs:=[.int .u32 x.dot.seq,.int .u32 y.dot.seq]) (V:=.int .i64 (Qa3 x.dot.seq y.dot.seq)) Qrg rfl rfl (QdU _ x.dot.seq y.dot.seq) hs fun _ hs=>Zz hs
 ·exact oa [4,11,18] fun D J w hs=>QeQ (vals:=[.int .i64 (Qa3 x.cart y.cart),.int .i64 (Qa3 x.dot.rep y.dot.rep),.int .i64 (Qa3 x.dot.seq y.dot.seq)]) (ls:=List.map (ic .i64) ([Qa3 x.cart y.cart,Qa3 x.dot.rep y.dot.rep,Qa3 x.dot.seq y.dot.seq]:List Int)) Qnu rfl rfl rfl (Qbe (enc:=(ic .i64)) (fun _=>rfl) _) (QaJ (QfI .i64) _) (QQ8 rfl) hs fun _ _ hs=>⟨rfl,hs.put 2 (QQ8 rfl)⟩
 ·exact oa [19] fun D J w hs=>Qat (vs:=[.slice (some ⟨(bOf (J 24)),0,none⟩) 3 3]) (V:=.int .i64 (orI [Qa3 x.cart y.cart,Qa3 x.dot.rep y.dot.rep,Qa3 x.dot.seq y.dot.seq])) Qrn rfl rfl (QrT _ (some ⟨(bOf (J 24)),0,none⟩) 3 [Qa3 x.cart y.cart,Qa3 x.dot.rep y.dot.rep,Qa3 x.dot.seq y.dot.seq] (hs.rd 2 rfl)) hs fun _ hs=>Zz hs
 ·exact oa [20] fun D J w hs=>Qad (V:=.int .i64 (orI [Qa3 x.cart y.cart,Qa3 x.dot.rep y.dot.rep,Qa3 x.dot.seq y.dot.seq])) rfl (Zz hs)
 rintro J1 w10 J2 hJ hs
 replace hJ:J2=upd (mix (sq 5 21++[4]) J1 _) 4 (I6 (orI [Qa3 x.cart y.cart,Qa3 x.dot.rep y.dot.rep,Qa3 x.dot.seq y.dot.seq])):=hJ
 replace hs:Own w no w10 [blk b1 (cec x) 106,blk b3 (cec y) 106,row (.slice (some ⟨(bOf (J1 24)),0,none⟩) 3 3) ([Qa3 x.cart y.cart,Qa3 x.dot.rep y.dot.rep,Qa3 x.dot.seq y.dot.seq].map (ic .i64)) 3 1]:=hs
 generalize (bOf (J1 24))=b11 at hs
 subst hJ
 refine Qau ?_
 refine ⟨_,Qaq (V:=I6 (orI [Qa3 x.cart y.cart,Qa3 x.dot.rep y.dot.rep,Qa3 x.dot.seq y.dot.seq])) Tryz.results49 rfl,(Zr hs ?_)⟩
 rfl
theorem QkP (w:World) (b:Bool):Calls Tryz.prog 106 #[.bool b] w (fun e w'=>e = .returned (.int .u32 (QbW b))/\Own w no w' []):=by
 refine Qaj (n:=4) Tryz.func106 rfl Tryz.ntmps106 rfl ?_
 have hs:=Own.start w
 refine Qag (Qab (Qaa (Qad (V:=.int .u32 0) rfl (Qaf (Qag (Qag (Qab (Qaa (Qac (V:=.bool b) rfl (Qaf (Qan (t:=b) rfl (fun c1=>?_) (fun c1=>?_))))))))))))
 ·
  refine Qag (Qab (Qaa (Qad (V:=.int .u32 1) rfl (Qaf (Qau ?_)))))
  refine ⟨_,Qaq (V:=.int .u32 1) Tryz.results106 rfl,(Zr hs ?_)⟩
  cases b<;>simp_all [QbW]
 refine Qap (Qag (Qab (Qaa (Qad (V:=.int .u32 0) rfl (Qaf (Qau ?_))))))
 refine ⟨_,Qaq (V:=.int .u32 0) Tryz.results106 rfl,(Zr hs ?_)⟩
 cases b<;>simp_all [QbW]
end Tt
end Go.Proofs
namespace Go.Proofs
open Go Go.Vx Go.RowKit
namespace Tt
theorem Qn6 (w:World) (a:Option Addr) (c:Nat) (l:List Opn) (g:Nat) (caps:List Value) (hg:En Tryz.prog g) (p:Opn->Bool) (hp:∀ (w1:World) (L1:List Res),Own w no w1 L1->∀ x∈l,Calls Tryz.prog g ([(.agg (oc x).toArray:Value)]++caps).toArray w1 (fun e w'=>e = .returned (.bool (p x))/\Own w1 no w' [])) (hr:Rd w (.slice a l.length c) 23 (l.map oc)):Calls Tryz.prog 89 #[.slice a l.length c,.func (.func g) #[] caps.toArray] w (fun e w'=>e = .returned (.int .i64 (QeO p l))/\Own w no w' []):=by
 refine Qaj (n:=19) Tryz.func89 rfl Tryz.ntmps89 rfl ?_
 have hs:=Own.start w
 have hn:=hr.sml
 refine Qag (Qab (Qaa (Qad (V:=I6 0) rfl (Qaf (Qag (Qag (Qab (Qaa (Qac (V:=.slice a l.length c) rfl (Qaa (Qa2 (n:=l.length) QdK (Rd.own' hr hs) (by simp) rfl (Qaa (Qac (V:=I6 0) rfl (Qaf (Qam (QaA (fun J μ J' w'=>∃ (Jo:Env) (k:Nat),J'=upd (mix ([4,5]++sq 8 11) Jo J) 8 (I6 (k:Int))/\(k<=l.length)/\(∀ j:Nat,j<k->p (gd l j)=false)/\μ=l.length-k/\Own w no w' []) ?_ ?_))))))))))))))))
 ·exact ⟨_,_,0,Qai (Qao (ds:=([4,5]++sq 8 11)) (Agr.refl _ _)) rfl,(by omega),(fun j hj=>absurd hj (Nat.not_lt_zero j)),rfl,hs⟩
 rintro μ J' w1 ⟨Jo,k,rfl,hk,hno,rfl,hs⟩
 refine Qag (Qab (Qaa (QaQ rfl rfl (Qaf (Qag (Qan (t:=decide ((k:Int)<((l.length:Nat):Int))) rfl (fun c2=>?_) (fun c2=>?_)))))))
 ·
  replace c2:=QQ1 c2
  refine Qap (Qag (Qam (Qag (Qab (Qaa (Qac (V:=I6 (k:Int)) rfl (Qaa (Qad (V:=I6 (k:Int)) rfl (Qaf (Qag (Qab (Qaa (Qac (V:=.func (.func g) #[] caps.toArray) rfl (Qaa (Qac (V:=.slice a l.length c) rfl (Qaa (Qac (V:=I6 (k:Int)) rfl (Qaa (Qaw QdK Qb5.1 (Rd.own' hr hs) rfl rfl (by omega) (by rw [QQ6];omega) (Qaa (Qa1 (j:=0) (vs:=oc (gd l k)) k Qb5 (Rd.own' hr hs) (QaT (by omega)) rfl rfl rfl (by omega) (Qaa (Qgw (vs:=[.agg (oc (gd l k)).toArray]) (cs:=caps) (V:=.bool (p (gd l k))) hg rfl rfl (hp _ _ hs (gd l k) (QbK (by omega))) hs fun w3 hs=>(Qaf (Qan (t:=p (gd l k)) rfl (fun c4=>?_) (fun c4=>?_))))))))))))))))))))))))))
  ·
   refine Qag (Qab (Qaa (Qac (V:=I6 (k:Int)) rfl (Qaa (Qad (V:=I6 (k:Int)) rfl (Qaf (Qau ?_)))))))
   refine ⟨_,Qaq (V:=I6 (k:Int)) Tryz.results89 rfl,(Zr hs ?_)⟩
   exact congrArg (Value.int .i64) (Qjj (by omega) hno c4).symm
  refine Qap (Qab (Qaa (QaD (a:=(k:Int)) (b:=1) (c:=(k:Int)+1) rfl rfl (QbH (by omega) (by omega)) (Qaa (Qac (V:=I6 ((k:Int)+1)) rfl (Qaf ?_))))))
  refine ⟨_,?_,_,k+1,Qai (Qao (ds:=([4,5]++sq 8 11)) (by repeat (first|exact Agr.refl _ _|refine Agr.upd ?_ rfl|refine Agr.mix ?_ rfl))) rfl,(by omega),(Qb8 hno c4),rfl,hs.take 0⟩
  omega
 replace c2:=QQ2 c2
 refine QaF (Qag (Qab (Qaa (Qad (V:=I6 (-1)) rfl (Qaf (Qau ?_))))))
 refine ⟨_,Qaq (V:=I6 (-1)) Tryz.results89 rfl,(Zr hs ?_)⟩
 exact congrArg (Value.int .i64) (Qmq fun j hj=>hno j (by omega)).symm
theorem Qo6 (w:World) (a:Option Addr) (c:Nat) (l:List Opn) (g:Nat) (caps:List Value) (hg:En Tryz.prog g) (p:Opn->Bool) (hp:∀ (w1:World) (L1:List Res),Own w no w1 L1->∀ x∈l,Calls Tryz.prog g ([(.agg (oc x).toArray:Value)]++caps).toArray w1 (fun e w'=>e = .returned (.bool (p x))/\Own w1 no w' [])) (hr:Rd w (.slice a l.length c) 23 (l.map oc)):Calls Tryz.prog 44 #[.slice a l.length c,.func (.func g) #[] caps.toArray] w (fun e w'=>e = .returned (.bool (l.any p))/\Own w no w' []):=by
 refine Qaj (n:=9) Tryz.func44 rfl Tryz.ntmps44 rfl ?_
 have hs:=Own.start w
 have hn:=hr.sml
 refine Qag (Qab (Qaa (Qad (V:=.bool false) rfl (Qaf (Qag (Qab (Qaa (Qac (V:=.slice a l.length c) rfl (Qaa (Qac (V:=.func (.func g) #[] caps.toArray) rfl (Qaa (Qat (vs:=[.slice a l.length c,.func (.func g) #[] caps.toArray]) (V:=I6 (QeO p l)) QvC rfl rfl ?hc hs fun w1 hs=>?_))))))))))))
 case hc=>exact (Qn6 _ a c l g caps hg p (fun w1 L1 h=>hp w1 _ (hs.call h)) (Rd.own' hr hs))
 refine Qaa (Qcz rfl rfl (Qaa (Qad (V:=.bool (decide (0<=QeO p l))) rfl (Qaf (Qau ?_)))))
 refine ⟨_,Qaq (V:=.bool (decide (0<=QeO p l))) Tryz.results44 rfl,(Zr hs ?_)⟩
 exact congrArg Value.bool QqL
theorem Qlo (w:World) (o:Opn) (x:Cen) (bx:Nat) (hx:Qc3 x.dot) (hc:Qck w bx (cec x)):Calls Tryz.prog 45 #[.agg (oc o).toArray,.pointer (some ⟨bx,0,none⟩)] w (fun e w'=>e = .returned (.bool (QaV o (Qbm x)))/\Own w no w' []):=by
 refine Qaj (n:=8) Tryz.func45 rfl Tryz.ntmps45 rfl ?_
 have hs:=Own.start w
 refine Qag (Qab (Qaa (QaN (V:=.agg (oc o).toArray) (cs:=oc o) rfl rfl hs fun b1 w2 hs=>(Qaa (Qad (V:=.bool false) rfl (Qaf (Qag (QaI HM [some 4,some 5,some 6,some 7,some 3] [] [0,0,2,7,15] [pv (.agg (oc o).toArray),pv (.agg (cec x).toArray),pv (.agg (oc (Qbm x)).toArray),pv (.bool (QaV o (Qbm x))),pv (.bool (QaV o (Qbm x)))] (fun _ _=>_) [4] (by kernel_rfl) hs ⟨?_,?_,?_,?_,?_,trivial⟩ ?_))))))))
 ·exact oa [] fun D J w hs=>QaG (cs:=oc o) Qb5 hs 0 rfl rfl rfl (Zz hs)
 ·exact oa [] fun D J w hs=>QpW (vs:=cec x) QaH (hc.own' hs) rfl rfl rfl (Zz hs)
 ·exact oa [1] fun D J w hs=>Qat (vs:=[.agg (cec x).toArray]) (V:=.agg (oc (Qbm x)).toArray) QvH rfl rfl (Qps _ x) hs fun _ hs=>Zz hs
 ·exact oa [0,2] fun D J w hs=>Qat (vs:=[.agg (oc o).toArray,.agg (oc (Qbm x)).toArray]) (V:=.bool (QaV o (Qbm x))) Qv9 rfl rfl (Qok _ o (Qbm x) hx) hs fun _ hs=>Zz hs
 ·exact oa [3] fun D J w hs=>Qad (V:=.bool (QaV o (Qbm x))) rfl (Zz hs)
 rintro J1 w5 J2 hJ hs
 replace hJ:J2=upd (mix [4,5,6,7,3] J1 _) 3 (.bool (QaV o (Qbm x))):=hJ
 subst hJ
 refine Qau ?_
 refine ⟨_,Qaq (V:=.bool (QaV o (Qbm x))) Tryz.results45 rfl,(Zr hs ?_)⟩
 rfl
theorem Qm1 (w:World) (x:Cen) (bx:Nat) (a:Option Addr) (c:Nat) (l:List Opn) (hx:Qc3 x.dot) (hc:Qck w bx [(.slice a l.length c:Value)]) (hr:Rd w (.slice a l.length c) 23 (l.map oc)):Calls Tryz.prog 43 #[.agg (cec x).toArray,.pointer (some ⟨bx,0,none⟩)] w (fun e w'=>e = .returned (.bool (l.any fun o=>QaV o (Qbm x)))/\Own w no w' []):=by
 refine Qaj (n:=7) Tryz.func43 rfl Tryz.ntmps43 rfl ?_
 have hs:=Own.start w
 refine Qag (Qab (Qaa (QaN (V:=.agg (cec x).toArray) (cs:=cec x) rfl rfl hs fun b1 w2 hs=>(Qaa (Qad (V:=.bool false) rfl (Qaf (Qag (Qab (Qaa (Qoq (V:=.slice a l.length c) Qfs (hc.own' hs) rfl rfl (Qaa (Qdv (cs:=[Pq b1 0]) rfl rfl (Qaa (Qat (vs:=[.slice a l.length c,.func (.func 45) #[] #[Pq b1 0]]) (V:=.bool (l.any (fun o=>QaV o (Qbm x)))) Qvp rfl rfl ?hc hs fun w3 hs=>?_))))))))))))))
 case hc=>exact (Qo6 _ a c l 45 [.pointer (some ⟨b1,0,none⟩)] QvF (fun o=>QaV o (Qbm x)) (fun w1 L1 h o _=>Qlo w1 o x b1 hx ((hs.cellsf 0 rfl).own' h)) (Rd.own' hr hs))
 refine Qaa (Qad (V:=.bool (l.any (fun o=>QaV o (Qbm x)))) rfl (Qaf (Qau ?_)))
 refine ⟨_,Qaq (V:=.bool (l.any (fun o=>QaV o (Qbm x)))) Tryz.results43 rfl,(Zr hs ?_)⟩
 rfl
end Tt
end Go.Proofs
namespace Go.Proofs
open Go Go.Vx Go.RowKit
namespace Tt
theorem QlW (w:World) (f N:Nat) (caps:List Value) (hf:En Tryz.prog f) (hN:N*3<=140737488355328) (G:List Value->Prop) (hcall:Gives Tryz.prog f caps (okS (Value.int .u16) N) G w):Calls Tryz.prog 159 #[.slice none 0 0,.func (.func f) #[] caps.toArray] w (fun e w'=>∃ x:List Int × Option Addr × Nat,e = .returned (.slice x.2.1 x.1.length x.2.2)/\Own w no w' [row (.slice x.2.1 x.1.length x.2.2) (x.1.map (ic .u16)) 32 1]/\G (x.1.map (Value.int .u16))/\x.1.length<=N):=by
 refine QjA (n:=13) Tryz.func159 rfl Tryz.ntmps159 rfl ?_
 have hs:=Own.start w
 refine QmK (Qab (Qaa (QaN (V:=.slice none 0 0) (cs:=[.slice none 0 0]) rfl rfl hs fun b1 w2 hs=>(Qaa (Qad (V:=.slice none 0 0) rfl (Qaf (QrQ (QmK (Qab (Qaa (Qac (V:=.func (.func f) #[] caps.toArray) rfl (Qaf (Qoz ?_)))))))))))))
 replace hs:=hs.more (row (.slice none 0 0) (List.map (ic .u16) []) 32 1) (Qbg _ _ _ _)
 replace hs:=hs.join 0 1 (by decide) rfl rfl
 replace hs:=hs.conv 0 rfl (R':=QvI N b1 69 32 1 (ic .u16) (Value.int .u16) []) (fun S h=>⟨⟨([],none,0),rfl,Nat.zero_le _⟩,h⟩)
 refine QiP (caps:=caps) (ok:=okS (Value.int .u16) N) (G:=G) rfl rfl hf hs 0 (QvI N b1 69 32 1 (ic .u16) (Value.int .u16)) rfl ?_ hcall ?_
 ·rintro l fn dd pre x w2 S ⟨⟨d,rfl⟩,hpN⟩ hs
  refine Qab (Qaa (Qad (V:=I7 d) rfl (Qaf ?_)))
  refine ⟨[],hs,?_⟩
  intro w3 hs
  obtain ⟨⟨⟨l0,a0,c0⟩,hx,hxN⟩,hs⟩:=hs.unpack 0 rfl
  replace hs:=hs.split 0 rfl
  dsimp only at hx
  have hlen:=congrArg List.length hx
  rw [QQ6] at hlen
  refine Qam (Qab (Qaa (QaE (V:=.slice a0 l0.length c0) Qr1 hs 0 rfl rfl rfl (Qaa (Qac (V:=I7 d) rfl (Qaa (QeQ (vals:=[I7 d]) (ls:=List.map (ic .u16) ([d]:List Int)) Qnl rfl rfl rfl (Qbe (enc:=(ic .u16)) (fun _=>rfl) _) (QaJ (QfI .u16) _) (QQ8 rfl) hs fun b3 w4 hs=>(Qaa (QbN (ls':=(l0++[d]).map (ic .u16)) (n:=(l0++[d]).length) Qnl hs 2 rfl rfl rfl (hs.rd 3 rfl) (QaJ (QfI .u16) _) (by simp only [QQ6,QQ7,List.length_cons,List.length_nil];omega) (by simp) (by simp) fun a5 c5 w6 hs=>(Qaa (Qc7 (V:=.slice a5 ((l0++[d]).length) c5) (cs':=[.slice a5 ((l0++[d]).length) c5]) Qr1 hs 0 rfl rfl rfl rfl (QQ8 rfl) rfl fun w7 hs=>(Qaf ?_))))))))))))
  replace hs:=hs.join 0 2 (by decide) rfl rfl
  replace hs:=hs.conv 0 rfl (R':=QvI N b1 69 32 1 (ic .u16) (Value.int .u16) (pre++[(Value.int .u16) d])) (fun S h=>⟨⟨(l0++[d],a5,c5),by rw [List.map_append,hx];rfl,by rw [QQ7];exact hpN⟩,h⟩)
  exact hs.take 2
 rintro xs dd w3 hG hs
 obtain ⟨⟨⟨l1,a1,c1⟩,hx,hxN⟩,hs⟩:=hs.unpack 0 rfl
 dsimp only at hx
 subst hx
 replace hs:=hs.split 0 rfl
 refine Qvx (Qag (Qab (Qaa (QaE (V:=.slice a1 l1.length c1) Qr1 hs 0 rfl rfl rfl (Qaa (Qad (V:=.slice a1 l1.length c1) rfl (Qaf (Qau (Qnq (V:=.slice a1 l1.length c1) hs 2 rfl (fun w=>Qaq (V:=.slice a1 l1.length c1) Tryz.results159 rfl) fun w hs=>?_)))))))))
 exact ⟨(l1,a1,c1),rfl,hs.only 3 rfl,hG,by simpa using hxN⟩
end Tt
end Go.Proofs
namespace Go.Proofs
open Go Go.Vx Go.RowKit
namespace Tt
theorem Qjc (w:World) (f N:Nat) (caps:List Value) (hf:En Tryz.prog f) (hN:N*3<=140737488355328) (G:List Value->Prop) (hcall:Gives Tryz.prog f caps (okS (Value.int .u16) N) G w):Calls Tryz.prog 133 #[.func (.func f) #[] caps.toArray] w (fun e w'=>∃ x:List Int × Option Addr × Nat,e = .returned (.slice x.2.1 x.1.length x.2.2)/\Own w no w' [row (.slice x.2.1 x.1.length x.2.2) (x.1.map (ic .u16)) 32 1]/\G (x.1.map (Value.int .u16))/\x.1.length<=N):=by
 refine Qaj (n:=5) Tryz.func133 rfl Tryz.ntmps133 rfl ?_
 have hs:=Own.start w
 refine Qag (Qab (Qaa (Qad (V:=.slice none 0 0) rfl (Qaf (Qag (Qab (Qaa (Qac (V:=.func (.func f) #[] caps.toArray) rfl (Qaa (Qbh (vs:=[.slice none 0 0,.func (.func f) #[] caps.toArray]) Qt6 rfl rfl (QlW _ f N caps hf hN G hcall) hs fun x1 w2 hs hF3=>(Qaa (Qad (V:=.slice x1.2.1 x1.1.length x1.2.2) rfl (Qaf (Qau ?_))))))))))))))
 refine ⟨_,Qaq (V:=.slice x1.2.1 x1.1.length x1.2.2) Tryz.results133 rfl,?_⟩
 exact ⟨(x1.1,x1.2.1,x1.2.2),rfl,hs.only 0 rfl,hF3⟩
theorem Qlh (w:World) (f N:Nat) (caps:List Value) (hf:En Tryz.prog f) (hN:N*3<=140737488355328) (G:List Value->Prop) (hcall:Gives Tryz.prog f caps (okS (Value.int .u16) N) G w) (hsortU:QgT Tryz.prog 134 .u16 32):Calls Tryz.prog 84 #[.func (.func f) #[] caps.toArray] w (fun e w'=>∃ x:List Int × Option Addr × Nat,e = .returned (.slice x.2.1 x.1.length x.2.2)/\Own w no w' [row (.slice x.2.1 x.1.length x.2.2) (x.1.map (ic .u16)) 32 1]/\∃ m,G (m.map (Value.int .u16))/\x.1=Qa9 m):=by
 refine Qaj (n:=9) Tryz.func84 rfl Tryz.ntmps84 rfl ?_
 have hs:=Own.start w
 refine Qag (Qab (Qaa (Qad (V:=.slice none 0 0) rfl (Qaf (Qag (Qab (Qaa (Qac (V:=.func (.func f) #[] caps.toArray) rfl (Qaa (Qbh (vs:=[.func (.func f) #[] caps.toArray]) Qs7 rfl rfl (Qjc _ f N caps hf hN G hcall) hs fun x1 w2 hs hF3=>(Qaa (Qad (V:=.slice x1.2.1 x1.1.length x1.2.2) rfl (Qaf (Qag ?_))))))))))))))
 have hn:=hF3.2
 refine Qab (Qaa (Qac (V:=.slice x1.2.1 x1.1.length x1.2.2) rfl (Qaa (Qbv (vs:=[.slice x1.2.1 x1.1.length x1.2.2]) (V:=fun _:Unit=>.tuple #[]) (R:=row (.slice x1.2.1 x1.1.length x1.2.2) (x1.1.map (ic .u16)) 32 1) (R':=fun _=>row (.slice x1.2.1 x1.1.length x1.2.2) ((Qa9 x1.1).map (ic .u16)) 32 1) (Lo:=fun _=>[]) (F:=fun _ _=>True) Qux rfl rfl hs 0 rfl (fun S hS hlt=>(hsortU _ S _ _ _ hS hlt (by omega)).mono fun e w' ⟨he,ho⟩=>⟨(),he,ho,trivial⟩) fun _ w4 hs _=>(Qaf (Qag (Qab (Qaa (Qac (V:=.slice x1.2.1 x1.1.length x1.2.2) rfl (Qaa (Qad (V:=.slice x1.2.1 x1.1.length x1.2.2) rfl (Qaf (Qau ?_)))))))))))))
 refine ⟨_,Qaq (V:=.slice x1.2.1 x1.1.length x1.2.2) Tryz.results84 rfl,?_⟩
 have hl:x1.1.length=(Qa9 x1.1).length:=(QeS _).symm
 refine ⟨(Qa9 x1.1,x1.2.1,x1.2.2),by rw [hl],?_,⟨x1.1,hF3.1,rfl⟩⟩
 have ho:=hs.only 0 rfl
 rw [hl] at ho
 exact ho
end Tt
end Go.Proofs
namespace Go.Proofs
open Go Go.Vx Go.RowKit
namespace Tt
theorem QmD (w:World) (S:Nat->Prop) (bx r l:Nat) (lm:List (Int × Int)) (R:List Value->Res) (ok:List Value->Value->Prop) (hok:∀ (pre:List Int) (k:Int),pre.length<lm.length->k∈lm.map (·.1)->ok (pre.map (Value.int .u16)) ((Value.int .u16) k)) (hy:Qiq Tryz.prog l R ok) (hR:(R []).holds w S) (hlt:∀ x,S x->x<w.heap.size) (hSb:¬S bx) (hSr:¬S r) (hc:Qck w bx [.map (some r)]) (hm:Qii w r (Value.int .u16) (Value.int .u32) lm):Calls Tryz.prog 148 #[.func (.yield l) #[] #[],.pointer (some ⟨bx,0,none⟩)] w (fun e w'=>∃ v xs,e = .returned v/\xs.Perm ((lm.map (·.1)).map (Value.int .u16))/\Own w S w' [R xs]):=by
 refine Qaj (n:=14) Tryz.func148 rfl Tryz.ntmps148 rfl ?_
 have hs:=Own.lent hR hlt
 obtain ⟨es,clock,hm0,hE⟩:=hm
 refine Qag (Qab (Qaa (Qoq (V:=.map (some r)) Qs9 (Qck.own hc hs hSb) rfl rfl ?_)))
 have hat:=hs.at hm0 hSr
 refine Qaa (Qr6 Qib hat hs rfl fun it w1 hs=>(Qaf (Qam (QaA (fun J μ J' w'=>∃ (Jo:Env) (pre:List Int) (seen:Array Nat),J'=mix ([3]++sq 6 8) Jo J/\(((left es seen).map (·.key)++pre.map (Value.int .u16)).Perm ((lm.map (·.1)).map (Value.int .u16)))/\μ=(left es seen).length/\Own w S w' [R (pre.map (Value.int .u16)),Qk1 it r clock seen]) ?_ ?_))))
 ·exact ⟨_,_,[],#[],Qao (ds:=([3]++sq 6 8)) (Agr.refl _ _),(by rw [Qm2,hE.keys];simp),rfl,hs⟩
 rintro μ J' w2 ⟨Jo,pre,seen,rfl,hp,rfl,hs⟩
 refine Qag (Qab (Qaa (Qs3 (seen:=seen) (hs.at hm0 hSr) hE.old hs 1 rfl rfl (fun h0=>?_) (fun e3 ha w4 hs=>?_))))
 ·
  refine Qaa (Qax (V:=.bool false) rfl rfl (Qaf (Qag (Qcy rfl ?_))))
  refine QaF ?_
  refine ⟨_,Qbr Tryz.results148,?_⟩
  rw [h0] at hp
  exact ⟨_,pre.map (Value.int .u16),rfl,hp,hs.only 0 rfl⟩
 obtain ⟨k,hk,hkey⟩:=QoC hE (Qkq ha)
 refine Qaa (Qax (V:=.bool true) rfl rfl (Qaf (Qag (Qdp rfl ?_))))
 refine Qap (Qam (Qag (Qab (Qaa (QoM (V:=(Value.int .u16) k) (hs.at hm0 hSr) hE.inc (Qkq ha) hkey hs 1 rfl rfl (Qaa (Qax (V:=I7 k) rfl rfl (Qaa (Qad (V:=I7 k) rfl (Qaf (Qag (Qab (Qaa (Qac (V:=.func (.yield l) #[] #[]) rfl (Qaa (Qac (V:=I7 k) rfl ?_))))))))))))))))
 have hst:=QlZ hE ha hkey hp
 refine Qaa (Qn7 (R:=R) (pre:=pre.map (Value.int .u16)) (v:=(Value.int .u16) k) hy rfl rfl (hok pre k hst.2.2 hk) hs 0 rfl fun w5 hs=>(Qaa (Qbz rfl (Qaf (Qcy rfl ?_)))))
 refine Qap ?_
 have e1:(pre++[k]).map (Value.int .u16)=pre.map (Value.int .u16)++[(Value.int .u16) k]:=by simp
 rw [← e1] at hs
 refine ⟨_,?_,_,pre++[k],seen.push e3.born,Qao (ds:=([3]++sq 6 8)) (by repeat (first|exact Agr.refl _ _|refine Agr.upd ?_ rfl|refine Agr.mix ?_ rfl)),hst.1,rfl,hs.take 2⟩
 exact hst.2.1
theorem Qpz (w:World) (r:Nat):Calls Tryz.prog 96 #[.map (some r)] w (fun e w'=>∃ x:Nat,e = .returned (.func (.func 148) #[] #[.pointer (some ⟨x,0,none⟩)])/\Own w no w' [blk x [.map (some r)] 100]/\True):=by
 refine Qaj (n:=4) Tryz.func96 rfl Tryz.ntmps96 rfl ?_
 have hs:=Own.start w
 refine Qag (Qab (Qaa (QaN (V:=.map (some r)) (cs:=[.map (some r)]) rfl rfl hs fun b1 w2 hs=>(Qaa (Qad (V:=.nilFunc) rfl (Qaf (Qag (Qab (Qaa (Qdv (cs:=[Pq b1 0]) rfl rfl (Qaa (Qad (V:=.func (.func 148) #[] #[Pq b1 0]) rfl (Qaf (Qau ?_))))))))))))))
 refine ⟨_,Qaq (V:=.func (.func 148) #[] #[Pq b1 0]) Tryz.results96 rfl,?_⟩
 exact ⟨b1,rfl,hs.only 0 rfl,trivial⟩
theorem Quf {w:World} {bx r N:Nat} {lm:List (Int × Int)} (hc:Qck w bx [.map (some r)]) (hm:Qii w r (Value.int .u16) (Value.int .u32) lm) (hN:lm.length<=N) :
  Gives Tryz.prog 148 [.pointer (some ⟨bx,0,none⟩)] (okS (Value.int .u16) N) (fun xs=>xs.Perm ((lm.map (·.1)).map (Value.int .u16))) w:=by
 rintro l w1 R S ⟨L1,hs1⟩ hlt hS hR hy
 have hb:bx<w.heap.size:=World.block_lt_of_cell? _ _ (hc 0 _ rfl)
 have hr:r<w.heap.size:=by obtain ⟨es,clock,h,_⟩:=hm;exact (Array.getElem?_eq_some_iff.1 h).1
 exact QmD w1 S bx r l lm R (okS (Value.int .u16) N) (fun pre k hp _=>⟨⟨k,rfl⟩,by rw [QQ6];omega⟩) hy hR hlt (fun h=>hS _ h hb) (fun h=>hS _ h hr) (hc.own' hs1) (hm.own' hs1)
theorem QnW (w:World) (r:Nat) (m:List (Int × Int)) (hm:Qii w r (Value.int .u16) (Value.int .u32) m) (hlm:m.length<=100000) (hsortU:QgT Tryz.prog 134 .u16 32):Calls Tryz.prog 50 #[.map (some r)] w (fun e w'=>∃ x:Option Addr × Nat,e = .returned (.slice x.1 (Qa9 (m.map (·.1))).length x.2)/\Own w no w' [row (.slice x.1 (Qa9 (m.map (·.1))).length x.2) ((Qa9 (m.map (·.1))).map (ic .u16)) 32 1]/\True):=by
 refine Qaj (n:=6) Tryz.func50 rfl Tryz.ntmps50 rfl ?_
 have hs:=Own.start w
 refine Qag (Qab (Qaa (Qad (V:=.slice none 0 0) rfl (Qaf (Qag (Qab (Qaa (Qac (V:=.map (some r)) rfl (Qaa (Qbh (vs:=[.map (some r)]) (V:=fun x:Nat=>.func (.func 148) #[] #[Pq x 0]) QuN rfl rfl (Qpz _ r) hs fun x1 w2 hs _=>(Qaa (Qbh (vs:=[.func (.func 148) #[] #[Pq x1 0]]) (V:=fun x:Option Addr × Nat=>.slice x.1 (Qa9 (m.map (·.1))).length x.2) (Lo:=fun x=>[row (.slice x.1 (Qa9 (m.map (·.1))).length x.2) ((Qa9 (m.map (·.1))).map (ic .u16)) 32 1]) (F:=fun _ _=>True) Qv6 rfl rfl ?hc hs fun x3 w4 hs hF5=>?_))))))))))))
 case hc=>exact ((Qlh _ 148 1000000 [.pointer (some ⟨x1,0,none⟩)] Qt3 (by decide) (fun xs=>xs.Perm ((m.map (·.1)).map (Value.int .u16))) (Quf (hs.cellsf 0 rfl) (Qii.own hm hs (fun h=>h)) (by omega)) hsortU).mono fun e w' ⟨y,he,ho,m0,hm0,hy⟩=>by
   have hy2:y.1=Qa9 (m.map (·.1)):=by rw [hy];exact Qmd hm0
   rw [hy2] at he ho
   exact ⟨(y.2.1,y.2.2),he,ho,trivial⟩)
 refine Qaa (Qad (V:=.slice x3.1 ((Qa9 (m.map (·.1))).length) x3.2) rfl (Qaf (Qau ?_)))
 refine ⟨_,Qaq (V:=.slice x3.1 ((Qa9 (m.map (·.1))).length) x3.2) Tryz.results50 rfl,?_⟩
 exact ⟨(x3.1,x3.2),rfl,hs.only 1 rfl,trivial⟩
end Tt
end Go.Proofs
