/- A part of a proof: what functions of the program compute, and plain facts on that. -/
import Derived.Test.YtbjbjboehjdcaaaGreatCutsAbandonedP3
set_option linter.unusedVariables false
set_option linter.unusedSimpArgs false
set_option maxHeartbeats 4000000
set_option maxRecDepth 100000
namespace Go.Proofs
open Go Go.Vx Go.RowKit
namespace Tt
theorem Qks (w:World) (x y:Cen):Calls Tryz.prog 98 #[.agg (cec x).toArray,.agg (cec y).toArray] w (fun e w'=>e = .returned (.bool (Qbi x y))/\Own w no w' []):=by
 refine Qaj (n:=36) Tryz.func98 rfl Tryz.ntmps98 rfl ?_
 have hs:=Own.start w
 refine Qah (Qab (Qaa (QaR (V:=.agg (cec x).toArray) (cs:=cec x) rfl rfl hs fun b1 w2 hs=>(Qaa (QaR (V:=.agg (cec y).toArray) (cs:=cec y) rfl rfl hs fun b3 w4 hs=>(Qaa (Qad (V:=.bool false) rfl (Qaf (Qah (Qah (Qab (Qaa (Qae Qdc rfl (Qaa (QaE (V:=I7 x.cart) Qas hs 0 rfl rfl rfl (Qaa (Qae Qdc rfl (Qaa (QaE (V:=I7 y.cart) Qas hs 1 rfl rfl rfl (Qaa (Qch rfl rfl (Qaf (Qao (t:=!decide (x.cart=y.cart)) rfl (fun c5=>?_) (fun c5=>?_))))))))))))))))))))))))
 ·
  replace c5:=Qbp c5
  replace c5:=QQ2 c5
  refine Qah (Qab (Qaa (Qae Qdc rfl (Qaa (QaE (V:=I7 x.cart) Qas hs 0 rfl rfl rfl (Qaa (Qae Qdc rfl (Qaa (QaE (V:=I7 y.cart) Qas hs 1 rfl rfl rfl (Qaa (QaQ rfl rfl (Qaa (Qad (V:=.bool (decide (x.cart<y.cart))) rfl (Qaf (Qav ?_)))))))))))))))
  refine ⟨_,Qar (V:=.bool (decide (x.cart<y.cart))) Tryz.results98 rfl,(Zr hs ?_)⟩
  unfold Qbi;rw [if_neg c5]
 replace c5:=Qbf c5
 replace c5:=QQ1 c5
 refine Qaq (Qah (Qah (Qab (Qaa (Qae QbI rfl (Qaa (Qae QbE rfl (Qaa (QaE (V:=.int .u8 x.dot.rep) QcF hs 0 rfl rfl rfl (Qaa (Qae QbI rfl (Qaa (Qae QbE rfl (Qaa (QaE (V:=.int .u8 y.dot.rep) QcF hs 1 rfl rfl rfl (Qaa (Qch rfl rfl (Qaf (Qao (t:=!decide (x.dot.rep=y.dot.rep)) rfl (fun c6=>?_) (fun c6=>?_))))))))))))))))))))
 ·
  replace c6:=Qbp c6
  replace c6:=QQ2 c6
  refine Qah (Qab (Qaa (Qae QbI rfl (Qaa (Qae QbE rfl (Qaa (QaE (V:=.int .u8 x.dot.rep) QcF hs 0 rfl rfl rfl (Qaa (Qae QbI rfl (Qaa (Qae QbE rfl (Qaa (QaE (V:=.int .u8 y.dot.rep) QcF hs 1 rfl rfl rfl (Qaa (QaQ rfl rfl (Qaa (Qad (V:=.bool (decide (x.dot.rep<y.dot.rep))) rfl (Qaf (Qav ?_)))))))))))))))))))
  refine ⟨_,Qar (V:=.bool (decide (x.dot.rep<y.dot.rep))) Tryz.results98 rfl,(Zr hs ?_)⟩
  unfold Qbi;rw [if_pos c5,if_neg c6]
 replace c6:=Qbf c6
 replace c6:=QQ1 c6
 refine Qaq (Qah (Qab (Qaa (Qae QbI rfl (Qaa (Qae QbM rfl (Qaa (QaE (V:=.int .u32 x.dot.seq) QaY hs 0 rfl rfl rfl (Qaa (Qae QbI rfl (Qaa (Qae QbM rfl (Qaa (QaE (V:=.int .u32 y.dot.seq) QaY hs 1 rfl rfl rfl (Qaa (QaQ rfl rfl (Qaa (Qad (V:=.bool (decide (x.dot.seq<y.dot.seq))) rfl (Qaf (Qav ?_))))))))))))))))))))
 refine ⟨_,Qar (V:=.bool (decide (x.dot.seq<y.dot.seq))) Tryz.results98 rfl,(Zr hs ?_)⟩
 unfold Qbi;rw [if_pos c5,if_pos c6]
theorem Qkv (w:World) (s:Sta) (a1:Option Addr) (c1:Nat) (a2:Option Addr) (c2:Nat) (c:Int) (hr1:Rd w (.slice a1 s.ents.length c1) 7 (s.ents.map cec)) (hr2:Rd w (.slice a2 s.ticks.length c2) 2 (s.ticks.map lsc)):Calls Tryz.prog 101 #[.agg ((vc s.known)++[(.slice a1 s.ents.length c1:Value),(.slice a2 s.ticks.length c2:Value) ]).toArray,.int .u16 c] w (fun e w'=>e = .returned (.tuple #[.int .u32 ((QaB s.ticks c).getD 0),.bool (QaB s.ticks c).isSome])/\Own w no w' []):=by
 refine Qaj (n:=28) Tryz.func101 rfl Tryz.ntmps101 rfl ?_
 have hs:=Own.start w
 have hn2:=hr2.sml
 refine Qah (Qab (Qaa (QaR (V:=.agg ((vc s.known)++[(.slice a1 s.ents.length c1:Value),(.slice a2 s.ticks.length c2:Value) ]).toArray) (cs:=(vc s.known)++[(.slice a1 s.ents.length c1:Value),(.slice a2 s.ticks.length c2:Value) ]) rfl rfl hs fun b1 w2 hs=>(Qaa (Qad (V:=.int .u32 0) rfl (Qaa (Qad (V:=.bool false) rfl (Qaf (Qah (Qah (Qab (Qaa (Qad (V:=I6 0) rfl (Qaf (Qan (QaA (fun J μ J' w'=>∃ (Jo:Env) (k:Nat),J'=upd (mix (sq 4 24) Jo J) 6 (I6 (k:Int))/\(k<=s.ticks.length)/\(∀ j:Nat,j<k->decide ((gd s.ticks j).cart=c)=false)/\μ=s.ticks.length-k/\Own w no w' [blk b1 ((vc s.known)++[(.slice a1 s.ents.length c1:Value),(.slice a2 s.ticks.length c2:Value) ]) 28]) ?_ ?_))))))))))))))))
 ·exact ⟨_,_,0,Qai (Qap (ds:=(sq 4 24)) (Agr.refl _ _)) rfl,(by omega),(fun j hj=>absurd hj (Nat.not_lt_zero j)),rfl,hs⟩
 rintro μ J' w3 ⟨Jo,k,rfl,hk,hno,rfl,hs⟩
 refine Qah (Qah (Qab (Qaa (Qac (V:=I6 (k:Int)) rfl (Qaa (Qae QcJ rfl (Qaa (QaE (V:=.slice a2 s.ticks.length c2) QfH hs 0 rfl rfl rfl (Qaa (Qa4 (n:=s.ticks.length) Qe6 (Rd.own' hr2 hs) (by simp) rfl (Qaa (QaQ rfl rfl (Qaf (Qao (t:=decide ((k:Int)<((s.ticks.length:Nat):Int))) rfl (fun c4=>?_) (fun c4=>?_)))))))))))))))
 ·
  replace c4:=QQ1 c4
  refine Qaq (Qah (Qan (Qah (Qab (Qaa (Qae QcJ rfl (Qaa (QaE (V:=.slice a2 s.ticks.length c2) QfH hs 0 rfl rfl rfl (Qaa (Qac (V:=I6 (k:Int)) rfl (Qaa (Qax Qe6 QcR.1 (Rd.own' hr2 hs) rfl rfl (by omega) (by rw [QQ6];omega) (Qaa (Qae Qec rfl (Qaa (QaP (j:=0) (V:=I7 ((gd s.ticks k).cart)) k Qas (Rd.own' hr2 hs) (QaW (by omega)) rfl rfl (by omega) (Qaa (Qac (V:=I7 c) rfl (Qaa (QaS rfl rfl (Qaf (Qao (t:=decide ((gd s.ticks k).cart=c)) rfl (fun c5=>?_) (fun c5=>?_)))))))))))))))))))))))
  ·
   replace c5:=QQ1 c5
   refine Qah (Qab (Qaa (Qae QcJ rfl (Qaa (QaE (V:=.slice a2 s.ticks.length c2) QfH hs 0 rfl rfl rfl (Qaa (Qac (V:=I6 (k:Int)) rfl (Qaa (Qax Qe6 QcR.1 (Rd.own' hr2 hs) rfl rfl (by omega) (by rw [QQ6];omega) (Qaa (Qae QfP rfl (Qaa (QaP (j:=1) (V:=.int .u32 ((gd s.ticks k).tick)) k QaY (Rd.own' hr2 hs) (QaW (by omega)) rfl rfl (by omega) (Qaa (Qad (V:=.int .u32 ((gd s.ticks k).tick)) rfl (Qaa (Qad (V:=.bool true) rfl (Qaf (Qav ?_)))))))))))))))))))
   refine ⟨_,Qbq (U:=.int .u32 ((gd s.ticks k).tick)) (V:=.bool true) Tryz.results101 rfl rfl,(Zr hs ?_)⟩
   have hX:=QoM (by omega) hno c5
   rw [hX];rfl
  replace c5:=QQ2 c5
  refine Qaq (Qab (Qaa (Qac (V:=I6 (k:Int)) rfl (Qaa (QaD (a:=(k:Int)) (b:=1) (c:=((k+1:Nat):Int)) rfl rfl (Qak (by omega) (by omega)) (Qaa (Qad (V:=I6 ((k+1:Nat):Int)) rfl (Qaf ?_))))))))
  refine ⟨_,?_,_,k+1,Qai (Qap (ds:=(sq 4 24)) (by repeat (first|exact Agr.refl _ _|refine Agr.upd ?_ rfl|refine Agr.mix ?_ rfl))) rfl,(by omega),(Qcb hno (QQ4 c5)),rfl,hs.take 1⟩
  omega
 replace c4:=QQ2 c4
 refine QaG (Qah (Qab (Qaa (Qad (V:=.int .u32 0) rfl (Qaa (Qad (V:=.bool false) rfl (Qaf (Qav ?_))))))))
 refine ⟨_,Qbq (U:=.int .u32 0) (V:=.bool false) Tryz.results101 rfl rfl,(Zr hs ?_)⟩
 have hX:=Qlg (ts:=s.ticks) (c:=c) fun j hj=>hno j (by omega)
 rw [hX];rfl
theorem QlS (w:World) (s:Sta) (a1:Option Addr) (c1:Nat) (a2:Option Addr) (c2:Nat) (x:Cen) (hx:Qe5 x) (hr1:Rd w (.slice a1 s.ents.length c1) 7 (s.ents.map cec)) (hr2:Rd w (.slice a2 s.ticks.length c2) 2 (s.ticks.map lsc)):Calls Tryz.prog 149 #[.agg ((vc s.known)++[(.slice a1 s.ents.length c1:Value),(.slice a2 s.ticks.length c2:Value) ]).toArray,.agg (cec x).toArray] w (fun e w'=>e = .returned (.bool (Qdl s x))/\Own w no w' []):=by
 refine Qaj (n:=36) Tryz.func149 rfl Tryz.ntmps149 rfl ?_
 have hs:=Own.start w
 have hdx:=hx.2.2.2.2.1
 refine Qah (Qab (Qaa (QaR (V:=.agg ((vc s.known)++[(.slice a1 s.ents.length c1:Value),(.slice a2 s.ticks.length c2:Value) ]).toArray) (cs:=(vc s.known)++[(.slice a1 s.ents.length c1:Value),(.slice a2 s.ticks.length c2:Value) ]) rfl rfl hs fun b1 w2 hs=>(Qaa (QaR (V:=.agg (cec x).toArray) (cs:=cec x) rfl rfl hs fun b3 w4 hs=>(Qaa (Qad (V:=.bool false) rfl (Qaf (Qah (Qab (Qaa (QaJ (cs:=(vc s.known)++[(.slice a1 s.ents.length c1:Value),(.slice a2 s.ticks.length c2:Value) ]) Qez hs 0 rfl rfl rfl (Qaa (Qae Qdc rfl (Qaa (QaE (V:=I7 x.cart) Qas hs 1 rfl rfl rfl (Qaa (Qat (vs:=[.agg ((vc s.known)++[(.slice a1 s.ents.length c1:Value),(.slice a2 s.ticks.length c2:Value) ]).toArray,I7 x.cart]) (V:=.tuple #[.int .u32 ((QaB s.ticks x.cart).getD 0),.bool ((QaB s.ticks x.cart).isSome)]) Qqd rfl rfl ?hc hs fun w5 hs=>?_))))))))))))))))))
 case hc=>exact (Qkv _ s a1 c1 a2 c2 x.cart (Rd.own' hr1 hs) (Rd.own' hr2 hs))
 refine Qaa (Qac (V:=.tuple #[.int .u32 ((QaB s.ticks x.cart).getD 0),.bool ((QaB s.ticks x.cart).isSome)]) rfl (Qaa (Qay (V:=.int .u32 ((QaB s.ticks x.cart).getD 0)) rfl rfl (Qaa (Qay (V:=.bool ((QaB s.ticks x.cart).isSome)) rfl rfl (Qaa (Qad (V:=.int .u32 ((QaB s.ticks x.cart).getD 0)) rfl (Qaa (Qad (V:=.bool ((QaB s.ticks x.cart).isSome)) rfl (Qaf (Qah (Qbh [some 14,some 15,some 16,some 17,some 18,some 19,some 20,some 21,some 22,some 23,some 24,some 25,some 26,some 27,some 28,some 29,some 30,some 31,some 32,some 33,some 34,some 35,some 4] [] [0,1,3,7,15,31,63,127,63,319,1023,2047,4095,8191,16383,32767,65535,131071,262143,524287,1048575,2097151,4194303] [pv (.bool ((QaB s.ticks x.cart).isSome)),pv (.bool ((QaB s.ticks x.cart).isSome)),pg (((QaB s.ticks x.cart).isSome) == true) (.agg (cec x).toArray),pg (((QaB s.ticks x.cart).isSome) == true) (.bool (QaT x)),pv (.bool (((QaB s.ticks x.cart).isSome)&&(QaT x))),pv (.bool (((QaB s.ticks x.cart).isSome)&&(QaT x))),pg ((((QaB s.ticks x.cart).isSome)&&(QaT x)) == true) (Pq b1 (0+0)),pg ((((QaB s.ticks x.cart).isSome)&&(QaT x)) == true) (.agg (vc s.known).toArray),pg ((((QaB s.ticks x.cart).isSome)&&(QaT x)) == true) (Pq b3 (0+4)),pg ((((QaB s.ticks x.cart).isSome)&&(QaT x)) == true) (.agg (dc x.dot).toArray),pg ((((QaB s.ticks x.cart).isSome)&&(QaT x)) == true) (.bool (Qby s.known x.dot)),pv (.bool ((((QaB s.ticks x.cart).isSome)&&(QaT x))&&(Qby s.known x.dot))),pv (.bool ((((QaB s.ticks x.cart).isSome)&&(QaT x))&&(Qby s.known x.dot))),pg (((((QaB s.ticks x.cart).isSome)&&(QaT x))&&(Qby s.known x.dot)) == true) (Pq b3 (0+6)),pg (((((QaB s.ticks x.cart).isSome)&&(QaT x))&&(Qby s.known x.dot)) == true) (.int .u64 x.count),pg (((((QaB s.ticks x.cart).isSome)&&(QaT x))&&(Qby s.known x.dot)) == true) (.bool (decide (1<=x.count))),pv (.bool (((((QaB s.ticks x.cart).isSome)&&(QaT x))&&(Qby s.known x.dot))&&(decide (1<=x.count)))),pv (.bool (((((QaB s.ticks x.cart).isSome)&&(QaT x))&&(Qby s.known x.dot))&&(decide (1<=x.count)))),pg ((((((QaB s.ticks x.cart).isSome)&&(QaT x))&&(Qby s.known x.dot))&&(decide (1<=x.count))) == true) (Pq b3 (0+6)),pg ((((((QaB s.ticks x.cart).isSome)&&(QaT x))&&(Qby s.known x.dot))&&(decide (1<=x.count))) == true) (.int .u64 x.count),pg ((((((QaB s.ticks x.cart).isSome)&&(QaT x))&&(Qby s.known x.dot))&&(decide (1<=x.count))) == true) (.bool (decide (x.count<=16777217))),pv (.bool ((((((QaB s.ticks x.cart).isSome)&&(QaT x))&&(Qby s.known x.dot))&&(decide (1<=x.count)))&&(decide (x.count<=16777217)))),pv (.bool ((((((QaB s.ticks x.cart).isSome)&&(QaT x))&&(Qby s.known x.dot))&&(decide (1<=x.count)))&&(decide (x.count<=16777217))))] (fun _ _=>_) [22] (by kernel_rfl) hs ⟨?_,?_,?_,?_,?_,?_,?_,?_,?_,?_,?_,?_,?_,?_,?_,?_,?_,?_,?_,?_,?_,?_,?_,trivial⟩ ?_))))))))))))
 ·exact oa [] fun D J w hs=>Qac (V:=.bool ((QaB s.ticks x.cart).isSome)) rfl (Zz hs)
 ·exact oa [0] fun D J w hs=>Qac (V:=.bool ((QaB s.ticks x.cart).isSome)) rfl (Zz hs)
 ·exact og [1] fun D J w hG hs=>QaJ (cs:=cec x) Qbt hs 1 rfl rfl rfl (Zz hs)
 ·exact oy [1,2] [2] fun D J w hG hs=>Qat (vs:=[.agg (cec x).toArray]) (V:=.bool (QaT x)) QtI rfl rfl (QkD _ x hx) hs fun _ hs=>Zz hs
 ·exact oa [1,3] fun D J w hs=>Qa2 (h':=QaT x) rfl rfl rfl (Zz hs)
 ·exact oa [4] fun D J w hs=>Qac (V:=.bool (((QaB s.ticks x.cart).isSome)&&(QaT x))) rfl (Zz hs)
 ·exact og [5] fun D J w hG hs=>Qae Qgz rfl (Zz hs)
 ·exact oy [5,6] [6] fun D J w hG hs=>QbU (vs:=vc s.known) QbB hs 0 rfl rfl rfl rfl (Zz hs)
 ·exact og [5] fun D J w hG hs=>Qae QbI rfl (Zz hs)
 ·exact oy [5,8] [8] fun D J w hG hs=>QbU (vs:=dc x.dot) QcL hs 1 rfl rfl rfl rfl (Zz hs)
 ·exact oy [5,7,9] [7,9] fun D J w hG hs=>Qat (vs:=[.agg (vc s.known).toArray,.agg (dc x.dot).toArray]) (V:=.bool (Qby s.known x.dot)) Qpg rfl rfl (Qho _ s.known x.dot (by first|assumption|exact Qde (by omega) (by omega) (by omega) (by omega))) hs fun _ hs=>Zz hs
 ·exact oa [5,10] fun D J w hs=>Qa2 (h':=Qby s.known x.dot) rfl rfl rfl (Zz hs)
 ·exact oa [11] fun D J w hs=>Qac (V:=.bool ((((QaB s.ticks x.cart).isSome)&&(QaT x))&&(Qby s.known x.dot))) rfl (Zz hs)
 ·exact og [12] fun D J w hG hs=>Qae Qej rfl (Zz hs)
 ·exact oy [12,13] [13] fun D J w hG hs=>QaE (V:=.int .u64 x.count) Qes hs 1 rfl rfl rfl (Zz hs)
 ·exact oy [12,14] [14] fun D J w hG hs=>Qct rfl rfl (Zz hs)
 ·exact oa [12,15] fun D J w hs=>Qa2 (h':=decide (1<=x.count)) rfl rfl rfl (Zz hs)
 ·exact oa [16] fun D J w hs=>Qac (V:=.bool (((((QaB s.ticks x.cart).isSome)&&(QaT x))&&(Qby s.known x.dot))&&(decide (1<=x.count)))) rfl (Zz hs)
 ·exact og [17] fun D J w hG hs=>Qae Qej rfl (Zz hs)
 ·exact oy [17,18] [18] fun D J w hG hs=>QaE (V:=.int .u64 x.count) Qes hs 1 rfl rfl rfl (Zz hs)
 ·exact oy [17,19] [19] fun D J w hG hs=>Qc6 rfl rfl (Zz hs)
 ·exact oa [17,20] fun D J w hs=>Qa2 (h':=decide (x.count<=16777217)) rfl rfl rfl (Zz hs)
 ·exact oa [21] fun D J w hs=>Qad (V:=.bool ((((((QaB s.ticks x.cart).isSome)&&(QaT x))&&(Qby s.known x.dot))&&(decide (1<=x.count)))&&(decide (x.count<=16777217)))) rfl (Zz hs)
 rintro J1 w8 J2 hJ hs
 replace hJ:J2=upd (mix (sq 14 22++[4]) J1 _) 4 (.bool ((((((QaB s.ticks x.cart).isSome)&&(QaT x))&&(Qby s.known x.dot))&&(decide (1<=x.count)))&&(decide (x.count<=16777217)))):=hJ
 subst hJ
 refine Qav ?_
 refine ⟨_,Qar (V:=.bool ((((((QaB s.ticks x.cart).isSome)&&(QaT x))&&(Qby s.known x.dot))&&(decide (1<=x.count)))&&(decide (x.count<=16777217)))) Tryz.results149 rfl,(Zr hs ?_)⟩
 rfl
theorem QgV (w:World) (s:Sta) (a1:Option Addr) (c1:Nat) (a2:Option Addr) (c2:Nat) (hok:QdG s) (hr1:Rd w (.slice a1 s.ents.length c1) 7 (s.ents.map cec)) (hr2:Rd w (.slice a2 s.ticks.length c2) 2 (s.ticks.map lsc)):Calls Tryz.prog 100 #[.agg ((vc s.known)++[(.slice a1 s.ents.length c1:Value),(.slice a2 s.ticks.length c2:Value) ]).toArray] w (fun e w'=>e = .returned (.bool (Qam s))/\Own w no w' []):=by
 refine Qaj (n:=95) Tryz.func100 rfl Tryz.ntmps100 rfl ?_
 have hs:=Own.start w
 have ⟨hv0,hE0,hT0⟩:=hok
 have hn1:=hr1.sml
 have hn2:=hr2.sml
 refine Qah (Qab (Qaa (QaR (V:=.agg ((vc s.known)++[(.slice a1 s.ents.length c1:Value),(.slice a2 s.ticks.length c2:Value) ]).toArray) (cs:=(vc s.known)++[(.slice a1 s.ents.length c1:Value),(.slice a2 s.ticks.length c2:Value) ]) rfl rfl hs fun b1 w2 hs=>(Qaa (Qad (V:=.bool false) rfl (Qaf (Qah (Qah (Qab (Qaa (Qad (V:=I6 0) rfl (Qaf (Qan (QaA (fun J μ J' w'=>∃ (Jo:Env) (k:Nat),J'=upd (mix ([2,3]++sq 6 34) Jo J) 3 (I6 (k:Int))/\(k<=s.ticks.length)/\(∀ j:Nat,j<k->QiX s.ticks j=false)/\μ=s.ticks.length-k/\Own w no w' [blk b1 ((vc s.known)++[(.slice a1 s.ents.length c1:Value),(.slice a2 s.ticks.length c2:Value) ]) 28]) ?_ ?_))))))))))))))
 ·exact ⟨_,_,0,Qai (Qap (ds:=([2,3]++sq 6 34)) (Agr.refl _ _)) rfl,(by omega),(fun j hj=>absurd hj (Nat.not_lt_zero j)),rfl,hs⟩
 rintro μ J' w3 ⟨Jo,k,rfl,hk,hbt,rfl,hs⟩
 refine Qah (Qah (Qab (Qaa (Qac (V:=I6 (k:Int)) rfl (Qaa (Qae QcJ rfl (Qaa (QaE (V:=.slice a2 s.ticks.length c2) QfH hs 0 rfl rfl rfl (Qaa (Qa4 (n:=s.ticks.length) Qe6 (Rd.own' hr2 hs) (by simp) rfl (Qaa (QaQ rfl rfl (Qaf (Qao (t:=decide ((k:Int)<((s.ticks.length:Nat):Int))) rfl (fun c4=>?_) (fun c4=>?_)))))))))))))))
 ·
  replace c4:=QQ1 c4
  refine Qaq (Qah (Qan (Qah (QaH HM [some 13,some 14,some 15,some 16,some 17,some 18,some 19,some 20,some 21,some 22,some 23,some 24,some 25,some 26,some 27,some 28,some 29,some 30,some 31,some 32,some 33,some 34,some 35,some 36,some 37,some 38,some 39] [] [0,1,0,7,15,31,63,127,255,511,1023,2047,4095,2047,10239,32767,65535,131071,2047,264191,2047,1837055,3934207,8128511,16777215,33554431,67108863] [pv (Pq b1 (0+17)),pv (.slice a2 s.ticks.length c2),pv (I6 (k:Int)),pv (.pointer (some ⟨bkS (.slice a2 s.ticks.length c2),ofS (.slice a2 s.ticks.length c2)+(k:Int).toNat*2,none⟩)),pv (.pointer (some ⟨bkS (.slice a2 s.ticks.length c2),ofS (.slice a2 s.ticks.length c2)+(k:Int).toNat*2+1,none⟩)),pv (.int .u32 ((gd s.ticks k).tick)),pv (.bool (decide (1073741824<(gd s.ticks k).tick))),pv (.bool (decide (1073741824<(gd s.ticks k).tick))),pg ((decide (1073741824<(gd s.ticks k).tick)) == false) (I6 (k:Int)),pg ((decide (1073741824<(gd s.ticks k).tick)) == false) (.bool (decide (0<(k:Int)))),pg ((decide (1073741824<(gd s.ticks k).tick)) == false) (.bool (decide (0<(k:Int)))),pg (((decide (1073741824<(gd s.ticks k).tick)) == false)&&((decide (0<(k:Int))) == true)) (Pq b1 (0+17)),pg (((decide (1073741824<(gd s.ticks k).tick)) == false)&&((decide (0<(k:Int))) == true)) (.slice a2 s.ticks.length c2),pg (((decide (1073741824<(gd s.ticks k).tick)) == false)&&((decide (0<(k:Int))) == true)) (I6 (k:Int)),pg (((decide (1073741824<(gd s.ticks k).tick)) == false)&&((decide (0<(k:Int))) == true)) (I6 ((k-1:Nat):Int)),pg (((decide (1073741824<(gd s.ticks k).tick)) == false)&&((decide (0<(k:Int))) == true)) (.pointer (some ⟨bkS (.slice a2 s.ticks.length c2),ofS (.slice a2 s.ticks.length c2)+((k-1:Nat):Int).toNat*2,none⟩)),pg (((decide (1073741824<(gd s.ticks k).tick)) == false)&&((decide (0<(k:Int))) == true)) (.pointer (some ⟨bkS (.slice a2 s.ticks.length c2),ofS (.slice a2 s.ticks.length c2)+((k-1:Nat):Int).toNat*2+0,none⟩)),pg (((decide (1073741824<(gd s.ticks k).tick)) == false)&&((decide (0<(k:Int))) == true)) (I7 ((gd s.ticks (k-1)).cart)),pg (((decide (1073741824<(gd s.ticks k).tick)) == false)&&((decide (0<(k:Int))) == true)) (Pq b1 (0+17)),pg (((decide (1073741824<(gd s.ticks k).tick)) == false)&&((decide (0<(k:Int))) == true)) (.slice a2 s.ticks.length c2),pg (((decide (1073741824<(gd s.ticks k).tick)) == false)&&((decide (0<(k:Int))) == true)) (I6 (k:Int)),pg (((decide (1073741824<(gd s.ticks k).tick)) == false)&&((decide (0<(k:Int))) == true)) (.pointer (some ⟨bkS (.slice a2 s.ticks.length c2),ofS (.slice a2 s.ticks.length c2)+(k:Int).toNat*2,none⟩)),pg (((decide (1073741824<(gd s.ticks k).tick)) == false)&&((decide (0<(k:Int))) == true)) (.pointer (some ⟨bkS (.slice a2 s.ticks.length c2),ofS (.slice a2 s.ticks.length c2)+(k:Int).toNat*2+0,none⟩)),pg (((decide (1073741824<(gd s.ticks k).tick)) == false)&&((decide (0<(k:Int))) == true)) (I7 ((gd s.ticks k).cart)),pg (((decide (1073741824<(gd s.ticks k).tick)) == false)&&((decide (0<(k:Int))) == true)) (.bool (decide ((gd s.ticks k).cart<=(gd s.ticks (k-1)).cart))),pg ((decide (1073741824<(gd s.ticks k).tick)) == false) (.bool ((decide (0<(k:Int)))&&(decide ((gd s.ticks k).cart<=(gd s.ticks (k-1)).cart)))),pv (.bool ((decide (1073741824<(gd s.ticks k).tick))||((decide (0<(k:Int)))&&(decide ((gd s.ticks k).cart<=(gd s.ticks (k-1)).cart)))))] (fun _ _=>_) [26] (by kernel_rfl) hs ⟨?_,?_,?_,?_,?_,?_,?_,?_,?_,?_,?_,?_,?_,?_,?_,?_,?_,?_,?_,?_,?_,?_,?_,?_,?_,?_,?_,trivial⟩ ?_))))
  ·exact oa [] fun D J w hs=>Qae QcJ rfl (Zz hs)
  ·exact oa [0] fun D J w hs=>QaE (V:=.slice a2 s.ticks.length c2) QfH hs 0 rfl rfl rfl (Zz hs)
  ·exact oa [] fun D J w hs=>Qac (V:=.int .i64 (k:Int)) rfl (Zz hs)
  ·exact oa [1,2] fun D J w hs=>Qax Qe6 QcR.1 (Rd.own' hr2 hs) rfl rfl (by omega) (by rw [QQ6];omega) (Zz hs)
  ·exact oa [3] fun D J w hs=>Qae QfP rfl (Zz hs)
  ·exact oa [4] fun D J w hs=>QaP (j:=1) (V:=.int .u32 ((gd s.ticks k).tick)) k QaY (Rd.own' hr2 hs) (QaW (by omega)) rfl rfl (by omega) (Zz hs)
  ·exact oa [5] fun D J w hs=>QbP rfl rfl (Zz hs)
  ·exact oa [6] fun D J w hs=>Qac (V:=.bool (decide (1073741824<(gd s.ticks k).tick))) rfl (Zz hs)
  ·exact og [7] fun D J w hG hs=>Qac (V:=.int .i64 (k:Int)) rfl (Zz hs)
  ·exact oy [7,8] [8] fun D J w hG hs=>QbP rfl rfl (Zz hs)
  ·exact oy [7,9] [9] fun D J w hG hs=>Qac (V:=.bool (decide (0<(k:Int)))) rfl (Zz hs)
  ·exact og [10] fun D J w hG hs=>Qae QcJ rfl (Zz hs)
  ·exact oy [10,11] [11] fun D J w hG hs=>QaE (V:=.slice a2 s.ticks.length c2) QfH hs 0 rfl rfl rfl (Zz hs)
  ·exact og [10] fun D J w hG hs=>Qac (V:=.int .i64 (k:Int)) rfl (Zz hs)
  ·refine oy [10,13] [13] fun D J w hG hs=>?_
   have hgd0:=QQ2 (eq_of_beq (QbA (hG)))
   have hgd1:=QQ1 (eq_of_beq (QbC (hG)))
   exact Qa6 (a:=(k:Int)) (b:=1) (c:=((k-1:Nat):Int)) rfl rfl (Qak (by omega) (by omega)) (Zz hs)
  ·refine oy [10,12,14] [12,14] fun D J w hG hs=>?_
   have hgd0:=QQ2 (eq_of_beq (QbA (hG)))
   have hgd1:=QQ1 (eq_of_beq (QbC (hG)))
   exact Qax Qe6 QcR.1 (Rd.own' hr2 hs) rfl rfl (by omega) (by rw [QQ6];omega) (Zz hs)
  ·exact oy [10,15] [15] fun D J w hG hs=>Qae Qec rfl (Zz hs)
  ·refine oy [10,16] [16] fun D J w hG hs=>?_
   have hgd0:=QQ2 (eq_of_beq (QbA (hG)))
   have hgd1:=QQ1 (eq_of_beq (QbC (hG)))
   exact QaP (j:=0) (V:=.int .u16 ((gd s.ticks (k-1)).cart)) (k-1) Qas (Rd.own' hr2 hs) (QaW (by omega)) rfl rfl (by omega) (Zz hs)
  ·exact og [10] fun D J w hG hs=>Qae QcJ rfl (Zz hs)
  ·exact oy [10,18] [18] fun D J w hG hs=>QaE (V:=.slice a2 s.ticks.length c2) QfH hs 0 rfl rfl rfl (Zz hs)
  ·exact og [10] fun D J w hG hs=>Qac (V:=.int .i64 (k:Int)) rfl (Zz hs)
  ·refine oy [10,19,20] [19,20] fun D J w hG hs=>?_
   have hgd0:=QQ2 (eq_of_beq (QbA (hG)))
   have hgd1:=QQ1 (eq_of_beq (QbC (hG)))
   exact Qax Qe6 QcR.1 (Rd.own' hr2 hs) rfl rfl (by omega) (by rw [QQ6];omega) (Zz hs)
  ·exact oy [10,21] [21] fun D J w hG hs=>Qae Qec rfl (Zz hs)
  ·refine oy [10,22] [22] fun D J w hG hs=>?_
   have hgd0:=QQ2 (eq_of_beq (QbA (hG)))
   have hgd1:=QQ1 (eq_of_beq (QbC (hG)))
   exact QaP (j:=0) (V:=.int .u16 ((gd s.ticks k).cart)) k Qas (Rd.own' hr2 hs) (QaW (by omega)) rfl rfl (by omega) (Zz hs)
  ·exact oy [10,17,23] [17,23] fun D J w hG hs=>Qct rfl rfl (Zz hs)
  ·exact oy [7,10,24] [10] fun D J w hG hs=>Qgk (h':=decide ((gd s.ticks k).cart<=(gd s.ticks (k-1)).cart)) (G:=((decide (1073741824<(gd s.ticks k).tick)) == false)) hG rfl rfl rfl (Zz hs)
  ·exact oa [7,25] fun D J w hs=>QbZ (h':=(decide (0<(k:Int)))&&(decide ((gd s.ticks k).cart<=(gd s.ticks (k-1)).cart))) rfl rfl rfl (Zz hs)
  rintro J1 w5 J2 hJ hs
  replace hJ:J2=upd (mix (sq 13 27) J1 _) 39 (.bool ((decide (1073741824<(gd s.ticks k).tick))||((decide (0<(k:Int)))&&(decide ((gd s.ticks k).cart<=(gd s.ticks (k-1)).cart))))):=hJ
  subst hJ
  refine Qao (t:=(decide (1073741824<(gd s.ticks k).tick))||((decide (0<(k:Int)))&&(decide ((gd s.ticks k).cart<=(gd s.ticks (k-1)).cart)))) rfl (fun c6=>?_) (fun c6=>?_)
  ·
   refine Qah (Qab (Qaa (Qad (V:=.bool false) rfl (Qaf (Qav ?_)))))
   refine ⟨_,Qar (V:=.bool false) Tryz.results100 rfl,(Zr hs ?_)⟩
   exact congrArg Value.bool (Qg7 (i:=k) (by omega) (by unfold QiX;have hq:=c6;simpa using hq)).symm
  have c6r:=Qfe c6
  replace c6:=Qfk c6
  replace c6:=QQ2 c6
  refine Qaq (Qab (Qaa (Qac (V:=I6 (k:Int)) rfl (Qaa (QaD (a:=(k:Int)) (b:=1) (c:=((k+1:Nat):Int)) rfl rfl (Qak (by omega) (by omega)) (Qaa (Qad (V:=I6 ((k+1:Nat):Int)) rfl (Qaf ?_))))))))
  refine ⟨_,?_,_,k+1,Qai (Qap (ds:=([2,3]++sq 6 34)) (by repeat (first|exact Agr.refl _ _|refine Agr.upd ?_ rfl|refine Agr.mix ?_ rfl))) rfl,(by omega),(Qcb hbt (by unfold QiX;rw [QQ4 c6,Bool.false_or];have hq:=c6r;simpa using hq)),rfl,hs.take 1⟩
  omega
 replace c4:=QQ2 c4
 refine QaG (Qah (Qah (Qab (Qaa (Qad (V:=I6 0) rfl (Qaf (Qan (QaA (fun J μ J' w'=>∃ (Jo:Env) (k2:Nat),J'=upd (mix ([2,4,5]++sq 40 52) Jo J) 4 (I6 (k2:Int))/\(k2<=s.ents.length)/\(∀ j:Nat,j<k2->QgE s j=false)/\μ=s.ents.length-k2/\Own w no w' [blk b1 ((vc s.known)++[(.slice a1 s.ents.length c1:Value),(.slice a2 s.ticks.length c2:Value) ]) 28]) ?_ ?_))))))))
 ·exact ⟨_,_,0,Qai (Qap (ds:=([2,4,5]++sq 40 52)) (Agr.refl _ _)) rfl,(by omega),(fun j hj=>absurd hj (Nat.not_lt_zero j)),rfl,hs⟩
 rintro μ J' w7 ⟨Jo,k2,rfl,hk2,hbe,rfl,hs⟩
 refine Qah (Qah (Qab (Qaa (Qac (V:=I6 (k2:Int)) rfl (Qaa (Qae QbR rfl (Qaa (QaE (V:=.slice a1 s.ents.length c1) QdH hs 0 rfl rfl rfl (Qaa (Qa4 (n:=s.ents.length) QcX (Rd.own' hr1 hs) (by simp) rfl (Qaa (QaQ rfl rfl (Qaf (Qao (t:=decide ((k2:Int)<((s.ents.length:Nat):Int))) rfl (fun c8=>?_) (fun c8=>?_)))))))))))))))
 ·
  replace c8:=QQ1 c8
  refine Qaq (Qah (Qan (Qah (Qah (QaH HM [some 47,some 48,some 49,some 50,some 51,some 52,some 53,some 54,some 55,some 56,some 57,some 58,some 59,some 60,some 61,some 62,some 63,some 64,some 65,some 66,some 67,some 68,some 69,some 70,some 71,some 72,some 73] [] [0,0,2,0,14,30,63,127,255,511,1023,2047,4095,8191,4095,20479,65535,131071,4095,266239,4095,1839103,3936255,8388607,16777215,33554431,67108863] [pv (.agg ((vc s.known)++[(.slice a1 s.ents.length c1:Value),(.slice a2 s.ticks.length c2:Value) ]).toArray),pv (Pq b1 (0+16)),pv (.slice a1 s.ents.length c1),pv (I6 (k2:Int)),pv (.pointer (some ⟨bkS (.slice a1 s.ents.length c1),ofS (.slice a1 s.ents.length c1)+(k2:Int).toNat*7,none⟩)),pv (.agg (cec (gd s.ents k2)).toArray),pv (.bool (Qdl s (gd s.ents k2))),pv (.bool (!(Qdl s (gd s.ents k2)))),pv (.bool (!(Qdl s (gd s.ents k2)))),pg ((!(Qdl s (gd s.ents k2))) == false) (I6 (k2:Int)),pg ((!(Qdl s (gd s.ents k2))) == false) (.bool (decide (0<(k2:Int)))),pg ((!(Qdl s (gd s.ents k2))) == false) (.bool (decide (0<(k2:Int)))),pg (((!(Qdl s (gd s.ents k2))) == false)&&((decide (0<(k2:Int))) == true)) (Pq b1 (0+16)),pg (((!(Qdl s (gd s.ents k2))) == false)&&((decide (0<(k2:Int))) == true)) (.slice a1 s.ents.length c1),pg (((!(Qdl s (gd s.ents k2))) == false)&&((decide (0<(k2:Int))) == true)) (I6 (k2:Int)),pg (((!(Qdl s (gd s.ents k2))) == false)&&((decide (0<(k2:Int))) == true)) (I6 ((k2-1:Nat):Int)),pg (((!(Qdl s (gd s.ents k2))) == false)&&((decide (0<(k2:Int))) == true)) (.pointer (some ⟨bkS (.slice a1 s.ents.length c1),ofS (.slice a1 s.ents.length c1)+((k2-1:Nat):Int).toNat*7,none⟩)),pg (((!(Qdl s (gd s.ents k2))) == false)&&((decide (0<(k2:Int))) == true)) (.agg (cec (gd s.ents (k2-1))).toArray),pg (((!(Qdl s (gd s.ents k2))) == false)&&((decide (0<(k2:Int))) == true)) (Pq b1 (0+16)),pg (((!(Qdl s (gd s.ents k2))) == false)&&((decide (0<(k2:Int))) == true)) (.slice a1 s.ents.length c1),pg (((!(Qdl s (gd s.ents k2))) == false)&&((decide (0<(k2:Int))) == true)) (I6 (k2:Int)),pg (((!(Qdl s (gd s.ents k2))) == false)&&((decide (0<(k2:Int))) == true)) (.pointer (some ⟨bkS (.slice a1 s.ents.length c1),ofS (.slice a1 s.ents.length c1)+(k2:Int).toNat*7,none⟩)),pg (((!(Qdl s (gd s.ents k2))) == false)&&((decide (0<(k2:Int))) == true)) (.agg (cec (gd s.ents k2)).toArray),pg (((!(Qdl s (gd s.ents k2))) == false)&&((decide (0<(k2:Int))) == true)) (.bool (Qbi (gd s.ents (k2-1)) (gd s.ents k2))),pg (((!(Qdl s (gd s.ents k2))) == false)&&((decide (0<(k2:Int))) == true)) (.bool (!(Qbi (gd s.ents (k2-1)) (gd s.ents k2)))),pg ((!(Qdl s (gd s.ents k2))) == false) (.bool ((decide (0<(k2:Int)))&&(!(Qbi (gd s.ents (k2-1)) (gd s.ents k2))))),pv (.bool ((!(Qdl s (gd s.ents k2)))||((decide (0<(k2:Int)))&&(!(Qbi (gd s.ents (k2-1)) (gd s.ents k2))))))] (fun _ _=>_) [26] (by kernel_rfl) hs ⟨?_,?_,?_,?_,?_,?_,?_,?_,?_,?_,?_,?_,?_,?_,?_,?_,?_,?_,?_,?_,?_,?_,?_,?_,?_,?_,?_,trivial⟩ ?_)))))
  ·exact oa [] fun D J w hs=>QaJ (cs:=(vc s.known)++[(.slice a1 s.ents.length c1:Value),(.slice a2 s.ticks.length c2:Value) ]) Qez hs 0 rfl rfl rfl (Zz hs)
  ·exact oa [] fun D J w hs=>Qae QbR rfl (Zz hs)
  ·exact oa [1] fun D J w hs=>QaE (V:=.slice a1 s.ents.length c1) QdH hs 0 rfl rfl rfl (Zz hs)
  ·exact oa [] fun D J w hs=>Qac (V:=.int .i64 (k2:Int)) rfl (Zz hs)
  ·exact oa [2,3] fun D J w hs=>Qax QcX Qbt.1 (Rd.own' hr1 hs) rfl rfl (by omega) (by rw [QQ6];omega) (Zz hs)
  ·exact oa [4] fun D J w hs=>Qa5 (j:=0) (vs:=cec (gd s.ents k2)) k2 Qbt (Rd.own' hr1 hs) (QaW (by omega)) rfl rfl rfl (by omega) (Zz hs)
  ·exact oa [0,5] fun D J w hs=>Qat (vs:=[.agg ((vc s.known)++[(.slice a1 s.ents.length c1:Value),(.slice a2 s.ticks.length c2:Value) ]).toArray,.agg (cec (gd s.ents k2)).toArray]) (V:=.bool (Qdl s (gd s.ents k2))) QtU rfl rfl (QlS _ s a1 c1 a2 c2 (gd s.ents k2) (hE0 _ (QbK (by omega))) (Rd.own' hr1 hs) (Rd.own' hr2 hs)) hs fun _ hs=>Zz hs
  ·exact oa [6] fun D J w hs=>Qbw rfl (Zz hs)
  ·exact oa [7] fun D J w hs=>Qac (V:=.bool (!(Qdl s (gd s.ents k2)))) rfl (Zz hs)
  ·exact og [8] fun D J w hG hs=>Qac (V:=.int .i64 (k2:Int)) rfl (Zz hs)
  ·exact oy [8,9] [9] fun D J w hG hs=>QbP rfl rfl (Zz hs)
  ·exact oy [8,10] [10] fun D J w hG hs=>Qac (V:=.bool (decide (0<(k2:Int)))) rfl (Zz hs)
  ·exact og [11] fun D J w hG hs=>Qae QbR rfl (Zz hs)
  ·exact oy [11,12] [12] fun D J w hG hs=>QaE (V:=.slice a1 s.ents.length c1) QdH hs 0 rfl rfl rfl (Zz hs)
  ·exact og [11] fun D J w hG hs=>Qac (V:=.int .i64 (k2:Int)) rfl (Zz hs)
  ·refine oy [11,14] [14] fun D J w hG hs=>?_
   have hgd1:=QQ1 (eq_of_beq (QbC (hG)))
   exact Qa6 (a:=(k2:Int)) (b:=1) (c:=((k2-1:Nat):Int)) rfl rfl (Qak (by omega) (by omega)) (Zz hs)
  ·refine oy [11,13,15] [13,15] fun D J w hG hs=>?_
   have hgd1:=QQ1 (eq_of_beq (QbC (hG)))
   exact Qax QcX Qbt.1 (Rd.own' hr1 hs) rfl rfl (by omega) (by rw [QQ6];omega) (Zz hs)
  ·refine oy [11,16] [16] fun D J w hG hs=>?_
   have hgd1:=QQ1 (eq_of_beq (QbC (hG)))
   exact Qa5 (j:=0) (vs:=cec (gd s.ents (k2-1))) (k2-1) Qbt (Rd.own' hr1 hs) (QaW (by omega)) rfl rfl rfl (by omega) (Zz hs)
  ·exact og [11] fun D J w hG hs=>Qae QbR rfl (Zz hs)
  ·exact oy [11,18] [18] fun D J w hG hs=>QaE (V:=.slice a1 s.ents.length c1) QdH hs 0 rfl rfl rfl (Zz hs)
  ·exact og [11] fun D J w hG hs=>Qac (V:=.int .i64 (k2:Int)) rfl (Zz hs)
  ·refine oy [11,19,20] [19,20] fun D J w hG hs=>?_
   have hgd1:=QQ1 (eq_of_beq (QbC (hG)))
   exact Qax QcX Qbt.1 (Rd.own' hr1 hs) rfl rfl (by omega) (by rw [QQ6];omega) (Zz hs)
  ·refine oy [11,21] [21] fun D J w hG hs=>?_
   have hgd1:=QQ1 (eq_of_beq (QbC (hG)))
   exact Qa5 (j:=0) (vs:=cec (gd s.ents k2)) k2 Qbt (Rd.own' hr1 hs) (QaW (by omega)) rfl rfl rfl (by omega) (Zz hs)
  ·exact oy [11,17,22] [17,22] fun D J w hG hs=>Qat (vs:=[.agg (cec (gd s.ents (k2-1))).toArray,.agg (cec (gd s.ents k2)).toArray]) (V:=.bool (Qbi (gd s.ents (k2-1)) (gd s.ents k2))) Qtw rfl rfl (Qks _ (gd s.ents (k2-1)) (gd s.ents k2)) hs fun _ hs=>Zz hs
  ·exact oy [11,23] [23] fun D J w hG hs=>Qbw rfl (Zz hs)
  ·exact oy [8,11,24] [11] fun D J w hG hs=>Qgk (h':=!(Qbi (gd s.ents (k2-1)) (gd s.ents k2))) (G:=((!(Qdl s (gd s.ents k2))) == false)) hG rfl rfl rfl (Zz hs)
  ·exact oa [8,25] fun D J w hs=>QbZ (h':=(decide (0<(k2:Int)))&&(!(Qbi (gd s.ents (k2-1)) (gd s.ents k2)))) rfl rfl rfl (Zz hs)
  rintro J1 w11 J2 hJ hs
  replace hJ:J2=upd (mix (sq 47 27) J1 _) 73 (.bool ((!(Qdl s (gd s.ents k2)))||((decide (0<(k2:Int)))&&(!(Qbi (gd s.ents (k2-1)) (gd s.ents k2)))))):=hJ
  subst hJ
  refine Qao (t:=(!(Qdl s (gd s.ents k2)))||((decide (0<(k2:Int)))&&(!(Qbi (gd s.ents (k2-1)) (gd s.ents k2))))) rfl (fun c12=>?_) (fun c12=>?_)
  ·
   refine Qah (Qab (Qaa (Qad (V:=.bool false) rfl (Qaf (Qav ?_)))))
   refine ⟨_,Qar (V:=.bool false) Tryz.results100 rfl,(Zr hs (congrArg Value.bool (Qcl (i:=k2) (by omega) ?_).symm))⟩
   have hq:=c12
   unfold QgE
   revert hq
   rcases Nat.eq_zero_or_pos k2 with q9|q9
   ·subst q9;cases Qdl s (gd s.ents 0)<;>simp
   rw [QQ3 (p:=0<k2) q9,QQ3 (p:=(0:Int)<_) (by omega)];cases Qdl s (gd s.ents k2)<;>cases Qbi (gd s.ents (k2-1)) (gd s.ents k2)<;>simp
  have c12r:=Qfe c12
  replace c12:=Qfk c12
  replace c12:=Qbf c12
  refine Qaq (Qah (Qab (Qaa (Qad (V:=I6 0) rfl (Qaf (Qan ?_))))))
  have hen:=c12
  have hah:(decide (0<k2)&&!Qbi (gd s.ents (k2-1)) (gd s.ents k2))=false:=by have hq:=c12r;simpa using hq
  refine QaA (fun J μ J' w'=>∃ (Jo:Env) (k3:Nat),J'=upd (mix ([2,5]++sq 74 18) Jo J) 5 (I6 (k3:Int))/\(k3<=k2)/\(∀ j:Nat,j<k3->decide ((gd s.ents j).dot=(gd s.ents k2).dot)=false)/\μ=k2-k3/\Own w no w' [blk b1 ((vc s.known)++[(.slice a1 s.ents.length c1:Value),(.slice a2 s.ticks.length c2:Value) ]) 28]) ?_ ?_
  ·exact ⟨_,_,0,Qai (Qap (ds:=([2,5]++sq 74 18)) (Agr.refl _ _)) rfl,(by omega),(fun j hj=>absurd hj (Nat.not_lt_zero j)),rfl,hs⟩
  rintro μ J' w13 ⟨Jo,k3,rfl,hk3,hdd,rfl,hs⟩
  refine Qah (Qah (Qab (Qaa (Qac (V:=I6 (k3:Int)) rfl (Qaa (Qac (V:=I6 (k2:Int)) rfl (Qaa (QaQ rfl rfl (Qaf (Qao (t:=decide ((k3:Int)<(k2:Int))) rfl (fun c14=>?_) (fun c14=>?_)))))))))))
  ·
   replace c14:=QQ1 c14
   refine Qaq (Qah (Qan (Qah (QaH HM [some 79,some 80,some 81,some 82,some 83,some 84,some 85,some 86,some 87,some 88,some 89,some 90,some 91] [] [0,1,0,7,15,31,0,64,0,448,960,1984,4095] [pv (Pq b1 (0+16)),pv (.slice a1 s.ents.length c1),pv (I6 (k3:Int)),pv (.pointer (some ⟨bkS (.slice a1 s.ents.length c1),ofS (.slice a1 s.ents.length c1)+(k3:Int).toNat*7,none⟩)),pv (.pointer (some ⟨bkS (.slice a1 s.ents.length c1),ofS (.slice a1 s.ents.length c1)+(k3:Int).toNat*7+4,none⟩)),pv (.agg (dc ((gd s.ents k3).dot)).toArray),pv (Pq b1 (0+16)),pv (.slice a1 s.ents.length c1),pv (I6 (k2:Int)),pv (.pointer (some ⟨bkS (.slice a1 s.ents.length c1),ofS (.slice a1 s.ents.length c1)+(k2:Int).toNat*7,none⟩)),pv (.pointer (some ⟨bkS (.slice a1 s.ents.length c1),ofS (.slice a1 s.ents.length c1)+(k2:Int).toNat*7+4,none⟩)),pv (.agg (dc ((gd s.ents k2).dot)).toArray),pv (.bool (decide ((gd s.ents k3).dot=(gd s.ents k2).dot)))] (fun _ _=>_) [12] (by kernel_rfl) hs ⟨?_,?_,?_,?_,?_,?_,?_,?_,?_,?_,?_,?_,?_,trivial⟩ ?_))))
   ·exact oa [] fun D J w hs=>Qae QbR rfl (Zz hs)
   ·exact oa [0] fun D J w hs=>QaE (V:=.slice a1 s.ents.length c1) QdH hs 0 rfl rfl rfl (Zz hs)
   ·exact oa [] fun D J w hs=>Qac (V:=.int .i64 (k3:Int)) rfl (Zz hs)
   ·exact oa [1,2] fun D J w hs=>Qax QcX Qbt.1 (Rd.own' hr1 hs) rfl rfl (by omega) (by rw [QQ6];omega) (Zz hs)
   ·exact oa [3] fun D J w hs=>Qae QbI rfl (Zz hs)
   ·exact oa [4] fun D J w hs=>Qa5 (j:=4) (vs:=dc ((gd s.ents k3).dot)) k3 QcL (Rd.own' hr1 hs) (QaW (by omega)) rfl rfl rfl (by omega) (Zz hs)
   ·exact oa [] fun D J w hs=>Qae QbR rfl (Zz hs)
   ·exact oa [6] fun D J w hs=>QaE (V:=.slice a1 s.ents.length c1) QdH hs 0 rfl rfl rfl (Zz hs)
   ·exact oa [] fun D J w hs=>Qac (V:=.int .i64 (k2:Int)) rfl (Zz hs)
   ·exact oa [7,8] fun D J w hs=>Qax QcX Qbt.1 (Rd.own' hr1 hs) rfl rfl (by omega) (by rw [QQ6];omega) (Zz hs)
   ·exact oa [9] fun D J w hs=>Qae QbI rfl (Zz hs)
   ·exact oa [10] fun D J w hs=>Qa5 (j:=4) (vs:=dc ((gd s.ents k2).dot)) k2 QcL (Rd.own' hr1 hs) (QaW (by omega)) rfl rfl rfl (by omega) (Zz hs)
   ·exact oa [5,11] fun D J w hs=>Qpd (xs:=dc ((gd s.ents k3).dot)) (ys:=dc ((gd s.ents k2).dot)) Tryz.eqGuardType96 (QqT ((gd s.ents k3).dot) ((gd s.ents k2).dot)) rfl rfl rfl (Zz hs)
   rintro J1 w15 J2 hJ hs
   replace hJ:J2=upd (mix (sq 79 13) J1 _) 91 (.bool (decide ((gd s.ents k3).dot=(gd s.ents k2).dot))):=hJ
   subst hJ
   refine Qao (t:=decide ((gd s.ents k3).dot=(gd s.ents k2).dot)) rfl (fun c16=>?_) (fun c16=>?_)
   ·
    replace c16:=QQ1 c16
    refine Qah (Qab (Qaa (Qad (V:=.bool false) rfl (Qaf (Qav ?_)))))
    refine ⟨_,Qar (V:=.bool false) Tryz.results100 rfl,(Zr hs ?_)⟩
    exact congrArg Value.bool (Qcl (i:=k2) (by omega) (QoG (j:=k3) (by omega) (by omega) c16)).symm
   replace c16:=QQ2 c16
   refine Qaq (Qab (Qaa (Qac (V:=I6 (k3:Int)) rfl (Qaa (QaD (a:=(k3:Int)) (b:=1) (c:=((k3+1:Nat):Int)) rfl rfl (Qak (by omega) (by omega)) (Qaa (Qad (V:=I6 ((k3+1:Nat):Int)) rfl (Qaf ?_))))))))
   refine ⟨_,?_,_,k3+1,Qai (Qap (ds:=([2,5]++sq 74 18)) (by repeat (first|exact Agr.refl _ _|refine Agr.upd ?_ rfl|refine Agr.mix ?_ rfl))) rfl,(by omega),(Qcb hdd (QQ4 c16)),rfl,hs.take 1⟩
   omega
  replace c14:=QQ2 c14
  refine QaG (Qab (Qaa (Qac (V:=I6 (k2:Int)) rfl (Qaa (QaD (a:=(k2:Int)) (b:=1) (c:=((k2+1:Nat):Int)) rfl rfl (Qak (by omega) (by omega)) (Qaa (Qad (V:=I6 ((k2+1:Nat):Int)) rfl (Qaf ?_))))))))
  refine ⟨_,?_,_,k2+1,Qai (Qap (ds:=([2,4,5]++sq 40 52)) (by repeat (first|exact Agr.refl _ _|refine Agr.upd ?_ rfl|refine Agr.mix ?_ rfl))) rfl,(by omega),(Qcb hbe (QqQ (by omega) hen hah fun j hj=>hdd j (by omega))),rfl,hs.take 1⟩
  omega
 replace c8:=QQ2 c8
 refine QaG (Qah (Qab (Qaa (Qae Qgz rfl (Qaa (QbU (vs:=vc s.known) QbB hs 0 rfl rfl rfl rfl (Qaa (Qat (vs:=[.agg (vc s.known).toArray,I6 16]) (V:=.bool (QaL s.known 16)) QqE rfl rfl ?hc hs fun w17 hs=>?_))))))))
 case hc=>exact (Qf5 _ s.known 16 (by first|assumption|exact Qb1))
 refine Qaa (Qad (V:=.bool (QaL s.known 16)) rfl (Qaf (Qav ?_)))
 refine ⟨_,Qar (V:=.bool (QaL s.known 16)) Tryz.results100 rfl,(Zr hs ?_)⟩
 exact congrArg Value.bool (QkL (fun i hi=>hbt i (by omega)) fun i hi=>hbe i (by omega)).symm
theorem QsS (w:World) (s:Sta) (a1:Option Addr) (c1:Nat) (a2:Option Addr) (c2:Nat) (hr1:Rd w (.slice a1 s.ents.length c1) 7 (s.ents.map cec)) (hr2:Rd w (.slice a2 s.ticks.length c2) 2 (s.ticks.map lsc)):Calls Tryz.prog 38 #[.agg ((vc s.known)++[(.slice a1 s.ents.length c1:Value),(.slice a2 s.ticks.length c2:Value) ]).toArray] w (fun e w'=>e = .returned (.bool (Qhq s))/\Own w no w' []):=by
 refine Qaj (n:=13) Tryz.func38 rfl Tryz.ntmps38 rfl ?_
 have hs:=Own.start w
 refine Qah (Qab (Qaa (QaR (V:=.agg ((vc s.known)++[(.slice a1 s.ents.length c1:Value),(.slice a2 s.ticks.length c2:Value) ]).toArray) (cs:=(vc s.known)++[(.slice a1 s.ents.length c1:Value),(.slice a2 s.ticks.length c2:Value) ]) rfl rfl hs fun b1 w2 hs=>(Qaa (Qad (V:=.bool false) rfl (Qaf (Qah (Qbh [some 3,some 4,some 5,some 6,some 7,some 8,some 9,some 10,some 11,some 12,some 2] [] [0,1,3,7,15,31,63,127,255,511,1023] [pv (Pq b1 (0+16)),pv (.slice a1 s.ents.length c1),pv (I6 ((s.ents.length:Nat):Int)),pv (.bool (decide (((s.ents.length:Nat):Int)<=60))),pv (.bool (decide (((s.ents.length:Nat):Int)<=60))),pg ((decide (((s.ents.length:Nat):Int)<=60)) == true) (Pq b1 (0+17)),pg ((decide (((s.ents.length:Nat):Int)<=60)) == true) (.slice a2 s.ticks.length c2),pg ((decide (((s.ents.length:Nat):Int)<=60)) == true) (I6 ((s.ticks.length:Nat):Int)),pg ((decide (((s.ents.length:Nat):Int)<=60)) == true) (.bool (decide (((s.ticks.length:Nat):Int)<=60))),pv (.bool ((decide (((s.ents.length:Nat):Int)<=60))&&(decide (((s.ticks.length:Nat):Int)<=60)))),pv (.bool ((decide (((s.ents.length:Nat):Int)<=60))&&(decide (((s.ticks.length:Nat):Int)<=60))))] (fun _ _=>_) [10] (by kernel_rfl) hs ⟨?_,?_,?_,?_,?_,?_,?_,?_,?_,?_,?_,trivial⟩ ?_))))))))
 ·exact oa [] fun D J w hs=>Qae QbR rfl (Zz hs)
 ·exact oa [0] fun D J w hs=>QaE (V:=.slice a1 s.ents.length c1) QdH hs 0 rfl rfl rfl (Zz hs)
 ·exact oa [1] fun D J w hs=>Qa4 (n:=s.ents.length) QcX (Rd.own' hr1 hs) (by simp) rfl (Zz hs)
 ·exact oa [2] fun D J w hs=>Qc6 rfl rfl (Zz hs)
 ·exact oa [3] fun D J w hs=>Qac (V:=.bool (decide (((s.ents.length:Nat):Int)<=60))) rfl (Zz hs)
 ·exact og [4] fun D J w hG hs=>Qae QcJ rfl (Zz hs)
 ·exact oy [4,5] [5] fun D J w hG hs=>QaE (V:=.slice a2 s.ticks.length c2) QfH hs 0 rfl rfl rfl (Zz hs)
 ·exact oy [4,6] [6] fun D J w hG hs=>Qa4 (n:=s.ticks.length) Qe6 (Rd.own' hr2 hs) (by simp) rfl (Zz hs)
 ·exact oy [4,7] [7] fun D J w hG hs=>Qc6 rfl rfl (Zz hs)
 ·exact oa [4,8] fun D J w hs=>Qa2 (h':=decide (((s.ticks.length:Nat):Int)<=60)) rfl rfl rfl (Zz hs)
 ·exact oa [9] fun D J w hs=>Qad (V:=.bool ((decide (((s.ents.length:Nat):Int)<=60))&&(decide (((s.ticks.length:Nat):Int)<=60)))) rfl (Zz hs)
 rintro J1 w3 J2 hJ hs
 replace hJ:J2=upd (mix (sq 3 10++[2]) J1 _) 2 (.bool ((decide (((s.ents.length:Nat):Int)<=60))&&(decide (((s.ticks.length:Nat):Int)<=60)))):=hJ
 subst hJ
 refine Qav ?_
 refine ⟨_,Qar (V:=.bool ((decide (((s.ents.length:Nat):Int)<=60))&&(decide (((s.ticks.length:Nat):Int)<=60)))) Tryz.results38 rfl,(Zr hs ?_)⟩
 rfl
end Tt
end Go.Proofs
namespace Go.Proofs
open Go Go.Vx Go.RowKit
namespace Tt
theorem QkQ (w:World) (p:Pst) (a1:Option Addr) (c1:Nat) (a2:Option Addr) (c2:Nat) (a3:Option Addr) (c3:Nat) (hok:QcW p) (hle:p.base.ents.length<=400) (hlt:p.base.ticks.length<=400) (hlo:p.ops.length<=400) (hr1:Rd w (.slice a1 p.base.ents.length c1) 7 (p.base.ents.map cec)) (hr2:Rd w (.slice a2 p.base.ticks.length c2) 2 (p.base.ticks.map lsc)) (hr3:Rd w (.slice a3 p.ops.length c3) 23 (p.ops.map oc)):Calls Tryz.prog 13 #[.agg (((vc p.base.known)++[(.slice a1 p.base.ents.length c1:Value),(.slice a2 p.base.ticks.length c2:Value) ])++[(.slice a3 p.ops.length c3:Value) ]++(vc p.known)).toArray] w (fun e w'=>∃ x:(Option Addr × Nat) × (Option Addr × Nat),e = .returned (.agg ((vc p.base.known++[(.slice x.1.1 p.base.ents.length x.1.2:Value),(.slice x.2.1 p.base.ticks.length x.2.2:Value)])++[(.slice a3 p.ops.length c3:Value)]++vc p.known).toArray)/\Own w no w' [row (.slice x.1.1 p.base.ents.length x.1.2) (p.base.ents.map cec) 106 7,row (.slice x.2.1 p.base.ticks.length x.2.2) (p.base.ticks.map lsc) 102 2]/\True):=by
 refine Qaj (n:=11) Tryz.func13 rfl Tryz.ntmps13 rfl ?_
 have hs:=Own.start w
 have ⟨hokb,hoko,hokk⟩:=hok
 refine Qah (Qab (Qaa (QaR (V:=.agg (((vc p.base.known)++[(.slice a1 p.base.ents.length c1:Value),(.slice a2 p.base.ticks.length c2:Value) ])++[(.slice a3 p.ops.length c3:Value) ]++(vc p.known)).toArray) (cs:=((vc p.base.known)++[(.slice a1 p.base.ents.length c1:Value),(.slice a2 p.base.ticks.length c2:Value) ])++[(.slice a3 p.ops.length c3:Value) ]++(vc p.known)) rfl rfl hs fun b1 w2 hs=>(Qaa (QaM (cs:=((vc vzero)++[(.slice none 0 0:Value),(.slice none 0 0:Value) ])++[(.slice none 0 0:Value) ]++(vc vzero)) Qtq rfl hs fun b3 w4 hs=>(Qaf (Qah ?_)))))))
 replace hs:=hs.more emp trivial
 replace hs:=hs.more emp trivial
 refine QaH HM [some 3,some 4,some 5,some 6,some 7,some 8,some 9,some 10,none] [[],[],[5],[],[],[],[],[5]] [0,1,3,0,8,0,32,127,255] [pv (Pq b1 (0+0)),pv (.agg ((vc p.base.known)++[(.slice a1 p.base.ents.length c1:Value),(.slice a2 p.base.ticks.length c2:Value) ]).toArray),(true,fun J=>.agg ((vc ((p.base).known))++[(.slice (aOf (Qbr (J 5) 16)) (((p.base).ents).length) (cOf (Qbr (J 5) 16)):Value),(.slice (aOf (Qbr (J 5) 17)) (((p.base).ticks).length) (cOf (Qbr (J 5) 17)):Value) ]).toArray),pv (Pq b1 (0+18)),pv (.slice a3 p.ops.length c3),pv (Pq b1 (0+19)),pv (.agg (vc p.known).toArray),(true,fun J=>.agg (((vc ((p.base).known))++[(.slice (aOf (Qbr (J 5) 16)) (((p.base).ents).length) (cOf (Qbr (J 5) 16)):Value),(.slice (aOf (Qbr (J 5) 17)) (((p.base).ticks).length) (cOf (Qbr (J 5) 17)):Value) ])++[(.slice a3 p.ops.length c3:Value) ]++(vc p.known)).toArray),pn] (fun D J=>[blk b1 (((vc p.base.known)++[(.slice a1 p.base.ents.length c1:Value),(.slice a2 p.base.ticks.length c2:Value) ])++[(.slice a3 p.ops.length c3:Value) ]++(vc p.known)) 31,cond (D 8) (blk b3 (((vc ((p.base).known))++[(.slice (aOf (Qbr (J 5) 16)) (((p.base).ents).length) (cOf (Qbr (J 5) 16)):Value),(.slice (aOf (Qbr (J 5) 17)) (((p.base).ticks).length) (cOf (Qbr (J 5) 17)):Value) ])++[(.slice a3 p.ops.length c3:Value) ]++(vc p.known)) 43) (blk b3 (((vc vzero)++[(.slice none 0 0:Value),(.slice none 0 0:Value) ])++[(.slice none 0 0:Value) ]++(vc vzero)) 43),cond (D 2) (row (.slice (aOf (Qbr (J 5) 16)) (((p.base).ents).length) (cOf (Qbr (J 5) 16))) (((p.base).ents).map cec) 106 7) (emp),cond (D 2) (row (.slice (aOf (Qbr (J 5) 17)) (((p.base).ticks).length) (cOf (Qbr (J 5) 17))) (((p.base).ticks).map lsc) 102 2) (emp)]) [] (by kernel_rfl) hs ⟨?_,?_,?_,?_,?_,?_,?_,?_,?_,trivial⟩ ?_
 ·exact oa [] fun D J w hs=>Qae QdZ rfl (Zz hs)
 ·exact oa [0] fun D J w hs=>QbU (vs:=(vc p.base.known)++[(.slice a1 p.base.ents.length c1:Value),(.slice a2 p.base.ticks.length c2:Value) ]) Qez hs 0 rfl rfl rfl rfl (Zz hs)
 ·exact ob [1] [8] rfl rfl fun D J w hs=>Qbo (α:=(Option Addr × Nat) × (Option Addr × Nat)) (vs:=[.agg ((vc p.base.known)++[(.slice a1 p.base.ents.length c1:Value),(.slice a2 p.base.ticks.length c2:Value) ]).toArray]) (V:=fun x:(Option Addr × Nat) × (Option Addr × Nat)=>.agg (vc (p.base).known++[(.slice x.1.1 ((p.base).ents).length x.1.2:Value),(.slice x.2.1 ((p.base).ticks).length x.2.2:Value)]).toArray) (Lo:=fun x=>[row (.slice x.1.1 ((p.base).ents).length x.1.2) (((p.base).ents).map cec) 106 7,row (.slice x.2.1 ((p.base).ticks).length x.2.2) (((p.base).ticks).map lsc) 102 2]) (F:=fun _ _=>True) QuV rfl rfl (Qnh _ p.base a1 c1 a2 c2 (by omega) (by omega) (Rd.own' hr1 hs) (Rd.own' hr2 hs)) hs fun _ _ hs _=>⟨rfl,hs.put2 2 3 (QQ8 rfl) (QQ8 rfl)⟩
 ·exact oa [] fun D J w hs=>Qae Qd2 rfl (Zz hs)
 ·exact oa [3] fun D J w hs=>QaE (V:=.slice a3 p.ops.length c3) Qfh hs 0 rfl rfl rfl (Zz hs)
 ·exact oa [] fun D J w hs=>Qae QmE rfl (Zz hs)
 ·exact oa [5] fun D J w hs=>QbU (vs:=vc p.known) QbB hs 0 rfl rfl rfl rfl (Zz hs)
 ·exact oa [2,4,6] fun D J w hs=>Qcz (vs:=[(0,.agg ((vc ((p.base).known))++[(.slice (aOf (Qbr (J 5) 16)) (((p.base).ents).length) (cOf (Qbr (J 5) 16)):Value),(.slice (aOf (Qbr (J 5) 17)) (((p.base).ticks).length) (cOf (Qbr (J 5) 17)):Value) ]).toArray),(1,.slice a3 p.ops.length c3),(2,.agg (vc p.known).toArray)]) (cs:=((vc ((p.base).known))++[(.slice (aOf (Qbr (J 5) 16)) (((p.base).ents).length) (cOf (Qbr (J 5) 16)):Value),(.slice (aOf (Qbr (J 5) 17)) (((p.base).ticks).length) (cOf (Qbr (J 5) 17)):Value) ])++[(.slice a3 p.ops.length c3:Value) ]++(vc p.known)) [(vc vzero)++[(.slice none 0 0:Value),(.slice none 0 0:Value) ],[(.slice none 0 0:Value)],vc vzero] [(vc ((p.base).known))++[(.slice (aOf (Qbr (J 5) 16)) (((p.base).ents).length) (cOf (Qbr (J 5) 16)):Value),(.slice (aOf (Qbr (J 5) 17)) (((p.base).ticks).length) (cOf (Qbr (J 5) 17)):Value) ],[(.slice a3 p.ops.length c3:Value)],vc p.known] QtJ rfl (rfl) rfl rfl (Zz hs)
 ·exact oa [7] fun D J w hs=>QcH (V:=.agg (((vc ((p.base).known))++[(.slice (aOf (Qbr (J 5) 16)) (((p.base).ents).length) (cOf (Qbr (J 5) 16)):Value),(.slice (aOf (Qbr (J 5) 17)) (((p.base).ticks).length) (cOf (Qbr (J 5) 17)):Value) ])++[(.slice a3 p.ops.length c3:Value) ]++(vc p.known)).toArray) (vs:=((vc ((p.base).known))++[(.slice (aOf (Qbr (J 5) 16)) (((p.base).ents).length) (cOf (Qbr (J 5) 16)):Value),(.slice (aOf (Qbr (J 5) 17)) (((p.base).ticks).length) (cOf (Qbr (J 5) 17)):Value) ])++[(.slice a3 p.ops.length c3:Value) ]++(vc p.known)) (cs':=((vc ((p.base).known))++[(.slice (aOf (Qbr (J 5) 16)) (((p.base).ents).length) (cOf (Qbr (J 5) 16)):Value),(.slice (aOf (Qbr (J 5) 17)) (((p.base).ticks).length) (cOf (Qbr (J 5) 17)):Value) ])++[(.slice a3 p.ops.length c3:Value) ]++(vc p.known)) QeH.1 hs 1 rfl rfl rfl rfl rfl (QQ8 rfl) (QbQ (QbQ (QbQ (Qcv _) (Qaw rfl (Qaw rfl Qbg))) (Qaw rfl Qbg)) (Qcv _)) (QaC rfl) fun _ hs=>⟨trivial,hs⟩
 rintro J1 w7 J2 hJ hs
 replace hJ:J2=mix (sq 3 8) J1 _:=hJ
 replace hs:Own w no w7 [blk b1 (((vc p.base.known)++[(.slice a1 p.base.ents.length c1:Value),(.slice a2 p.base.ticks.length c2:Value) ])++[(.slice a3 p.ops.length c3:Value) ]++(vc p.known)) 31,blk b3 (((vc ((p.base).known))++[(.slice (aOf (Qbr (J1 5) 16)) (((p.base).ents).length) (cOf (Qbr (J1 5) 16)):Value),(.slice (aOf (Qbr (J1 5) 17)) (((p.base).ticks).length) (cOf (Qbr (J1 5) 17)):Value) ])++[(.slice a3 p.ops.length c3:Value) ]++(vc p.known)) 43,row (.slice (aOf (Qbr (J1 5) 16)) (((p.base).ents).length) (cOf (Qbr (J1 5) 16))) (((p.base).ents).map cec) 106 7,row (.slice (aOf (Qbr (J1 5) 17)) (((p.base).ticks).length) (cOf (Qbr (J1 5) 17))) (((p.base).ticks).map lsc) 102 2]:=hs
 generalize (aOf (Qbr (J1 5) 16))=na8 at hs
 generalize (cOf (Qbr (J1 5) 16))=nc9 at hs
 generalize (aOf (Qbr (J1 5) 17))=na10 at hs
 generalize (cOf (Qbr (J1 5) 17))=nc11 at hs
 subst hJ
 refine Qav ?_
 refine ⟨_,QcA (cs:=((vc ((p.base).known))++[(.slice na8 (((p.base).ents).length) nc9:Value),(.slice na10 (((p.base).ticks).length) nc11:Value) ])++[(.slice a3 p.ops.length c3:Value) ]++(vc p.known)) Tryz.results13 QeH hs 1 rfl rfl rfl,?_⟩
 exact ⟨((na8,nc9),(na10,nc11)),rfl,hs.two 2 3 (by decide) rfl rfl,trivial⟩
theorem Qqx (w:World) (p:Pst) (a1:Option Addr) (c1:Nat) (a2:Option Addr) (c2:Nat) (a3:Option Addr) (c3:Nat) (hr1:Rd w (.slice a1 p.base.ents.length c1) 7 (p.base.ents.map cec)) (hr2:Rd w (.slice a2 p.base.ticks.length c2) 2 (p.base.ticks.map lsc)) (hr3:Rd w (.slice a3 p.ops.length c3) 23 (p.ops.map oc)):Calls Tryz.prog 11 #[.agg (((vc p.base.known)++[(.slice a1 p.base.ents.length c1:Value),(.slice a2 p.base.ticks.length c2:Value) ])++[(.slice a3 p.ops.length c3:Value) ]++(vc p.known)).toArray] w (fun e w'=>e = .returned (.bool (Qhq p.base&&decide (((p.ops.length:Nat):Int)<=30)))/\Own w no w' []):=by
 refine Qaj (n:=12) Tryz.func11 rfl Tryz.ntmps11 rfl ?_
 have hs:=Own.start w
 have hn3:=hr3.sml
 refine Qah (Qab (Qaa (QaR (V:=.agg (((vc p.base.known)++[(.slice a1 p.base.ents.length c1:Value),(.slice a2 p.base.ticks.length c2:Value) ])++[(.slice a3 p.ops.length c3:Value) ]++(vc p.known)).toArray) (cs:=((vc p.base.known)++[(.slice a1 p.base.ents.length c1:Value),(.slice a2 p.base.ticks.length c2:Value) ])++[(.slice a3 p.ops.length c3:Value) ]++(vc p.known)) rfl rfl hs fun b1 w2 hs=>(Qaa (Qad (V:=.bool false) rfl (Qaf (Qah (Qbh [some 3,some 4,some 5,some 6,some 7,some 8,some 9,some 10,some 11,some 2] [] [0,1,3,7,15,31,63,127,255,511] [pv (Pq b1 (0+0)),pv (.agg ((vc p.base.known)++[(.slice a1 p.base.ents.length c1:Value),(.slice a2 p.base.ticks.length c2:Value) ]).toArray),pv (.bool (Qhq p.base)),pv (.bool (Qhq p.base)),pg ((Qhq p.base) == true) (Pq b1 (0+18)),pg ((Qhq p.base) == true) (.slice a3 p.ops.length c3),pg ((Qhq p.base) == true) (I6 ((p.ops.length:Nat):Int)),pg ((Qhq p.base) == true) (.bool (decide (((p.ops.length:Nat):Int)<=30))),pv (.bool ((Qhq p.base)&&(decide (((p.ops.length:Nat):Int)<=30)))),pv (.bool ((Qhq p.base)&&(decide (((p.ops.length:Nat):Int)<=30))))] (fun _ _=>_) [9] (by kernel_rfl) hs ⟨?_,?_,?_,?_,?_,?_,?_,?_,?_,?_,trivial⟩ ?_))))))))
 ·exact oa [] fun D J w hs=>Qae QdZ rfl (Zz hs)
 ·exact oa [0] fun D J w hs=>QbU (vs:=(vc p.base.known)++[(.slice a1 p.base.ents.length c1:Value),(.slice a2 p.base.ticks.length c2:Value) ]) Qez hs 0 rfl rfl rfl rfl (Zz hs)
 ·exact oa [1] fun D J w hs=>Qat (vs:=[.agg ((vc p.base.known)++[(.slice a1 p.base.ents.length c1:Value),(.slice a2 p.base.ticks.length c2:Value) ]).toArray]) (V:=.bool (Qhq p.base)) QvM rfl rfl (QsS _ p.base a1 c1 a2 c2 (Rd.own' hr1 hs) (Rd.own' hr2 hs)) hs fun _ hs=>Zz hs
 ·exact oa [2] fun D J w hs=>Qac (V:=.bool (Qhq p.base)) rfl (Zz hs)
 ·exact og [3] fun D J w hG hs=>Qae Qd2 rfl (Zz hs)
 ·exact oy [3,4] [4] fun D J w hG hs=>QaE (V:=.slice a3 p.ops.length c3) Qfh hs 0 rfl rfl rfl (Zz hs)
 ·exact oy [3,5] [5] fun D J w hG hs=>Qa4 (n:=p.ops.length) QdK (Rd.own' hr3 hs) (by simp) rfl (Zz hs)
 ·exact oy [3,6] [6] fun D J w hG hs=>Qc6 rfl rfl (Zz hs)
 ·exact oa [3,7] fun D J w hs=>Qa2 (h':=decide (((p.ops.length:Nat):Int)<=30)) rfl rfl rfl (Zz hs)
 ·exact oa [8] fun D J w hs=>Qad (V:=.bool ((Qhq p.base)&&(decide (((p.ops.length:Nat):Int)<=30)))) rfl (Zz hs)
 rintro J1 w4 J2 hJ hs
 replace hJ:J2=upd (mix (sq 3 9++[2]) J1 _) 2 (.bool ((Qhq p.base)&&(decide (((p.ops.length:Nat):Int)<=30)))):=hJ
 subst hJ
 refine Qav ?_
 refine ⟨_,Qar (V:=.bool ((Qhq p.base)&&(decide (((p.ops.length:Nat):Int)<=30)))) Tryz.results11 rfl,(Zr hs ?_)⟩
 rfl
end Tt
end Go.Proofs
namespace Go.Proofs
open Go Go.Vx Go.RowKit
namespace Tt
theorem Qgv (w:World) (s:Sta) (a1:Option Addr) (c1:Nat) (a2:Option Addr) (c2:Nat) (hok:QdG s) (hle:s.ents.length<=1000) (hlt:s.ticks.length<=1000) (hr1:Rd w (.slice a1 s.ents.length c1) 7 (s.ents.map cec)) (hr2:Rd w (.slice a2 s.ticks.length c2) 2 (s.ticks.map lsc)):Calls Tryz.prog 73 #[.agg ((vc s.known)++[(.slice a1 s.ents.length c1:Value),(.slice a2 s.ticks.length c2:Value) ]).toArray] w (fun e w'=>e = .returned (.bool (Qam s))/\Own w no w' []):=by
 refine Qaj (n:=107) Tryz.func73 rfl Tryz.ntmps73 rfl ?_
 have hs:=Own.start w
 have ⟨hv0,hE0,hT0⟩:=hok
 have hn1:=hr1.sml
 have hn2:=hr2.sml
 refine Qah (Qab (Qaa (QaR (V:=.agg ((vc s.known)++[(.slice a1 s.ents.length c1:Value),(.slice a2 s.ticks.length c2:Value) ]).toArray) (cs:=(vc s.known)++[(.slice a1 s.ents.length c1:Value),(.slice a2 s.ticks.length c2:Value) ]) rfl rfl hs fun b1 w2 hs=>(Qaa (Qad (V:=.bool false) rfl (Qaf (Qah (Qah (Qab (Qaa (Qae QhG rfl (Qaa (QbU (vs:=vc s.known) QbB hs 0 rfl rfl rfl rfl (Qaa (Qat (vs:=[.agg (vc s.known).toArray,I6 16]) (V:=.bool (QaL s.known 16)) QqK rfl rfl ?hc hs fun w3 hs=>?_)))))))))))))))
 case hc=>exact (Qf8 _ s.known 16 (by first|assumption|exact Qb1))
 refine Qaa (Qbw rfl (Qaf (Qao (t:=!(QaL s.known 16)) rfl (fun c4=>?_) (fun c4=>?_))))
 ·
  replace c4:=Qbp c4
  refine Qah (Qab (Qaa (Qad (V:=.bool false) rfl (Qaf (Qav ?_)))))
  refine ⟨_,Qar (V:=.bool false) Tryz.results73 rfl,(Zr hs ?_)⟩
  exact congrArg Value.bool (Qk5 c4).symm
 replace c4:=Qbf c4
 refine Qaq (Qah (Qah (Qab (Qaa (Qae Qdf rfl (Qaa (QaE (V:=.slice a2 s.ticks.length c2) QgK hs 0 rfl rfl rfl (Qaa (Qa4 (n:=s.ticks.length) Qgx (Rd.own' hr2 hs) (by simp) rfl (Qaa (Qac (V:=I6 0) rfl (Qaf (Qan (QaA (fun J μ J' w'=>∃ (Jo:Env) (k:Nat),J'=upd (mix ([2,3,4]++sq 19 25) Jo J) 19 (I6 (k:Int))/\(k<=s.ticks.length)/\(∀ j:Nat,j<k->QiX s.ticks j=false)/\μ=s.ticks.length-k/\Own w no w' [blk b1 ((vc s.known)++[(.slice a1 s.ents.length c1:Value),(.slice a2 s.ticks.length c2:Value) ]) 38]) ?_ ?_))))))))))))))
 ·exact ⟨_,_,0,Qai (Qap (ds:=([2,3,4]++sq 19 25)) (Agr.refl _ _)) rfl,(by omega),(fun j hj=>absurd hj (Nat.not_lt_zero j)),rfl,hs⟩
 rintro μ J' w5 ⟨Jo,k,rfl,hk,hbt,rfl,hs⟩
 refine Qah (Qab (Qaa (QaQ rfl rfl (Qaf (Qah (Qao (t:=decide ((k:Int)<((s.ticks.length:Nat):Int))) rfl (fun c6=>?_) (fun c6=>?_)))))))
 ·
  replace c6:=QQ1 c6
  refine Qaq (Qah (Qan (Qah (Qab (Qaa (Qac (V:=I6 (k:Int)) rfl (Qaa (Qax Qgx QcZ.1 (Rd.own' hr2 hs) rfl rfl (by omega) (by rw [QQ6];omega) (Qaa (Qa5 (j:=0) (vs:=lsc (gd s.ticks k)) k QcZ (Rd.own' hr2 hs) (QaW (by omega)) rfl rfl rfl (by omega) (Qaa (QaM (cs:=lsc (⟨0,0⟩:Lst)) Qmm rfl hs fun b7 w8 hs=>(Qaa (Qad (V:=I6 (k:Int)) rfl (Qaa (QcH (V:=.agg (lsc (gd s.ticks k)).toArray) (vs:=lsc (gd s.ticks k)) (cs':=lsc (gd s.ticks k)) QcZ.1 hs 1 rfl rfl rfl rfl rfl (QQ8 rfl) (QbS _) (QaC rfl) fun w9 hs=>(Qaf (Qah (QaH HM [some 24,some 25,some 26,some 27,some 28,some 29,some 30,some 31,some 32,some 33,some 34,some 35,some 36,some 37,some 38,some 39,some 40,some 41,some 42] [] [0,1,3,7,15,31,63,127,255,127,639,2047,4095,8191,127,16511,65535,131071,262143] [pv (Pq b7 (0+1)),pv (.int .u32 ((gd s.ticks k).tick)),pv (.bool (decide (1073741824<(gd s.ticks k).tick))),pv (.bool (decide (1073741824<(gd s.ticks k).tick))),pg ((decide (1073741824<(gd s.ticks k).tick)) == false) (I6 (k:Int)),pg ((decide (1073741824<(gd s.ticks k).tick)) == false) (.bool (decide (0<(k:Int)))),pg ((decide (1073741824<(gd s.ticks k).tick)) == false) (.bool (decide (0<(k:Int)))),pg (((decide (1073741824<(gd s.ticks k).tick)) == false)&&((decide (0<(k:Int))) == true)) (Pq b1 (0+17)),pg (((decide (1073741824<(gd s.ticks k).tick)) == false)&&((decide (0<(k:Int))) == true)) (.slice a2 s.ticks.length c2),pg (((decide (1073741824<(gd s.ticks k).tick)) == false)&&((decide (0<(k:Int))) == true)) (I6 (k:Int)),pg (((decide (1073741824<(gd s.ticks k).tick)) == false)&&((decide (0<(k:Int))) == true)) (I6 ((k-1:Nat):Int)),pg (((decide (1073741824<(gd s.ticks k).tick)) == false)&&((decide (0<(k:Int))) == true)) (.pointer (some ⟨bkS (.slice a2 s.ticks.length c2),ofS (.slice a2 s.ticks.length c2)+((k-1:Nat):Int).toNat*2,none⟩)),pg (((decide (1073741824<(gd s.ticks k).tick)) == false)&&((decide (0<(k:Int))) == true)) (.pointer (some ⟨bkS (.slice a2 s.ticks.length c2),ofS (.slice a2 s.ticks.length c2)+((k-1:Nat):Int).toNat*2+0,none⟩)),pg (((decide (1073741824<(gd s.ticks k).tick)) == false)&&((decide (0<(k:Int))) == true)) (I7 ((gd s.ticks (k-1)).cart)),pg (((decide (1073741824<(gd s.ticks k).tick)) == false)&&((decide (0<(k:Int))) == true)) (Pq b7 (0+0)),pg (((decide (1073741824<(gd s.ticks k).tick)) == false)&&((decide (0<(k:Int))) == true)) (I7 ((gd s.ticks k).cart)),pg (((decide (1073741824<(gd s.ticks k).tick)) == false)&&((decide (0<(k:Int))) == true)) (.bool (decide ((gd s.ticks k).cart<=(gd s.ticks (k-1)).cart))),pg ((decide (1073741824<(gd s.ticks k).tick)) == false) (.bool ((decide (0<(k:Int)))&&(decide ((gd s.ticks k).cart<=(gd s.ticks (k-1)).cart)))),pv (.bool ((decide (1073741824<(gd s.ticks k).tick))||((decide (0<(k:Int)))&&(decide ((gd s.ticks k).cart<=(gd s.ticks (k-1)).cart)))))] (fun _ _=>_) [18] (by kernel_rfl) hs ⟨?_,?_,?_,?_,?_,?_,?_,?_,?_,?_,?_,?_,?_,?_,?_,?_,?_,?_,?_,trivial⟩ ?_)))))))))))))))))))
  ·exact oa [] fun D J w hs=>Qae QhB rfl (Zz hs)
  ·exact oa [0] fun D J w hs=>QaE (V:=.int .u32 ((gd s.ticks k).tick)) QaY hs 1 rfl rfl rfl (Zz hs)
  ·exact oa [1] fun D J w hs=>QbP rfl rfl (Zz hs)
  ·exact oa [2] fun D J w hs=>Qac (V:=.bool (decide (1073741824<(gd s.ticks k).tick))) rfl (Zz hs)
  ·exact og [3] fun D J w hG hs=>Qac (V:=.int .i64 (k:Int)) rfl (Zz hs)
  ·exact oy [3,4] [4] fun D J w hG hs=>QbP rfl rfl (Zz hs)
  ·exact oy [3,5] [5] fun D J w hG hs=>Qac (V:=.bool (decide (0<(k:Int)))) rfl (Zz hs)
  ·exact og [6] fun D J w hG hs=>Qae Qdf rfl (Zz hs)
  ·exact oy [6,7] [7] fun D J w hG hs=>QaE (V:=.slice a2 s.ticks.length c2) QgK hs 0 rfl rfl rfl (Zz hs)
  ·exact og [6] fun D J w hG hs=>Qac (V:=.int .i64 (k:Int)) rfl (Zz hs)
  ·refine oy [6,9] [9] fun D J w hG hs=>?_
   have hgd0:=QQ2 (eq_of_beq (QbA (hG)))
   have hgd1:=QQ1 (eq_of_beq (QbC (hG)))
   exact Qa6 (a:=(k:Int)) (b:=1) (c:=((k-1:Nat):Int)) rfl rfl (Qak (by omega) (by omega)) (Zz hs)
  ·refine oy [6,8,10] [8,10] fun D J w hG hs=>?_
   have hgd0:=QQ2 (eq_of_beq (QbA (hG)))
   have hgd1:=QQ1 (eq_of_beq (QbC (hG)))
   exact Qax Qgx QcZ.1 (Rd.own' hr2 hs) rfl rfl (by omega) (by rw [QQ6];omega) (Zz hs)
  ·exact oy [6,11] [11] fun D J w hG hs=>Qae QeY rfl (Zz hs)
  ·refine oy [6,12] [12] fun D J w hG hs=>?_
   have hgd0:=QQ2 (eq_of_beq (QbA (hG)))
   have hgd1:=QQ1 (eq_of_beq (QbC (hG)))
   exact QaP (j:=0) (V:=.int .u16 ((gd s.ticks (k-1)).cart)) (k-1) Qas (Rd.own' hr2 hs) (QaW (by omega)) rfl rfl (by omega) (Zz hs)
  ·exact og [6] fun D J w hG hs=>Qae QeY rfl (Zz hs)
  ·exact oy [6,14] [14] fun D J w hG hs=>QaE (V:=.int .u16 ((gd s.ticks k).cart)) Qas hs 1 rfl rfl rfl (Zz hs)
  ·exact oy [6,13,15] [13,15] fun D J w hG hs=>Qct rfl rfl (Zz hs)
  ·exact oy [3,6,16] [6] fun D J w hG hs=>Qgk (h':=decide ((gd s.ticks k).cart<=(gd s.ticks (k-1)).cart)) (G:=((decide (1073741824<(gd s.ticks k).tick)) == false)) hG rfl rfl rfl (Zz hs)
  ·exact oa [3,17] fun D J w hs=>QbZ (h':=(decide (0<(k:Int)))&&(decide ((gd s.ticks k).cart<=(gd s.ticks (k-1)).cart))) rfl rfl rfl (Zz hs)
  rintro J1 w10 J2 hJ hs
  replace hJ:J2=upd (mix (sq 24 19) J1 _) 42 (.bool ((decide (1073741824<(gd s.ticks k).tick))||((decide (0<(k:Int)))&&(decide ((gd s.ticks k).cart<=(gd s.ticks (k-1)).cart))))):=hJ
  subst hJ
  refine Qao (t:=(decide (1073741824<(gd s.ticks k).tick))||((decide (0<(k:Int)))&&(decide ((gd s.ticks k).cart<=(gd s.ticks (k-1)).cart)))) rfl (fun c11=>?_) (fun c11=>?_)
  ·
   refine Qah (Qab (Qaa (Qad (V:=.bool false) rfl (Qaf (Qav ?_)))))
   refine ⟨_,Qar (V:=.bool false) Tryz.results73 rfl,(Zr hs ?_)⟩
   exact congrArg Value.bool (Qg7 (i:=k) (by omega) (by unfold QiX;have hq:=c11;simpa using hq)).symm
  have c11r:=Qfe c11
  replace c11:=Qfk c11
  replace c11:=QQ2 c11
  refine Qaq (Qab (Qaa (QaD (a:=(k:Int)) (b:=1) (c:=((k+1:Nat):Int)) rfl rfl (Qak (by omega) (by omega)) (Qaa (Qac (V:=I6 ((k+1:Nat):Int)) rfl (Qaf ?_))))))
  refine ⟨_,?_,_,k+1,Qai (Qap (ds:=([2,3,4]++sq 19 25)) (by repeat (first|exact Agr.refl _ _|refine Agr.upd ?_ rfl|refine Agr.mix ?_ rfl))) rfl,(by omega),(Qcb hbt (by unfold QiX;rw [QQ4 c11,Bool.false_or];have hq:=c11r;simpa using hq)),rfl,hs.take 1⟩
  omega
 replace c6:=QQ2 c6
 refine QaG (Qah (Qab (Qaa (Qgs rfl hs dv uv fun mr12 w13 hs=>(Qaa (Qad (V:=.map (some mr12)) rfl (Qaf (Qah (Qah (Qab (Qaa (Qae Qex rfl (Qaa (QaE (V:=.slice a1 s.ents.length c1) Qjf hs 0 rfl rfl rfl (Qaa (Qa4 (n:=s.ents.length) QbG (Rd.own' hr1 hs) (by simp) rfl (Qaa (Qac (V:=I6 0) rfl (Qaf (Qan ?_))))))))))))))))))))
 have hbt2:=fun j (hj:j<s.ticks.length)=>hbt j (by omega)
 have hT:Qdy s.ticks:=by have:=Qqb (Nat.le_refl _) hbt2;rwa [List.take_length] at this
 refine QaA (fun J μ J' w'=>∃ (Jo:Env) (k2:Nat) (sm:List (Dot × Unit)),J'=upd (mix ([2]++sq 6 6++sq 48 59) Jo J) 48 (I6 (k2:Int))/\(k2<=s.ents.length)/\(∀ j:Nat,j<k2->QgE s j=false)/\(sm=Qiz (s.ents.take k2))/\μ=s.ents.length-k2/\Own w no w' [blk b1 ((vc s.known)++[(.slice a1 s.ents.length c1:Value),(.slice a2 s.ticks.length c2:Value) ]) 38,QgP mr12 dv uv sm]) ?_ ?_
 ·exact ⟨_,_,0,[],Qai (Qap (ds:=([2]++sq 6 6++sq 48 59)) (Agr.refl _ _)) rfl,(by omega),(fun j hj=>absurd hj (Nat.not_lt_zero j)),rfl,rfl,hs⟩
 rintro μ J' w14 ⟨Jo,k2,sm,rfl,hk2,hbe,hsm,rfl,hs⟩
 refine Qah (Qab (Qaa (QaQ rfl rfl (Qaf (Qah (Qao (t:=decide ((k2:Int)<((s.ents.length:Nat):Int))) rfl (fun c15=>?_) (fun c15=>?_)))))))
 ·
  replace c15:=QQ1 c15
  refine Qaq (Qah (Qan (Qah (Qab (Qaa (Qac (V:=I6 (k2:Int)) rfl (Qaa (Qax QbG QaF.1 (Rd.own' hr1 hs) rfl rfl (by omega) (by rw [QQ6];omega) (Qaa (Qa5 (j:=0) (vs:=cec (gd s.ents k2)) k2 QaF (Rd.own' hr1 hs) (QaW (by omega)) rfl rfl rfl (by omega) (Qaa (QaM (cs:=cec (⟨0,0,0,0,(⟨0,0⟩:Dot),0⟩:Cen)) QgT rfl hs fun b16 w17 hs=>(Qaa (Qad (V:=I6 (k2:Int)) rfl (Qaa (QcH (V:=.agg (cec (gd s.ents k2)).toArray) (vs:=cec (gd s.ents k2)) (cs':=cec (gd s.ents k2)) QaF.1 hs 2 rfl rfl rfl rfl rfl (QQ8 rfl) (Qa7 _) (QaC rfl) fun w18 hs=>?_))))))))))))))))
  replace hs:Own w no w18 [blk b1 ((vc s.known)++[(.slice a1 s.ents.length c1:Value),(.slice a2 s.ticks.length c2:Value) ]) 38,QgP mr12 dv uv sm,blk b16 (cec (gd s.ents k2)) 106]:=hs
  refine Qaf (Qah ?_)
  have hce:=hE0 _ (QbK (l:=s.ents) (i:=k2) (by omega))
  have ⟨_,_,_,_,hdk,_⟩:=hce
  refine Qab (Qaa (QaJ (cs:=(vc s.known)++[(.slice a1 s.ents.length c1:Value),(.slice a2 s.ticks.length c2:Value) ]) QcD hs 0 rfl rfl rfl (Qaa (Qae QdJ rfl (Qaa (QaE (V:=I7 ((gd s.ents k2).cart)) Qas hs 2 rfl rfl rfl (Qaa (Qat (vs:=[.agg ((vc s.known)++[(.slice a1 s.ents.length c1:Value),(.slice a2 s.ticks.length c2:Value) ]).toArray,I7 ((gd s.ents k2).cart)]) (V:=.tuple #[I6 ((Qew s.ticks ((gd s.ents k2).cart):Nat):Int),.bool ((QaB s.ticks ((gd s.ents k2).cart)).isSome)]) QtE rfl rfl ?hc hs fun w19 hs=>?_))))))))
  case hc=>exact (QjL _ s.known (.slice a1 s.ents.length c1) a2 c2 s.ticks ((gd s.ents k2).cart) (by omega) hT (Rd.own' hr2 hs))
  refine Qaa (Qac (V:=.tuple #[I6 ((Qew s.ticks ((gd s.ents k2).cart):Nat):Int),.bool ((QaB s.ticks ((gd s.ents k2).cart)).isSome)]) rfl (Qaa (Qay (V:=I6 ((Qew s.ticks ((gd s.ents k2).cart):Nat):Int)) rfl rfl (Qaa (Qay (V:=.bool ((QaB s.ticks ((gd s.ents k2).cart)).isSome)) rfl rfl (Qaa (Qad (V:=I6 ((Qew s.ticks ((gd s.ents k2).cart):Nat):Int)) rfl (Qaa (Qad (V:=.bool ((QaB s.ticks ((gd s.ents k2).cart)).isSome)) rfl (Qaf (Qah (Qab (Qaa (Qac (V:=.map (some mr12)) rfl (Qaa (Qae QbJ rfl (Qaa (QbU (vs:=dc ((gd s.ents k2).dot)) QcL hs 2 rfl rfl rfl rfl (Qaa (QfZ (k:=(gd s.ents k2).dot) QjR QoP QjX (hs.mapf 1 rfl) rfl rfl (Qaa (Qac (V:=.tuple #[.agg #[],.bool ((mget ((gd s.ents k2).dot) sm).isSome)]) rfl (Qaa (Qay (V:=.agg #[]) rfl rfl (Qaa (Qay (V:=.bool ((mget ((gd s.ents k2).dot) sm).isSome)) rfl rfl (Qaa (QaM (cs:=[]) QjX rfl hs fun b20 w21 hs=>(Qaa (QcH (V:=.agg #[]) (vs:=[]) (cs':=[]) QpK.1 hs 3 rfl rfl rfl rfl rfl (QQ8 rfl) Qbg (QaC rfl) fun w22 hs=>(Qaa (Qad (V:=.bool ((mget ((gd s.ents k2).dot) sm).isSome)) rfl (Qaf (Qah (Qan (Qah (Qah (Qab (Qaa (Qac (V:=.bool ((QaB s.ticks ((gd s.ents k2).cart)).isSome)) rfl (Qaa (Qbw rfl (Qaa (Qad (V:=.bool (!((QaB s.ticks ((gd s.ents k2).cart)).isSome))) rfl (Qaf (Qao (t:=!((QaB s.ticks ((gd s.ents k2).cart)).isSome)) rfl (fun c23=>?_) (fun c23=>?_)))))))))))))))))))))))))))))))))))))))))))))))
  ·
   replace c23:=Qbp c23
   refine Qaq (Qdh (congrArg Value.bool (by rw [c23];rfl)) ?_)
   refine Qah (Qab (Qaa (Qad (V:=.bool false) rfl (Qaf (Qav ?_)))))
   refine ⟨_,Qar (V:=.bool false) Tryz.results73 rfl,(Zr hs (congrArg Value.bool (Qcl (i:=k2) (by omega) ?_).symm))⟩
   unfold QgE Qdl;rw [c23];simp
  replace c23:=Qbf c23
  refine Qah (Qab (Qaa (Qac (V:=.bool ((mget ((gd s.ents k2).dot) sm).isSome)) rfl (Qaa (Qad (V:=.bool ((mget ((gd s.ents k2).dot) sm).isSome)) rfl (Qaf (Qao (t:=(mget ((gd s.ents k2).dot) sm).isSome) rfl (fun c24=>?_) (fun c24=>?_))))))))
  ·
   refine Qaq (Qdh (congrArg Value.bool c24) ?_)
   refine Qah (Qab (Qaa (Qad (V:=.bool false) rfl (Qaf (Qav ?_)))))
   refine ⟨_,Qar (V:=.bool false) Tryz.results73 rfl,(Zr hs (congrArg Value.bool (Qcl (i:=k2) (by omega) ?_).symm))⟩
   unfold QgE;rw [← QiL,← hsm,c24];simp
  refine Qah (Qab (Qaa (QaJ (cs:=cec (gd s.ents k2)) QaF hs 2 rfl rfl rfl (Qaa (Qat (vs:=[.agg (cec (gd s.ents k2)).toArray]) (V:=.bool (QaT (gd s.ents k2))) QsW rfl rfl ?hc hs fun w25 hs=>?_)))))
  case hc=>exact (Qle _ (gd s.ents k2) (by assumption))
  refine Qaa (Qbw rfl (Qaa (Qad (V:=.bool (!(QaT (gd s.ents k2)))) rfl (Qaf (Qao (t:=!(QaT (gd s.ents k2))) rfl (fun c26=>?_) (fun c26=>?_))))))
  ·
   replace c26:=Qbp c26
   refine Qaq (Qdh (congrArg Value.bool (by rw [c26];rfl)) ?_)
   refine Qah (Qab (Qaa (Qad (V:=.bool false) rfl (Qaf (Qav ?_)))))
   refine ⟨_,Qar (V:=.bool false) Tryz.results73 rfl,(Zr hs (congrArg Value.bool (Qcl (i:=k2) (by omega) ?_).symm))⟩
   unfold QgE Qdl;rw [c26];simp
  replace c26:=Qbf c26
  refine Qah (Qab (Qaa (Qae QhG rfl (Qaa (QbU (vs:=vc s.known) QbB hs 0 rfl rfl rfl rfl (Qaa (Qae QbJ rfl (Qaa (QbU (vs:=dc ((gd s.ents k2).dot)) QcL hs 2 rfl rfl rfl rfl (Qaa (Qat (vs:=[.agg (vc s.known).toArray,.agg (dc ((gd s.ents k2).dot)).toArray]) (V:=.bool (Qby s.known ((gd s.ents k2).dot))) Qoh rfl rfl ?hc hs fun w27 hs=>?_)))))))))))
  case hc=>exact (QhL _ s.known ((gd s.ents k2).dot) (by first|assumption|exact Qde (by omega) (by omega) (by omega) (by omega)))
  refine Qaa (Qbw rfl (Qaa (Qad (V:=.bool (!(Qby s.known ((gd s.ents k2).dot)))) rfl (Qaf (Qao (t:=!(Qby s.known ((gd s.ents k2).dot))) rfl (fun c28=>?_) (fun c28=>?_))))))
  ·
   replace c28:=Qbp c28
   refine Qaq (Qdh (congrArg Value.bool (by rw [c28];rfl)) ?_)
   refine Qah (Qab (Qaa (Qad (V:=.bool false) rfl (Qaf (Qav ?_)))))
   refine ⟨_,Qar (V:=.bool false) Tryz.results73 rfl,(Zr hs (congrArg Value.bool (Qcl (i:=k2) (by omega) ?_).symm))⟩
   unfold QgE Qdl;rw [c28];simp
  replace c28:=Qbf c28
  refine Qbh [some 80,some 81,some 82,some 83,some 84,some 85,some 86,some 87,some 67] [] [0,1,3,7,15,31,63,127,255] [pv (Pq b16 (0+6)),pv (.int .u64 ((gd s.ents k2).count)),pv (.bool (decide ((gd s.ents k2).count<1))),pv (.bool (decide ((gd s.ents k2).count<1))),pg ((decide ((gd s.ents k2).count<1)) == false) (Pq b16 (0+6)),pg ((decide ((gd s.ents k2).count<1)) == false) (.int .u64 ((gd s.ents k2).count)),pg ((decide ((gd s.ents k2).count<1)) == false) (.bool (decide (16777217<(gd s.ents k2).count))),pv (.bool ((decide ((gd s.ents k2).count<1))||(decide (16777217<(gd s.ents k2).count)))),pv (.bool ((decide ((gd s.ents k2).count<1))||(decide (16777217<(gd s.ents k2).count))))] (fun _ _=>_) [8] (by kernel_rfl) hs ⟨?_,?_,?_,?_,?_,?_,?_,?_,?_,trivial⟩ ?_
  ·exact oa [] fun D J w hs=>Qae QfS rfl (Zz hs)
  ·exact oa [0] fun D J w hs=>QaE (V:=.int .u64 ((gd s.ents k2).count)) Qes hs 2 rfl rfl rfl (Zz hs)
  ·exact oa [1] fun D J w hs=>QaQ rfl rfl (Zz hs)
  ·exact oa [2] fun D J w hs=>Qac (V:=.bool (decide ((gd s.ents k2).count<1))) rfl (Zz hs)
  ·exact og [3] fun D J w hG hs=>Qae QfS rfl (Zz hs)
  ·exact oy [3,4] [4] fun D J w hG hs=>QaE (V:=.int .u64 ((gd s.ents k2).count)) Qes hs 2 rfl rfl rfl (Zz hs)
  ·exact oy [3,5] [5] fun D J w hG hs=>QbP rfl rfl (Zz hs)
  ·exact oa [3,6] fun D J w hs=>QbZ (h':=decide (16777217<(gd s.ents k2).count)) rfl rfl rfl (Zz hs)
  ·exact oa [7] fun D J w hs=>Qad (V:=.bool ((decide ((gd s.ents k2).count<1))||(decide (16777217<(gd s.ents k2).count)))) rfl (Zz hs)
  rintro J1 w29 J2 hJ hs
  replace hJ:J2=upd (mix (sq 80 8++[67]) J1 _) 67 (.bool ((decide ((gd s.ents k2).count<1))||(decide (16777217<(gd s.ents k2).count)))):=hJ
  subst hJ
  refine Qao (t:=(decide ((gd s.ents k2).count<1))||(decide (16777217<(gd s.ents k2).count))) rfl (fun c30=>?_) (fun c30=>?_)
  ·
   refine Qah (Qab (Qaa (Qad (V:=.bool false) rfl (Qaf (Qav ?_)))))
   refine ⟨_,Qar (V:=.bool false) Tryz.results73 rfl,(Zr hs (congrArg Value.bool (Qcl (i:=k2) (by omega) ?_).symm))⟩
   have hq:=c30
   unfold QgE Qdl
   rcases Int.lt_or_le (gd s.ents k2).count 1 with q|q
   ·rw [QQ4 (p:=1<=_) (by omega)];simp
   rw [QQ4 (p:=_<=16777217) (by simp at hq;omega)];simp
  have c30r:=Qfe c30
  replace c30:=Qfk c30
  replace c30:=QQ2 c30
  replace c30r:=QQ2 c30r
  refine Qah (QaH HM [some 89,some 90,some 91,some 92,some 93,some 94,some 95,some 96,some 97,some 98,some 99,some 100,some 101,some 88] [] [0,1,3,7,15,7,39,127,255,7,1023,2047,4095,8191] [pv (I6 (k2:Int)),pv (.bool (decide (0<(k2:Int)))),pv (.bool (decide (0<(k2:Int)))),pg ((decide (0<(k2:Int))) == true) (Pq b1 (0+16)),pg ((decide (0<(k2:Int))) == true) (.slice a1 s.ents.length c1),pg ((decide (0<(k2:Int))) == true) (I6 (k2:Int)),pg ((decide (0<(k2:Int))) == true) (I6 ((k2-1:Nat):Int)),pg ((decide (0<(k2:Int))) == true) (.pointer (some ⟨bkS (.slice a1 s.ents.length c1),ofS (.slice a1 s.ents.length c1)+((k2-1:Nat):Int).toNat*7,none⟩)),pg ((decide (0<(k2:Int))) == true) (.agg (cec (gd s.ents (k2-1))).toArray),pg ((decide (0<(k2:Int))) == true) (.agg (cec (gd s.ents k2)).toArray),pg ((decide (0<(k2:Int))) == true) (I6 (Qcu (gd s.ents (k2-1)) (gd s.ents k2))),pg ((decide (0<(k2:Int))) == true) (.bool (decide (0<=Qcu (gd s.ents (k2-1)) (gd s.ents k2)))),pv (.bool ((decide (0<(k2:Int)))&&(decide (0<=Qcu (gd s.ents (k2-1)) (gd s.ents k2))))),pv (.bool ((decide (0<(k2:Int)))&&(decide (0<=Qcu (gd s.ents (k2-1)) (gd s.ents k2)))))] (fun _ _=>_) [13] (by kernel_rfl) hs ⟨?_,?_,?_,?_,?_,?_,?_,?_,?_,?_,?_,?_,?_,?_,trivial⟩ ?_)
  ·exact oa [] fun D J w hs=>Qac (V:=.int .i64 (k2:Int)) rfl (Zz hs)
  ·exact oa [0] fun D J w hs=>QbP rfl rfl (Zz hs)
  ·exact oa [1] fun D J w hs=>Qac (V:=.bool (decide (0<(k2:Int)))) rfl (Zz hs)
  ·exact og [2] fun D J w hG hs=>Qae Qex rfl (Zz hs)
  ·exact oy [2,3] [3] fun D J w hG hs=>QaE (V:=.slice a1 s.ents.length c1) Qjf hs 0 rfl rfl rfl (Zz hs)
  ·exact og [2] fun D J w hG hs=>Qac (V:=.int .i64 (k2:Int)) rfl (Zz hs)
  ·refine oy [2,5] [5] fun D J w hG hs=>?_
   have hgd:=QQ1 (eq_of_beq (hG))
   exact Qa6 (a:=(k2:Int)) (b:=1) (c:=((k2-1:Nat):Int)) rfl rfl (Qak (by omega) (by omega)) (Zz hs)
  ·refine oy [2,4,6] [4,6] fun D J w hG hs=>?_
   have hgd:=QQ1 (eq_of_beq (hG))
   exact Qax QbG QaF.1 (Rd.own' hr1 hs) rfl rfl (by omega) (by rw [QQ6];omega) (Zz hs)
  ·refine oy [2,7] [7] fun D J w hG hs=>?_
   have hgd:=QQ1 (eq_of_beq (hG))
   exact Qa5 (j:=0) (vs:=cec (gd s.ents (k2-1))) (k2-1) QaF (Rd.own' hr1 hs) (QaW (by omega)) rfl rfl rfl (by omega) (Zz hs)
  ·exact og [2] fun D J w hG hs=>QaJ (cs:=cec (gd s.ents k2)) QaF hs 2 rfl rfl rfl (Zz hs)
  ·exact oy [2,8,9] [8,9] fun D J w hG hs=>Qat (vs:=[.agg (cec (gd s.ents (k2-1))).toArray,.agg (cec (gd s.ents k2)).toArray]) (V:=.int .i64 (Qcu (gd s.ents (k2-1)) (gd s.ents k2))) QsE rfl rfl (Qn5 _ (gd s.ents (k2-1)) (gd s.ents k2)) hs fun _ hs=>Zz hs
  ·exact oy [2,10] [10] fun D J w hG hs=>Qct rfl rfl (Zz hs)
  ·exact oa [2,11] fun D J w hs=>Qa2 (h':=decide (0<=Qcu (gd s.ents (k2-1)) (gd s.ents k2))) rfl rfl rfl (Zz hs)
  ·exact oa [12] fun D J w hs=>Qad (V:=.bool ((decide (0<(k2:Int)))&&(decide (0<=Qcu (gd s.ents (k2-1)) (gd s.ents k2))))) rfl (Zz hs)
  rintro J1 w32 J2 hJ hs
  replace hJ:J2=upd (mix (sq 89 13++[88]) J1 _) 88 (.bool ((decide (0<(k2:Int)))&&(decide (0<=Qcu (gd s.ents (k2-1)) (gd s.ents k2))))):=hJ
  subst hJ
  refine Qao (t:=(decide (0<(k2:Int)))&&(decide (0<=Qcu (gd s.ents (k2-1)) (gd s.ents k2)))) rfl (fun c33=>?_) (fun c33=>?_)
  ·
   have c33r:=QbC c33
   replace c33:=QbA c33
   replace c33:=QQ1 c33
   replace c33r:=QQ1 c33r
   refine Qah (Qab (Qaa (Qad (V:=.bool false) rfl (Qaf (Qav ?_)))))
   refine ⟨_,Qar (V:=.bool false) Tryz.results73 rfl,(Zr hs (congrArg Value.bool (Qcl (i:=k2) (by omega) ?_).symm))⟩
   have hq:=QQ3 c33r
   rw [Qky] at hq
   unfold QgE
   rw [hq,QQ3 (by omega:0<k2)]
   simp
  refine Qaq (Qab (Qaa (Qac (V:=.map (some mr12)) rfl (Qaa (Qae QbJ rfl (Qaa (QbU (vs:=dc ((gd s.ents k2).dot)) QcL hs 2 rfl rfl rfl rfl (Qaa (Qbx (vs:=[]) (cs:=[]) Qp3 (rfl) rfl (Qaa (QfT (k:=(gd s.ents k2).dot) (v:=()) QjR QoP hs 1 rfl rfl rfl rfl fun w34 hs=>(Qaf (Qab (Qaa (QaD (a:=(k2:Int)) (b:=1) (c:=((k2+1:Nat):Int)) rfl rfl (Qak (by omega) (by omega)) (Qaa (Qac (V:=I6 ((k2+1:Nat):Int)) rfl (Qaf ?_))))))))))))))))))
  have hbk:QgE s k2=false:=by
   unfold QgE Qdl
   rw [c23,c26,c28,QQ3 (p:=1<=_) (by omega),QQ3 (p:=_<=16777217) (by omega),← QiL,← hsm,c24]
   have hq:=c33
   rw [Qky] at hq
   simpa using hq
  refine ⟨_,?_,_,k2+1,mput ((gd s.ents k2).dot) () sm,Qai (Qap (ds:=([2]++sq 6 6++sq 48 59)) (by repeat (first|exact Agr.refl _ _|refine Agr.upd ?_ rfl|refine Agr.mix ?_ rfl))) rfl,(by omega),(Qcb hbe hbk),(by rw [Qk4 (by omega),← hsm]),rfl,hs.take 2⟩
  omega
 replace c15:=QQ2 c15
 refine QaG (Qah (Qab (Qaa (Qad (V:=.bool true) rfl (Qaf (Qav ?_))))))
 refine ⟨_,Qar (V:=.bool true) Tryz.results73 rfl,(Zr hs ?_)⟩
 exact congrArg Value.bool (Qeh.2 (Qil c4 hbt2 fun j hj=>hbe j (by omega))).symm
end Tt
end Go.Proofs
namespace Go.Proofs
open Go Go.Vx Go.RowKit
namespace Tt
theorem Qh1 (w:World) (s:Sta) (a1:Option Addr) (c1:Nat) (a2:Option Addr) (c2:Nat) (hok:QdG s) (hle:s.ents.length<=1000) (hlt:s.ticks.length<=1000) (hr1:Rd w (.slice a1 s.ents.length c1) 7 (s.ents.map cec)) (hr2:Rd w (.slice a2 s.ticks.length c2) 2 (s.ticks.map lsc)):Calls Tryz.prog 63 #[.agg ((vc s.known)++[(.slice a1 s.ents.length c1:Value),(.slice a2 s.ticks.length c2:Value) ]).toArray] w (fun e w'=>∃ x:Option Addr × Nat,e = .returned (.slice x.1 (Qaz s).length x.2)/\Own w no w' [row (.slice x.1 (Qaz s).length x.2) ((Qaz s).map (ic .u16)) 32 1]/\True):=by
 refine Qaj (n:=23) Tryz.func63 rfl Tryz.ntmps63 rfl ?_
 have hs:=Own.start w
 have ⟨hv0,hE0,hT0⟩:=hok
 refine Qah (Qab (Qaa (QaR (V:=.agg ((vc s.known)++[(.slice a1 s.ents.length c1:Value),(.slice a2 s.ticks.length c2:Value) ]).toArray) (cs:=(vc s.known)++[(.slice a1 s.ents.length c1:Value),(.slice a2 s.ticks.length c2:Value) ]) rfl rfl hs fun b1 w2 hs=>(Qaa (Qad (V:=.slice none 0 0) rfl (Qaf (Qah (Qah (Qab (Qaa (QaJ (cs:=(vc s.known)++[(.slice a1 s.ents.length c1:Value),(.slice a2 s.ticks.length c2:Value) ]) QcD hs 0 rfl rfl rfl (Qaa (Qat (vs:=[.agg ((vc s.known)++[(.slice a1 s.ents.length c1:Value),(.slice a2 s.ticks.length c2:Value) ]).toArray]) (V:=.bool (Qam s)) QrU rfl rfl ?hc hs fun w3 hs=>?_)))))))))))))
 case hc=>exact (Qgv _ s a1 c1 a2 c2 hok (by omega) (by omega) (Rd.own' hr1 hs) (Rd.own' hr2 hs))
 refine Qaa (Qbw rfl (Qaf (Qao (t:=!(Qam s)) rfl (fun c4=>?_) (fun c4=>?_))))
 ·
  replace c4:=Qbp c4
  refine Qah (Qab (Qaa (Qad (V:=.slice none 0 0) rfl (Qaf (Qav ?_)))))
  refine ⟨_,Qar (V:=.slice none 0 0) Tryz.results63 rfl,?_⟩
  have hX:Qaz s=[]:=by unfold Qaz;rw [if_neg (by rw [c4];decide)]
  rw [hX]
  exact ⟨(none,0),rfl,(hs.take 0).more _ (Qbk _ _ _ _),trivial⟩
 replace c4:=Qbf c4
 refine Qaq (Qah (Qab (Qaa (Qad (V:=.slice none 0 0) rfl (Qaf (Qah (Qah (Qab (Qaa (Qae Qdf rfl (Qaa (QaE (V:=.slice a2 s.ticks.length c2) QgK hs 0 rfl rfl rfl (Qaa (Qa4 (n:=s.ticks.length) Qgx (Rd.own' hr2 hs) (by simp) rfl (Qaa (Qac (V:=I6 0) rfl (Qaf (Qan ?_))))))))))))))))))
 replace hs:=hs.more (row (.slice none 0 0) (List.map (ic .u16) []) 32 1) (Qbk _ _ _ _)
 refine QaA (fun J μ J' w'=>∃ (Jo:Env) (k:Nat) (a9:Option Addr) (c9:Nat) (L9:List Int),J'=upd (upd (mix ([3,5]++sq 12 10) Jo J) 12 (I6 (k:Int))) 3 (.slice a9 L9.length c9)/\(k<=s.ticks.length)/\(L9=(s.ticks.take k).map (·.cart))/\(L9.length<=k)/\μ=s.ticks.length-k/\Own w no w' [blk b1 ((vc s.known)++[(.slice a1 s.ents.length c1:Value),(.slice a2 s.ticks.length c2:Value) ]) 38,row (.slice a9 L9.length c9) (L9.map (ic .u16)) 32 1]) ?_ ?_
 ·exact ⟨_,_,0,none,0,[],Qai (Qai (Qap (ds:=([3,5]++sq 12 10)) (Agr.refl _ _)) rfl) rfl,(by omega),rfl,(Nat.le_refl _),rfl,hs⟩
 rintro μ J' w5 ⟨Jo,k,a9,c9,L9,rfl,hk,hL9,hl9,rfl,hs⟩
 refine Qah (Qab (Qaa (QaQ rfl rfl (Qaf (Qah (Qao (t:=decide ((k:Int)<((s.ticks.length:Nat):Int))) rfl (fun c6=>?_) (fun c6=>?_)))))))
 ·
  replace c6:=QQ1 c6
  refine Qaq (Qah (Qan (Qah (Qab (Qaa (Qax Qgx QcZ.1 (Rd.own' hr2 hs) rfl rfl (by omega) (by rw [QQ6];omega) (Qaa (Qa5 (j:=0) (vs:=lsc (gd s.ticks k)) k QcZ (Rd.own' hr2 hs) (QaW (by omega)) rfl rfl rfl (by omega) (Qaa (QaM (cs:=lsc (⟨0,0⟩:Lst)) Qmm rfl hs fun b7 w8 hs=>(Qaa (QcH (V:=.agg (lsc (gd s.ticks k)).toArray) (vs:=lsc (gd s.ticks k)) (cs':=lsc (gd s.ticks k)) QcZ.1 hs 2 rfl rfl rfl rfl rfl (QQ8 rfl) (QbS _) (QaC rfl) fun w9 hs=>(Qaf (Qab (Qaa (Qac (V:=.slice a9 L9.length c9) rfl (Qaa (Qae QeY rfl (Qaa (QaE (V:=I7 ((gd s.ticks k).cart)) Qas hs 2 rfl rfl rfl (Qaa (Qfb (vals:=[I7 ((gd s.ticks k).cart)]) (ls:=List.map (ic .u16) ([(gd s.ticks k).cart]:List Int)) Qjg rfl rfl rfl (Qbd (enc:=(ic .u16)) (fun _=>rfl) _) (QaK (Qev .u16) _) (QQ8 rfl) hs fun b10 w11 hs=>?_))))))))))))))))))))))
  replace hs:Own w no w11 [blk b1 ((vc s.known)++[(.slice a1 s.ents.length c1:Value),(.slice a2 s.ticks.length c2:Value) ]) 38,row (.slice a9 L9.length c9) (L9.map (ic .u16)) 32 1,blk b7 (lsc (gd s.ticks k)) 102,row (.slice (some ⟨b10,0,none⟩) 1 1) ([(gd s.ticks k).cart].map (ic .u16)) 32 1]:=hs
  refine Qaa (Qb3 (ls':=(L9++[(gd s.ticks k).cart]).map (ic .u16)) (n:=(L9++[(gd s.ticks k).cart]).length) Qjg hs 1 rfl rfl rfl (hs.rd 3 rfl) (QaK (Qev .u16) _) (by simp only [QQ6,QQ7,List.length_cons,List.length_nil];omega) (by simp) (by simp) fun a12 c12 w13 hs=>(Qaa (Qad (V:=.slice a12 ((L9++[(gd s.ticks k).cart]).length) c12) rfl (Qaf (Qab (Qaa (QaD (a:=(k:Int)) (b:=1) (c:=((k+1:Nat):Int)) rfl rfl (Qak (by omega) (by omega)) (Qaa (Qac (V:=I6 ((k+1:Nat):Int)) rfl (Qaf ?_))))))))))
  refine ⟨_,?_,_,k+1,a12,c12,L9++[(gd s.ticks k).cart],Qai (Qai (Qap (ds:=([3,5]++sq 12 10)) (by repeat (first|exact Agr.refl _ _|refine Agr.upd ?_ rfl|refine Agr.mix ?_ rfl))) rfl) rfl,(by omega),(QjU (f:=fun x:Lst=>x.cart) hL9 (by omega)),(by rw [QQ7,List.length_singleton];omega),rfl,hs.take 2⟩
  omega
 replace c6:=QQ2 c6
 refine QaG (Qah (Qab (Qaa (Qac (V:=.slice a9 L9.length c9) rfl (Qaa (Qad (V:=.slice a9 L9.length c9) rfl (Qaf (Qav ?_))))))))
 refine ⟨_,Qar (V:=.slice a9 L9.length c9) Tryz.results63 rfl,?_⟩
 have hX:L9=Qaz s:=by unfold Qaz;rw [if_pos c4,hL9,Qcc (by omega)]
 rw [hX] at hs ⊢
 exact ⟨(a9,c9),rfl,hs.only 1 rfl,trivial⟩
end Tt
end Go.Proofs
namespace Go.Proofs
open Go Go.Vx Go.RowKit
namespace Tt
theorem Qpw (w:World) (o:Opn):Calls Tryz.prog 90 #[.agg (oc o).toArray] w (fun e w'=>e = .returned (.bool (Qa0 o))/\Own w no w' []):=by
 refine Qaj (n:=16) Tryz.func90 rfl Tryz.ntmps90 rfl ?_
 have hs:=Own.start w
 refine Qah (Qab (Qaa (QaR (V:=.agg (oc o).toArray) (cs:=oc o) rfl rfl hs fun b1 w2 hs=>(Qaa (Qad (V:=.bool false) rfl (Qaf (Qah (Qbh [some 3,some 4,some 5,some 6,some 7,some 8,some 9,some 10,some 11,some 12,some 13,some 14,some 15,some 2] [] [0,1,3,7,15,31,63,127,255,511,1023,2047,4095,8191] [pv (Pq b1 (0+2)),pv (.int .u8 o.kind),pv (.bool (decide (o.kind=1))),pv (.bool (decide (o.kind=1))),pg ((decide (o.kind=1)) == false) (Pq b1 (0+2)),pg ((decide (o.kind=1)) == false) (.int .u8 o.kind),pg ((decide (o.kind=1)) == false) (.bool (decide (o.kind=2))),pv (.bool ((decide (o.kind=1))||(decide (o.kind=2)))),pv (.bool ((decide (o.kind=1))||(decide (o.kind=2)))),pg (((decide (o.kind=1))||(decide (o.kind=2))) == false) (Pq b1 (0+2)),pg (((decide (o.kind=1))||(decide (o.kind=2))) == false) (.int .u8 o.kind),pg (((decide (o.kind=1))||(decide (o.kind=2))) == false) (.bool (decide (o.kind=4))),pv (.bool (((decide (o.kind=1))||(decide (o.kind=2)))||(decide (o.kind=4)))),pv (.bool (((decide (o.kind=1))||(decide (o.kind=2)))||(decide (o.kind=4))))] (fun _ _=>_) [13] (by kernel_rfl) hs ⟨?_,?_,?_,?_,?_,?_,?_,?_,?_,?_,?_,?_,?_,?_,trivial⟩ ?_))))))))
 ·exact oa [] fun D J w hs=>Qae QbO rfl (Zz hs)
 ·exact oa [0] fun D J w hs=>QaE (V:=.int .u8 o.kind) QcF hs 0 rfl rfl rfl (Zz hs)
 ·exact oa [1] fun D J w hs=>QaS rfl rfl (Zz hs)
 ·exact oa [2] fun D J w hs=>Qac (V:=.bool (decide (o.kind=1))) rfl (Zz hs)
 ·exact og [3] fun D J w hG hs=>Qae QbO rfl (Zz hs)
 ·exact oy [3,4] [4] fun D J w hG hs=>QaE (V:=.int .u8 o.kind) QcF hs 0 rfl rfl rfl (Zz hs)
 ·exact oy [3,5] [5] fun D J w hG hs=>QaS rfl rfl (Zz hs)
 ·exact oa [3,6] fun D J w hs=>QbZ (h':=decide (o.kind=2)) rfl rfl rfl (Zz hs)
 ·exact oa [7] fun D J w hs=>Qac (V:=.bool ((decide (o.kind=1))||(decide (o.kind=2)))) rfl (Zz hs)
 ·exact og [8] fun D J w hG hs=>Qae QbO rfl (Zz hs)
 ·exact oy [8,9] [9] fun D J w hG hs=>QaE (V:=.int .u8 o.kind) QcF hs 0 rfl rfl rfl (Zz hs)
 ·exact oy [8,10] [10] fun D J w hG hs=>QaS rfl rfl (Zz hs)
 ·exact oa [8,11] fun D J w hs=>QbZ (h':=decide (o.kind=4)) rfl rfl rfl (Zz hs)
 ·exact oa [12] fun D J w hs=>Qad (V:=.bool (((decide (o.kind=1))||(decide (o.kind=2)))||(decide (o.kind=4)))) rfl (Zz hs)
 rintro J1 w3 J2 hJ hs
 replace hJ:J2=upd (mix (sq 3 13++[2]) J1 _) 2 (.bool (((decide (o.kind=1))||(decide (o.kind=2)))||(decide (o.kind=4)))):=hJ
 subst hJ
 refine Qav ?_
 refine ⟨_,Qar (V:=.bool (((decide (o.kind=1))||(decide (o.kind=2)))||(decide (o.kind=4)))) Tryz.results90 rfl,(Zr hs ?_)⟩
 rfl
theorem QjN (w:World) (o:Opn):Calls Tryz.prog 55 #[.agg (oc o).toArray] w (fun e w'=>e = .returned (.bool (Qa0 o))/\Own w no w' []):=by
 refine Qaj (n:=16) Tryz.func55 rfl Tryz.ntmps55 rfl ?_
 have hs:=Own.start w
 refine Qah (Qab (Qaa (QaR (V:=.agg (oc o).toArray) (cs:=oc o) rfl rfl hs fun b1 w2 hs=>(Qaa (Qad (V:=.bool false) rfl (Qaf (Qah (Qbh [some 3,some 4,some 5,some 6,some 7,some 8,some 9,some 10,some 11,some 12,some 13,some 14,some 15,some 2] [] [0,1,3,7,15,31,63,127,255,511,1023,2047,4095,8191] [pv (Pq b1 (0+2)),pv (.int .u8 o.kind),pv (.bool (decide (o.kind=1))),pv (.bool (decide (o.kind=1))),pg ((decide (o.kind=1)) == false) (Pq b1 (0+2)),pg ((decide (o.kind=1)) == false) (.int .u8 o.kind),pg ((decide (o.kind=1)) == false) (.bool (decide (o.kind=2))),pv (.bool ((decide (o.kind=1))||(decide (o.kind=2)))),pv (.bool ((decide (o.kind=1))||(decide (o.kind=2)))),pg (((decide (o.kind=1))||(decide (o.kind=2))) == false) (Pq b1 (0+2)),pg (((decide (o.kind=1))||(decide (o.kind=2))) == false) (.int .u8 o.kind),pg (((decide (o.kind=1))||(decide (o.kind=2))) == false) (.bool (decide (o.kind=4))),pv (.bool (((decide (o.kind=1))||(decide (o.kind=2)))||(decide (o.kind=4)))),pv (.bool (((decide (o.kind=1))||(decide (o.kind=2)))||(decide (o.kind=4))))] (fun _ _=>_) [13] (by kernel_rfl) hs ⟨?_,?_,?_,?_,?_,?_,?_,?_,?_,?_,?_,?_,?_,?_,trivial⟩ ?_))))))))
 ·exact oa [] fun D J w hs=>Qae QbO rfl (Zz hs)
 ·exact oa [0] fun D J w hs=>QaE (V:=.int .u8 o.kind) QcF hs 0 rfl rfl rfl (Zz hs)
 ·exact oa [1] fun D J w hs=>QaS rfl rfl (Zz hs)
 ·exact oa [2] fun D J w hs=>Qac (V:=.bool (decide (o.kind=1))) rfl (Zz hs)
 ·exact og [3] fun D J w hG hs=>Qae QbO rfl (Zz hs)
 ·exact oy [3,4] [4] fun D J w hG hs=>QaE (V:=.int .u8 o.kind) QcF hs 0 rfl rfl rfl (Zz hs)
 ·exact oy [3,5] [5] fun D J w hG hs=>QaS rfl rfl (Zz hs)
 ·exact oa [3,6] fun D J w hs=>QbZ (h':=decide (o.kind=2)) rfl rfl rfl (Zz hs)
 ·exact oa [7] fun D J w hs=>Qac (V:=.bool ((decide (o.kind=1))||(decide (o.kind=2)))) rfl (Zz hs)
 ·exact og [8] fun D J w hG hs=>Qae QbO rfl (Zz hs)
 ·exact oy [8,9] [9] fun D J w hG hs=>QaE (V:=.int .u8 o.kind) QcF hs 0 rfl rfl rfl (Zz hs)
 ·exact oy [8,10] [10] fun D J w hG hs=>QaS rfl rfl (Zz hs)
 ·exact oa [8,11] fun D J w hs=>QbZ (h':=decide (o.kind=4)) rfl rfl rfl (Zz hs)
 ·exact oa [12] fun D J w hs=>Qad (V:=.bool (((decide (o.kind=1))||(decide (o.kind=2)))||(decide (o.kind=4)))) rfl (Zz hs)
 rintro J1 w3 J2 hJ hs
 replace hJ:J2=upd (mix (sq 3 13++[2]) J1 _) 2 (.bool (((decide (o.kind=1))||(decide (o.kind=2)))||(decide (o.kind=4)))):=hJ
 subst hJ
 refine Qav ?_
 refine ⟨_,Qar (V:=.bool (((decide (o.kind=1))||(decide (o.kind=2)))||(decide (o.kind=4)))) Tryz.results55 rfl,(Zr hs ?_)⟩
 rfl
theorem QmZ (w:World) (o:Opn) (ho:QbW o.ctx):Calls Tryz.prog 41 #[.agg (oc o).toArray] w (fun e w'=>e = .returned (.int .u64 (QcK o))/\Own w no w' []):=by
 refine Qaj (n:=7) Tryz.func41 rfl Tryz.ntmps41 rfl ?_
 have hs:=Own.start w
 refine Qah (Qab (Qaa (QaR (V:=.agg (oc o).toArray) (cs:=oc o) rfl rfl hs fun b1 w2 hs=>(Qaa (Qad (V:=.int .u64 0) rfl (Qaf (Qah ?_)))))))
 have hb:=Qjw ho
 refine Qab (Qaa (Qae QdQ rfl (Qaa (QbU (vs:=vc o.ctx) QbB hs 0 rfl rfl rfl rfl (Qaa (Qat (vs:=[.agg (vc o.ctx).toArray]) (V:=.int .u64 (vsum o.ctx)) Qva rfl rfl ?hc hs fun w3 hs=>?_))))))
 case hc=>exact (QqN _ o.ctx (by first|assumption|exact Qb1))
 refine Qaa (QaD (a:=vsum o.ctx) (b:=1) (c:=(vsum o.ctx)+1) rfl rfl (Qdd (by omega) (by omega)) (Qaa (Qad (V:=.int .u64 ((vsum o.ctx)+1)) rfl (Qaf (Qav ?_)))))
 refine ⟨_,Qar (V:=.int .u64 ((vsum o.ctx)+1)) Tryz.results41 rfl,(Zr hs ?_)⟩
 rfl
theorem QkS (w:World) (o:Opn) (ho:QbW o.ctx):Calls Tryz.prog 57 #[.agg (oc o).toArray] w (fun e w'=>e = .returned (.int .u64 (QcK o))/\Own w no w' []):=by
 refine Qaj (n:=7) Tryz.func57 rfl Tryz.ntmps57 rfl ?_
 have hs:=Own.start w
 refine Qah (Qab (Qaa (QaR (V:=.agg (oc o).toArray) (cs:=oc o) rfl rfl hs fun b1 w2 hs=>(Qaa (Qad (V:=.int .u64 0) rfl (Qaf (Qah ?_)))))))
 have hb:=Qjw ho
 refine Qab (Qaa (Qae QdQ rfl (Qaa (QbU (vs:=vc o.ctx) QbB hs 0 rfl rfl rfl rfl (Qaa (Qat (vs:=[.agg (vc o.ctx).toArray]) (V:=.int .u64 (vsum o.ctx)) QuY rfl rfl ?hc hs fun w3 hs=>?_))))))
 case hc=>exact (Qrr _ o.ctx (by first|assumption|exact Qb1))
 refine Qaa (QaD (a:=vsum o.ctx) (b:=1) (c:=(vsum o.ctx)+1) rfl rfl (Qdd (by omega) (by omega)) (Qaa (Qad (V:=.int .u64 ((vsum o.ctx)+1)) rfl (Qaf (Qav ?_)))))
 refine ⟨_,Qar (V:=.int .u64 ((vsum o.ctx)+1)) Tryz.results57 rfl,(Zr hs ?_)⟩
 rfl
theorem Qoq (w:World) (o e:Opn) (he:QcU e.dot):Calls Tryz.prog 46 #[.agg (oc o).toArray,.agg (oc e).toArray] w (fun r w'=>r = .returned (.bool (QaU o e))/\Own w no w' []):=by
 refine Qaj (n:=40) Tryz.func46 rfl Tryz.ntmps46 rfl ?_
 have hs:=Own.start w
 refine Qah (Qab (Qaa (QaR (V:=.agg (oc o).toArray) (cs:=oc o) rfl rfl hs fun b1 w2 hs=>(Qaa (QaR (V:=.agg (oc e).toArray) (cs:=oc e) rfl rfl hs fun b3 w4 hs=>(Qaa (Qad (V:=.bool false) rfl (Qaf (Qah (Qah (Qbh [some 5,some 6,some 7,some 8,some 9,some 10,some 11,some 12,some 13,some 14,some 15,some 16,some 17,some 18,some 19,some 20,some 21,some 22] [] [0,1,3,7,15,31,15,79,255,511,1023,2047,4095,2047,10239,32767,65535,131071] [pv (.agg (oc e).toArray),pv (.bool (Qa0 e)),pv (.bool (!(Qa0 e))),pv (.bool (!(Qa0 e))),pg ((!(Qa0 e)) == false) (Pq b1 (0+3)),pg ((!(Qa0 e)) == false) (I7 o.cart),pg ((!(Qa0 e)) == false) (Pq b3 (0+3)),pg ((!(Qa0 e)) == false) (I7 e.cart),pg ((!(Qa0 e)) == false) (.bool (!decide (o.cart=e.cart))),pv (.bool ((!(Qa0 e))||(!decide (o.cart=e.cart)))),pv (.bool ((!(Qa0 e))||(!decide (o.cart=e.cart)))),pg (((!(Qa0 e))||(!decide (o.cart=e.cart))) == false) (Pq b1 (0+7)),pg (((!(Qa0 e))||(!decide (o.cart=e.cart))) == false) (.agg (vc o.ctx).toArray),pg (((!(Qa0 e))||(!decide (o.cart=e.cart))) == false) (Pq b3 (0+0)),pg (((!(Qa0 e))||(!decide (o.cart=e.cart))) == false) (.agg (dc e.dot).toArray),pg (((!(Qa0 e))||(!decide (o.cart=e.cart))) == false) (.bool (Qby o.ctx e.dot)),pg (((!(Qa0 e))||(!decide (o.cart=e.cart))) == false) (.bool (!(Qby o.ctx e.dot))),pv (.bool (((!(Qa0 e))||(!decide (o.cart=e.cart)))||(!(Qby o.ctx e.dot))))] (fun _ _=>_) [17] (by kernel_rfl) hs ⟨?_,?_,?_,?_,?_,?_,?_,?_,?_,?_,?_,?_,?_,?_,?_,?_,?_,?_,trivial⟩ ?_)))))))))))
 ·exact oa [] fun D J w hs=>QaJ (cs:=oc e) QbY hs 1 rfl rfl rfl (Zz hs)
 ·exact oa [0] fun D J w hs=>Qat (vs:=[.agg (oc e).toArray]) (V:=.bool (Qa0 e)) QuB rfl rfl (Qpw _ e) hs fun _ hs=>Zz hs
 ·exact oa [1] fun D J w hs=>Qbw rfl (Zz hs)
 ·exact oa [2] fun D J w hs=>Qac (V:=.bool (!(Qa0 e))) rfl (Zz hs)
 ·exact og [3] fun D J w hG hs=>Qae QdE rfl (Zz hs)
 ·exact oy [3,4] [4] fun D J w hG hs=>QaE (V:=.int .u16 o.cart) Qas hs 0 rfl rfl rfl (Zz hs)
 ·exact og [3] fun D J w hG hs=>Qae QdE rfl (Zz hs)
 ·exact oy [3,6] [6] fun D J w hG hs=>QaE (V:=.int .u16 e.cart) Qas hs 1 rfl rfl rfl (Zz hs)
 ·exact oy [3,5,7] [5,7] fun D J w hG hs=>Qch rfl rfl (Zz hs)
 ·exact oa [3,8] fun D J w hs=>QbZ (h':=!decide (o.cart=e.cart)) rfl rfl rfl (Zz hs)
 ·exact oa [9] fun D J w hs=>Qac (V:=.bool ((!(Qa0 e))||(!decide (o.cart=e.cart)))) rfl (Zz hs)
 ·exact og [10] fun D J w hG hs=>Qae QdQ rfl (Zz hs)
 ·exact oy [10,11] [11] fun D J w hG hs=>QbU (vs:=vc o.ctx) QbB hs 0 rfl rfl rfl rfl (Zz hs)
 ·exact og [10] fun D J w hG hs=>Qae Qb0 rfl (Zz hs)
 ·exact oy [10,13] [13] fun D J w hG hs=>QbU (vs:=dc e.dot) QcL hs 1 rfl rfl rfl rfl (Zz hs)
 ·exact oy [10,12,14] [12,14] fun D J w hG hs=>Qat (vs:=[.agg (vc o.ctx).toArray,.agg (dc e.dot).toArray]) (V:=.bool (Qby o.ctx e.dot)) Qoh rfl rfl (QhL _ o.ctx e.dot (by first|assumption|exact Qde (by omega) (by omega) (by omega) (by omega))) hs fun _ hs=>Zz hs
 ·exact oy [10,15] [15] fun D J w hG hs=>Qbw rfl (Zz hs)
 ·exact oa [10,16] fun D J w hs=>QbZ (h':=!(Qby o.ctx e.dot)) rfl rfl rfl (Zz hs)
 rintro J1 w7 J2 hJ hs
 replace hJ:J2=upd (mix (sq 5 18) J1 _) 22 (.bool (((!(Qa0 e))||(!decide (o.cart=e.cart)))||(!(Qby o.ctx e.dot)))):=hJ
 subst hJ
 refine Qao (t:=((!(Qa0 e))||(!decide (o.cart=e.cart)))||(!(Qby o.ctx e.dot))) rfl (fun c8=>?_) (fun c8=>?_)
 ·
  refine Qah (Qab (Qaa (Qad (V:=.bool false) rfl (Qaf (Qav ?_)))))
  refine ⟨_,Qar (V:=.bool false) Tryz.results46 rfl,(Zr hs ?_)⟩
  exact congrArg Value.bool (Qnl c8).symm
 have c8r:=Qfe c8
 replace c8:=Qfk c8
 have c8rr:=Qfe c8
 replace c8:=Qfk c8
 replace c8:=Qbf c8
 replace c8rr:=Qbf c8rr
 replace c8rr:=QQ1 c8rr
 replace c8r:=Qbf c8r
 refine Qaq (Qah (Qah (Qab (Qaa (Qae QbO rfl (Qaa (QaE (V:=.int .u8 o.kind) QcF hs 0 rfl rfl rfl (Qaf (Qan (Qah (Qab (Qaa (QaS rfl rfl (Qaa (Qad (V:=.bool (decide (o.kind=5))) rfl (Qaf (Qao (t:=decide (o.kind=5)) rfl (fun c9=>?_) (fun c9=>?_))))))))))))))))))
 ·
  replace c9:=QQ1 c9
  refine Qah (Qab (Qaa (Qad (V:=.bool true) rfl (Qaf (Qav ?_)))))
  refine ⟨_,Qar (V:=.bool true) Tryz.results46 rfl,(Zr hs ?_)⟩
  rw [Qfq c8 c8rr c8r]
  refine congrArg Value.bool ?_
  simp_all
 replace c9:=QQ2 c9
 refine Qah (Qah (Qab (Qaa (QaS rfl rfl (Qaa (Qad (V:=.bool (decide (o.kind=3))) rfl (Qaf (Qao (t:=decide (o.kind=3)) rfl (fun c10=>?_) (fun c10=>?_)))))))))
 ·
  replace c10:=QQ1 c10
  refine Qaq (Qdh (congrArg Value.bool (QQ3 c10)) ?_)
  refine Qah (Qbh [some 30,some 31,some 32,some 33,some 34,some 35,some 36,some 37,some 38,some 39,some 4] [] [0,1,3,7,15,31,15,79,255,511,1023] [pv (Pq b3 (0+2)),pv (.int .u8 e.kind),pv (.bool (!decide (e.kind=4))),pv (.bool (!decide (e.kind=4))),pg ((!decide (e.kind=4)) == true) (Pq b1 (0+4)),pg ((!decide (e.kind=4)) == true) (I7 o.item),pg ((!decide (e.kind=4)) == true) (Pq b3 (0+4)),pg ((!decide (e.kind=4)) == true) (I7 e.item),pg ((!decide (e.kind=4)) == true) (.bool (decide (o.item=e.item))),pv (.bool ((!decide (e.kind=4))&&(decide (o.item=e.item)))),pv (.bool ((!decide (e.kind=4))&&(decide (o.item=e.item))))] (fun _ _=>_) [10] (by kernel_rfl) hs ⟨?_,?_,?_,?_,?_,?_,?_,?_,?_,?_,?_,trivial⟩ ?_)
  ·exact oa [] fun D J w hs=>Qae QbO rfl (Zz hs)
  ·exact oa [0] fun D J w hs=>QaE (V:=.int .u8 e.kind) QcF hs 1 rfl rfl rfl (Zz hs)
  ·exact oa [1] fun D J w hs=>Qch rfl rfl (Zz hs)
  ·exact oa [2] fun D J w hs=>Qac (V:=.bool (!decide (e.kind=4))) rfl (Zz hs)
  ·exact og [3] fun D J w hG hs=>Qae QcO rfl (Zz hs)
  ·exact oy [3,4] [4] fun D J w hG hs=>QaE (V:=.int .u16 o.item) Qas hs 0 rfl rfl rfl (Zz hs)
  ·exact og [3] fun D J w hG hs=>Qae QcO rfl (Zz hs)
  ·exact oy [3,6] [6] fun D J w hG hs=>QaE (V:=.int .u16 e.item) Qas hs 1 rfl rfl rfl (Zz hs)
  ·exact oy [3,5,7] [5,7] fun D J w hG hs=>QaS rfl rfl (Zz hs)
  ·exact oa [3,8] fun D J w hs=>Qa2 (h':=decide (o.item=e.item)) rfl rfl rfl (Zz hs)
  ·exact oa [9] fun D J w hs=>Qad (V:=.bool ((!decide (e.kind=4))&&(decide (o.item=e.item)))) rfl (Zz hs)
  rintro J1 w11 J2 hJ hs
  replace hJ:J2=upd (mix (sq 30 10++[4]) J1 _) 4 (.bool ((!decide (e.kind=4))&&(decide (o.item=e.item)))):=hJ
  subst hJ
  refine Qav ?_
  refine ⟨_,Qar (V:=.bool ((!decide (e.kind=4))&&(decide (o.item=e.item)))) Tryz.results46 rfl,(Zr hs ?_)⟩
  rw [Qfq c8 c8rr c8r]
  refine congrArg Value.bool ?_
  simp_all
 replace c10:=QQ2 c10
 refine Qab (Qaa (QaS rfl rfl (Qaa (Qad (V:=.bool (decide (o.kind=2))) rfl (Qaf (Qao (t:=decide (o.kind=2)) rfl (fun c12=>?_) (fun c12=>?_)))))))
 ·
  replace c12:=QQ1 c12
  refine Qah (Qbh [some 30,some 31,some 32,some 33,some 34,some 35,some 36,some 37,some 38,some 39,some 4] [] [0,1,3,7,15,31,15,79,255,511,1023] [pv (Pq b3 (0+2)),pv (.int .u8 e.kind),pv (.bool (!decide (e.kind=4))),pv (.bool (!decide (e.kind=4))),pg ((!decide (e.kind=4)) == true) (Pq b1 (0+4)),pg ((!decide (e.kind=4)) == true) (I7 o.item),pg ((!decide (e.kind=4)) == true) (Pq b3 (0+4)),pg ((!decide (e.kind=4)) == true) (I7 e.item),pg ((!decide (e.kind=4)) == true) (.bool (decide (o.item=e.item))),pv (.bool ((!decide (e.kind=4))&&(decide (o.item=e.item)))),pv (.bool ((!decide (e.kind=4))&&(decide (o.item=e.item))))] (fun _ _=>_) [10] (by kernel_rfl) hs ⟨?_,?_,?_,?_,?_,?_,?_,?_,?_,?_,?_,trivial⟩ ?_)
  ·exact oa [] fun D J w hs=>Qae QbO rfl (Zz hs)
  ·exact oa [0] fun D J w hs=>QaE (V:=.int .u8 e.kind) QcF hs 1 rfl rfl rfl (Zz hs)
  ·exact oa [1] fun D J w hs=>Qch rfl rfl (Zz hs)
  ·exact oa [2] fun D J w hs=>Qac (V:=.bool (!decide (e.kind=4))) rfl (Zz hs)
  ·exact og [3] fun D J w hG hs=>Qae QcO rfl (Zz hs)
  ·exact oy [3,4] [4] fun D J w hG hs=>QaE (V:=.int .u16 o.item) Qas hs 0 rfl rfl rfl (Zz hs)
  ·exact og [3] fun D J w hG hs=>Qae QcO rfl (Zz hs)
  ·exact oy [3,6] [6] fun D J w hG hs=>QaE (V:=.int .u16 e.item) Qas hs 1 rfl rfl rfl (Zz hs)
  ·exact oy [3,5,7] [5,7] fun D J w hG hs=>QaS rfl rfl (Zz hs)
  ·exact oa [3,8] fun D J w hs=>Qa2 (h':=decide (o.item=e.item)) rfl rfl rfl (Zz hs)
  ·exact oa [9] fun D J w hs=>Qad (V:=.bool ((!decide (e.kind=4))&&(decide (o.item=e.item)))) rfl (Zz hs)
  rintro J1 w13 J2 hJ hs
  replace hJ:J2=upd (mix (sq 30 10++[4]) J1 _) 4 (.bool ((!decide (e.kind=4))&&(decide (o.item=e.item)))):=hJ
  subst hJ
  refine Qav ?_
  refine ⟨_,Qar (V:=.bool ((!decide (e.kind=4))&&(decide (o.item=e.item)))) Tryz.results46 rfl,(Zr hs ?_)⟩
  rw [Qfq c8 c8rr c8r]
  refine congrArg Value.bool ?_
  simp_all
 replace c12:=QQ2 c12
 refine Qaq (Qah (Qab (Qaa (Qad (V:=.bool false) rfl (Qaf (Qav ?_))))))
 refine ⟨_,Qar (V:=.bool false) Tryz.results46 rfl,(Zr hs ?_)⟩
 rw [Qfq c8 c8rr c8r]
 refine congrArg Value.bool ?_
 simp_all
theorem QnN (w:World) (o e:Opn) (he:QcU e.dot):Calls Tryz.prog 97 #[.agg (oc o).toArray,.agg (oc e).toArray] w (fun r w'=>r = .returned (.bool (QaU o e))/\Own w no w' []):=by
 refine Qaj (n:=46) Tryz.func97 rfl Tryz.ntmps97 rfl ?_
 have hs:=Own.start w
 refine Qah (Qab (Qaa (QaR (V:=.agg (oc o).toArray) (cs:=oc o) rfl rfl hs fun b1 w2 hs=>(Qaa (QaR (V:=.agg (oc e).toArray) (cs:=oc e) rfl rfl hs fun b3 w4 hs=>(Qaa (Qad (V:=.bool false) rfl (Qaf (Qah (Qah (Qbh [some 5,some 6,some 7,some 8,some 9,some 10,some 11,some 12,some 13,some 14,some 15,some 16,some 17,some 18,some 19,some 20,some 21,some 22] [] [0,1,3,7,15,31,15,79,255,511,1023,2047,4095,2047,10239,32767,65535,131071] [pv (.agg (oc e).toArray),pv (.bool (Qa0 e)),pv (.bool (!(Qa0 e))),pv (.bool (!(Qa0 e))),pg ((!(Qa0 e)) == false) (Pq b1 (0+3)),pg ((!(Qa0 e)) == false) (I7 o.cart),pg ((!(Qa0 e)) == false) (Pq b3 (0+3)),pg ((!(Qa0 e)) == false) (I7 e.cart),pg ((!(Qa0 e)) == false) (.bool (!decide (o.cart=e.cart))),pv (.bool ((!(Qa0 e))||(!decide (o.cart=e.cart)))),pv (.bool ((!(Qa0 e))||(!decide (o.cart=e.cart)))),pg (((!(Qa0 e))||(!decide (o.cart=e.cart))) == false) (Pq b1 (0+7)),pg (((!(Qa0 e))||(!decide (o.cart=e.cart))) == false) (.agg (vc o.ctx).toArray),pg (((!(Qa0 e))||(!decide (o.cart=e.cart))) == false) (Pq b3 (0+0)),pg (((!(Qa0 e))||(!decide (o.cart=e.cart))) == false) (.agg (dc e.dot).toArray),pg (((!(Qa0 e))||(!decide (o.cart=e.cart))) == false) (.bool (Qby o.ctx e.dot)),pg (((!(Qa0 e))||(!decide (o.cart=e.cart))) == false) (.bool (!(Qby o.ctx e.dot))),pv (.bool (((!(Qa0 e))||(!decide (o.cart=e.cart)))||(!(Qby o.ctx e.dot))))] (fun _ _=>_) [17] (by kernel_rfl) hs ⟨?_,?_,?_,?_,?_,?_,?_,?_,?_,?_,?_,?_,?_,?_,?_,?_,?_,?_,trivial⟩ ?_)))))))))))
 ·exact oa [] fun D J w hs=>QaJ (cs:=oc e) QbY hs 1 rfl rfl rfl (Zz hs)
 ·exact oa [0] fun D J w hs=>Qat (vs:=[.agg (oc e).toArray]) (V:=.bool (Qa0 e)) Qui rfl rfl (QjN _ e) hs fun _ hs=>Zz hs
 ·exact oa [1] fun D J w hs=>Qbw rfl (Zz hs)
 ·exact oa [2] fun D J w hs=>Qac (V:=.bool (!(Qa0 e))) rfl (Zz hs)
 ·exact og [3] fun D J w hG hs=>Qae QdE rfl (Zz hs)
 ·exact oy [3,4] [4] fun D J w hG hs=>QaE (V:=.int .u16 o.cart) Qas hs 0 rfl rfl rfl (Zz hs)
 ·exact og [3] fun D J w hG hs=>Qae QdE rfl (Zz hs)
 ·exact oy [3,6] [6] fun D J w hG hs=>QaE (V:=.int .u16 e.cart) Qas hs 1 rfl rfl rfl (Zz hs)
 ·exact oy [3,5,7] [5,7] fun D J w hG hs=>Qch rfl rfl (Zz hs)
 ·exact oa [3,8] fun D J w hs=>QbZ (h':=!decide (o.cart=e.cart)) rfl rfl rfl (Zz hs)
 ·exact oa [9] fun D J w hs=>Qac (V:=.bool ((!(Qa0 e))||(!decide (o.cart=e.cart)))) rfl (Zz hs)
 ·exact og [10] fun D J w hG hs=>Qae QdQ rfl (Zz hs)
 ·exact oy [10,11] [11] fun D J w hG hs=>QbU (vs:=vc o.ctx) QbB hs 0 rfl rfl rfl rfl (Zz hs)
 ·exact og [10] fun D J w hG hs=>Qae Qb0 rfl (Zz hs)
 ·exact oy [10,13] [13] fun D J w hG hs=>QbU (vs:=dc e.dot) QcL hs 1 rfl rfl rfl rfl (Zz hs)
 ·exact oy [10,12,14] [12,14] fun D J w hG hs=>Qat (vs:=[.agg (vc o.ctx).toArray,.agg (dc e.dot).toArray]) (V:=.bool (Qby o.ctx e.dot)) Qpg rfl rfl (Qho _ o.ctx e.dot (by first|assumption|exact Qde (by omega) (by omega) (by omega) (by omega))) hs fun _ hs=>Zz hs
 ·exact oy [10,15] [15] fun D J w hG hs=>Qbw rfl (Zz hs)
 ·exact oa [10,16] fun D J w hs=>QbZ (h':=!(Qby o.ctx e.dot)) rfl rfl rfl (Zz hs)
 rintro J1 w7 J2 hJ hs
 replace hJ:J2=upd (mix (sq 5 18) J1 _) 22 (.bool (((!(Qa0 e))||(!decide (o.cart=e.cart)))||(!(Qby o.ctx e.dot)))):=hJ
 subst hJ
 refine Qao (t:=((!(Qa0 e))||(!decide (o.cart=e.cart)))||(!(Qby o.ctx e.dot))) rfl (fun c8=>?_) (fun c8=>?_)
 ·
  refine Qah (Qab (Qaa (Qad (V:=.bool false) rfl (Qaf (Qav ?_)))))
  refine ⟨_,Qar (V:=.bool false) Tryz.results97 rfl,(Zr hs ?_)⟩
  exact congrArg Value.bool (Qnl c8).symm
 have c8r:=Qfe c8
 replace c8:=Qfk c8
 have c8rr:=Qfe c8
 replace c8:=Qfk c8
 replace c8:=Qbf c8
 replace c8rr:=Qbf c8rr
 replace c8rr:=QQ1 c8rr
 replace c8r:=Qbf c8r
 refine Qaq (Qah (Qah (Qab (Qaa (Qae QbO rfl (Qaa (QaE (V:=.int .u8 o.kind) QcF hs 0 rfl rfl rfl (Qaa (QaS rfl rfl (Qaf (Qao (t:=decide (o.kind=5)) rfl (fun c9=>?_) (fun c9=>?_))))))))))))
 ·
  replace c9:=QQ1 c9
  refine Qah (Qab (Qaa (Qad (V:=.bool true) rfl (Qaf (Qav ?_)))))
  refine ⟨_,Qar (V:=.bool true) Tryz.results97 rfl,(Zr hs ?_)⟩
  rw [Qfq c8 c8rr c8r]
  refine congrArg Value.bool ?_
  simp_all
  try exact Bool.and_assoc _ _ _
 replace c9:=QQ2 c9
 refine Qaq (Qah (Qbh [some 26,some 27,some 28,some 29,some 30,some 31,some 32,some 33,some 34,some 35,some 36,some 37,some 38,some 39,some 40,some 41,some 42,some 43,some 44,some 45,some 4] [] [0,1,3,7,15,31,63,127,255,511,1023,2047,4095,8191,16383,32767,16383,81919,262143,524287,1048575] [pv (Pq b1 (0+2)),pv (.int .u8 o.kind),pv (.bool (decide (o.kind=3))),pv (.bool (decide (o.kind=3))),pg ((decide (o.kind=3)) == false) (Pq b1 (0+2)),pg ((decide (o.kind=3)) == false) (.int .u8 o.kind),pg ((decide (o.kind=3)) == false) (.bool (decide (o.kind=2))),pv (.bool ((decide (o.kind=3))||(decide (o.kind=2)))),pv (.bool ((decide (o.kind=3))||(decide (o.kind=2)))),pg (((decide (o.kind=3))||(decide (o.kind=2))) == true) (Pq b3 (0+2)),pg (((decide (o.kind=3))||(decide (o.kind=2))) == true) (.int .u8 e.kind),pg (((decide (o.kind=3))||(decide (o.kind=2))) == true) (.bool (!decide (e.kind=4))),pv (.bool (((decide (o.kind=3))||(decide (o.kind=2)))&&(!decide (e.kind=4)))),pv (.bool (((decide (o.kind=3))||(decide (o.kind=2)))&&(!decide (e.kind=4)))),pg ((((decide (o.kind=3))||(decide (o.kind=2)))&&(!decide (e.kind=4))) == true) (Pq b1 (0+4)),pg ((((decide (o.kind=3))||(decide (o.kind=2)))&&(!decide (e.kind=4))) == true) (I7 o.item),pg ((((decide (o.kind=3))||(decide (o.kind=2)))&&(!decide (e.kind=4))) == true) (Pq b3 (0+4)),pg ((((decide (o.kind=3))||(decide (o.kind=2)))&&(!decide (e.kind=4))) == true) (I7 e.item),pg ((((decide (o.kind=3))||(decide (o.kind=2)))&&(!decide (e.kind=4))) == true) (.bool (decide (o.item=e.item))),pv (.bool ((((decide (o.kind=3))||(decide (o.kind=2)))&&(!decide (e.kind=4)))&&(decide (o.item=e.item)))),pv (.bool ((((decide (o.kind=3))||(decide (o.kind=2)))&&(!decide (e.kind=4)))&&(decide (o.item=e.item))))] (fun _ _=>_) [20] (by kernel_rfl) hs ⟨?_,?_,?_,?_,?_,?_,?_,?_,?_,?_,?_,?_,?_,?_,?_,?_,?_,?_,?_,?_,?_,trivial⟩ ?_))
 ·exact oa [] fun D J w hs=>Qae QbO rfl (Zz hs)
 ·exact oa [0] fun D J w hs=>QaE (V:=.int .u8 o.kind) QcF hs 0 rfl rfl rfl (Zz hs)
 ·exact oa [1] fun D J w hs=>QaS rfl rfl (Zz hs)
 ·exact oa [2] fun D J w hs=>Qac (V:=.bool (decide (o.kind=3))) rfl (Zz hs)
 ·exact og [3] fun D J w hG hs=>Qae QbO rfl (Zz hs)
 ·exact oy [3,4] [4] fun D J w hG hs=>QaE (V:=.int .u8 o.kind) QcF hs 0 rfl rfl rfl (Zz hs)
 ·exact oy [3,5] [5] fun D J w hG hs=>QaS rfl rfl (Zz hs)
 ·exact oa [3,6] fun D J w hs=>QbZ (h':=decide (o.kind=2)) rfl rfl rfl (Zz hs)
 ·exact oa [7] fun D J w hs=>Qac (V:=.bool ((decide (o.kind=3))||(decide (o.kind=2)))) rfl (Zz hs)
 ·exact og [8] fun D J w hG hs=>Qae QbO rfl (Zz hs)
 ·exact oy [8,9] [9] fun D J w hG hs=>QaE (V:=.int .u8 e.kind) QcF hs 1 rfl rfl rfl (Zz hs)
 ·exact oy [8,10] [10] fun D J w hG hs=>Qch rfl rfl (Zz hs)
 ·exact oa [8,11] fun D J w hs=>Qa2 (h':=!decide (e.kind=4)) rfl rfl rfl (Zz hs)
 ·exact oa [12] fun D J w hs=>Qac (V:=.bool (((decide (o.kind=3))||(decide (o.kind=2)))&&(!decide (e.kind=4)))) rfl (Zz hs)
 ·exact og [13] fun D J w hG hs=>Qae QcO rfl (Zz hs)
 ·exact oy [13,14] [14] fun D J w hG hs=>QaE (V:=.int .u16 o.item) Qas hs 0 rfl rfl rfl (Zz hs)
 ·exact og [13] fun D J w hG hs=>Qae QcO rfl (Zz hs)
 ·exact oy [13,16] [16] fun D J w hG hs=>QaE (V:=.int .u16 e.item) Qas hs 1 rfl rfl rfl (Zz hs)
 ·exact oy [13,15,17] [15,17] fun D J w hG hs=>QaS rfl rfl (Zz hs)
 ·exact oa [13,18] fun D J w hs=>Qa2 (h':=decide (o.item=e.item)) rfl rfl rfl (Zz hs)
 ·exact oa [19] fun D J w hs=>Qad (V:=.bool ((((decide (o.kind=3))||(decide (o.kind=2)))&&(!decide (e.kind=4)))&&(decide (o.item=e.item)))) rfl (Zz hs)
 rintro J1 w10 J2 hJ hs
 replace hJ:J2=upd (mix (sq 26 20++[4]) J1 _) 4 (.bool ((((decide (o.kind=3))||(decide (o.kind=2)))&&(!decide (e.kind=4)))&&(decide (o.item=e.item)))):=hJ
 subst hJ
 refine Qav ?_
 refine ⟨_,Qar (V:=.bool ((((decide (o.kind=3))||(decide (o.kind=2)))&&(!decide (e.kind=4)))&&(decide (o.item=e.item)))) Tryz.results97 rfl,(Zr hs ?_)⟩
 rw [Qfq c8 c8rr c8r]
 refine congrArg Value.bool ?_
 simp_all
 try exact Bool.and_assoc _ _ _
theorem Qpi (w:World) (o:Opn) (ho:Qdg o):Calls Tryz.prog 151 #[.agg (oc o).toArray] w (fun e w'=>e = .returned (.bool (Qb6 o))/\Own w no w' []):=by
 refine Qaj (n:=28) Tryz.func151 rfl Tryz.ntmps151 rfl ?_
 have hs:=Own.start w
 refine Qah (Qab (Qaa (QaR (V:=.agg (oc o).toArray) (cs:=oc o) rfl rfl hs fun b1 w2 hs=>(Qaa (Qad (V:=.bool false) rfl (Qaf (Qah (Qah (Qab (Qaa (Qae QbO rfl (Qaa (QaE (V:=.int .u8 o.kind) QcF hs 0 rfl rfl rfl (Qaf (Qan (Qah (Qab (Qaa (QaS rfl rfl (Qaa (Qad (V:=.bool (decide (o.kind=1))) rfl (Qaf (Qao (t:=decide (o.kind=1)) rfl (fun c3=>?_) (fun c3=>?_))))))))))))))))))))))))
 ·
  replace c3:=QQ1 c3
  refine Qah (Qab (Qaa (Qae Qdk rfl (Qaa (QaE (V:=I7 o.qty) Qas hs 0 rfl rfl rfl (Qaa (QbP rfl rfl (Qaa (Qad (V:=.bool (decide (0<o.qty))) rfl (Qaf (Qav ?_)))))))))))
  refine ⟨_,Qar (V:=.bool (decide (0<o.qty))) Tryz.results151 rfl,(Zr hs (congrArg Value.bool ?_))⟩
  unfold Qb6
  have ⟨_,_,_,_,⟨hq1,hq2⟩,_,_⟩:=ho
  simp_all
  try omega
 replace c3:=QQ2 c3
 refine Qah (Qab (Qaa (QaS rfl rfl (Qaa (Qad (V:=.bool (decide (o.kind=2))) rfl (Qaf (Qao (t:=decide (o.kind=2)) rfl (fun c4=>?_) (fun c4=>?_))))))))
 ·
  replace c4:=QQ1 c4
  refine Qah (Qab (Qaa (Qad (V:=.bool true) rfl (Qaf (Qav ?_)))))
  refine ⟨_,Qar (V:=.bool true) Tryz.results151 rfl,(Zr hs (congrArg Value.bool ?_))⟩
  unfold Qb6
  have ⟨_,_,_,_,⟨hq1,hq2⟩,_,_⟩:=ho
  simp_all
  try omega
 replace c4:=QQ2 c4
 refine Qah (Qab (Qaa (QaS rfl rfl (Qaa (Qad (V:=.bool (decide (o.kind=3))) rfl (Qaf (Qao (t:=decide (o.kind=3)) rfl (fun c5=>?_) (fun c5=>?_))))))))
 ·
  replace c5:=QQ1 c5
  refine Qah (Qab (Qaa (Qae Qdk rfl (Qaa (QaE (V:=I7 o.qty) Qas hs 0 rfl rfl rfl (Qaa (QaS rfl rfl (Qaa (Qad (V:=.bool (decide (o.qty=0))) rfl (Qaf (Qav ?_)))))))))))
  refine ⟨_,Qar (V:=.bool (decide (o.qty=0))) Tryz.results151 rfl,(Zr hs (congrArg Value.bool ?_))⟩
  unfold Qb6
  have ⟨_,_,_,_,⟨hq1,hq2⟩,_,_⟩:=ho
  simp_all
  try omega
 replace c5:=QQ2 c5
 refine Qah (Qah (Qab (Qaa (QaS rfl rfl (Qaa (Qad (V:=.bool (decide (o.kind=4))) rfl (Qaf (Qao (t:=decide (o.kind=4)) rfl (fun c6=>?_) (fun c6=>?_)))))))))
 ·
  replace c6:=QQ1 c6
  refine Qaq (Qdh (congrArg Value.bool (QQ3 c6)) ?_)
  refine Qah (Qbh [some 20,some 21,some 22,some 23,some 24,some 25,some 26,some 27,some 2] [] [0,1,3,7,15,31,63,127,255] [pv (Pq b1 (0+4)),pv (I7 o.item),pv (.bool (decide (o.item=0))),pv (.bool (decide (o.item=0))),pg ((decide (o.item=0)) == true) (Pq b1 (0+5)),pg ((decide (o.item=0)) == true) (I7 o.qty),pg ((decide (o.item=0)) == true) (.bool (decide (o.qty=0))),pv (.bool ((decide (o.item=0))&&(decide (o.qty=0)))),pv (.bool ((decide (o.item=0))&&(decide (o.qty=0))))] (fun _ _=>_) [8] (by kernel_rfl) hs ⟨?_,?_,?_,?_,?_,?_,?_,?_,?_,trivial⟩ ?_)
  ·exact oa [] fun D J w hs=>Qae QcO rfl (Zz hs)
  ·exact oa [0] fun D J w hs=>QaE (V:=.int .u16 o.item) Qas hs 0 rfl rfl rfl (Zz hs)
  ·exact oa [1] fun D J w hs=>QaS rfl rfl (Zz hs)
  ·exact oa [2] fun D J w hs=>Qac (V:=.bool (decide (o.item=0))) rfl (Zz hs)
  ·exact og [3] fun D J w hG hs=>Qae Qdk rfl (Zz hs)
  ·exact oy [3,4] [4] fun D J w hG hs=>QaE (V:=.int .u16 o.qty) Qas hs 0 rfl rfl rfl (Zz hs)
  ·exact oy [3,5] [5] fun D J w hG hs=>QaS rfl rfl (Zz hs)
  ·exact oa [3,6] fun D J w hs=>Qa2 (h':=decide (o.qty=0)) rfl rfl rfl (Zz hs)
  ·exact oa [7] fun D J w hs=>Qad (V:=.bool ((decide (o.item=0))&&(decide (o.qty=0)))) rfl (Zz hs)
  rintro J1 w7 J2 hJ hs
  replace hJ:J2=upd (mix (sq 20 8++[2]) J1 _) 2 (.bool ((decide (o.item=0))&&(decide (o.qty=0)))):=hJ
  subst hJ
  refine Qav ?_
  refine ⟨_,Qar (V:=.bool ((decide (o.item=0))&&(decide (o.qty=0)))) Tryz.results151 rfl,(Zr hs (congrArg Value.bool ?_))⟩
  unfold Qb6
  have ⟨_,_,_,_,⟨hq1,hq2⟩,_,_⟩:=ho
  simp_all
  try omega
 replace c6:=QQ2 c6
 refine Qab (Qaa (QaS rfl rfl (Qaa (Qad (V:=.bool (decide (o.kind=5))) rfl (Qaf (Qao (t:=decide (o.kind=5)) rfl (fun c8=>?_) (fun c8=>?_)))))))
 ·
  replace c8:=QQ1 c8
  refine Qah (Qbh [some 20,some 21,some 22,some 23,some 24,some 25,some 26,some 27,some 2] [] [0,1,3,7,15,31,63,127,255] [pv (Pq b1 (0+4)),pv (I7 o.item),pv (.bool (decide (o.item=0))),pv (.bool (decide (o.item=0))),pg ((decide (o.item=0)) == true) (Pq b1 (0+5)),pg ((decide (o.item=0)) == true) (I7 o.qty),pg ((decide (o.item=0)) == true) (.bool (decide (o.qty=0))),pv (.bool ((decide (o.item=0))&&(decide (o.qty=0)))),pv (.bool ((decide (o.item=0))&&(decide (o.qty=0))))] (fun _ _=>_) [8] (by kernel_rfl) hs ⟨?_,?_,?_,?_,?_,?_,?_,?_,?_,trivial⟩ ?_)
  ·exact oa [] fun D J w hs=>Qae QcO rfl (Zz hs)
  ·exact oa [0] fun D J w hs=>QaE (V:=.int .u16 o.item) Qas hs 0 rfl rfl rfl (Zz hs)
  ·exact oa [1] fun D J w hs=>QaS rfl rfl (Zz hs)
  ·exact oa [2] fun D J w hs=>Qac (V:=.bool (decide (o.item=0))) rfl (Zz hs)
  ·exact og [3] fun D J w hG hs=>Qae Qdk rfl (Zz hs)
  ·exact oy [3,4] [4] fun D J w hG hs=>QaE (V:=.int .u16 o.qty) Qas hs 0 rfl rfl rfl (Zz hs)
  ·exact oy [3,5] [5] fun D J w hG hs=>QaS rfl rfl (Zz hs)
  ·exact oa [3,6] fun D J w hs=>Qa2 (h':=decide (o.qty=0)) rfl rfl rfl (Zz hs)
  ·exact oa [7] fun D J w hs=>Qad (V:=.bool ((decide (o.item=0))&&(decide (o.qty=0)))) rfl (Zz hs)
  rintro J1 w9 J2 hJ hs
  replace hJ:J2=upd (mix (sq 20 8++[2]) J1 _) 2 (.bool ((decide (o.item=0))&&(decide (o.qty=0)))):=hJ
  subst hJ
  refine Qav ?_
  refine ⟨_,Qar (V:=.bool ((decide (o.item=0))&&(decide (o.qty=0)))) Tryz.results151 rfl,(Zr hs (congrArg Value.bool ?_))⟩
  unfold Qb6
  have ⟨_,_,_,_,⟨hq1,hq2⟩,_,_⟩:=ho
  simp_all
  try omega
 replace c8:=QQ2 c8
 refine Qaq (Qah (Qab (Qaa (Qad (V:=.bool false) rfl (Qaf (Qav ?_))))))
 refine ⟨_,Qar (V:=.bool false) Tryz.results151 rfl,(Zr hs (congrArg Value.bool ?_))⟩
 unfold Qb6
 have ⟨_,_,_,_,⟨hq1,hq2⟩,_,_⟩:=ho
 simp_all
 try omega
theorem QoE (w:World) (o:Opn) (ho:Qdg o):Calls Tryz.prog 152 #[.agg (oc o).toArray] w (fun e w'=>e = .returned (.bool (Qb6 o))/\Own w no w' []):=by
 refine Qaj (n:=28) Tryz.func152 rfl Tryz.ntmps152 rfl ?_
 have hs:=Own.start w
 refine Qah (Qab (Qaa (QaR (V:=.agg (oc o).toArray) (cs:=oc o) rfl rfl hs fun b1 w2 hs=>(Qaa (Qad (V:=.bool false) rfl (Qaf (Qah (Qah (Qab (Qaa (Qae QbO rfl (Qaa (QaE (V:=.int .u8 o.kind) QcF hs 0 rfl rfl rfl (Qaf (Qan (Qah (Qab (Qaa (QaS rfl rfl (Qaa (Qad (V:=.bool (decide (o.kind=1))) rfl (Qaf (Qao (t:=decide (o.kind=1)) rfl (fun c3=>?_) (fun c3=>?_))))))))))))))))))))))))
 ·
  replace c3:=QQ1 c3
  refine Qah (Qab (Qaa (Qae Qdk rfl (Qaa (QaE (V:=I7 o.qty) Qas hs 0 rfl rfl rfl (Qaa (Qct rfl rfl (Qaa (Qad (V:=.bool (decide (1<=o.qty))) rfl (Qaf (Qav ?_)))))))))))
  refine ⟨_,Qar (V:=.bool (decide (1<=o.qty))) Tryz.results152 rfl,(Zr hs (congrArg Value.bool ?_))⟩
  unfold Qb6
  have ⟨_,_,_,_,⟨hq1,hq2⟩,_,_⟩:=ho
  simp_all
  try omega
 replace c3:=QQ2 c3
 refine Qah (Qab (Qaa (QaS rfl rfl (Qaa (Qad (V:=.bool (decide (o.kind=2))) rfl (Qaf (Qao (t:=decide (o.kind=2)) rfl (fun c4=>?_) (fun c4=>?_))))))))
 ·
  replace c4:=QQ1 c4
  refine Qah (Qab (Qaa (Qad (V:=.bool true) rfl (Qaf (Qav ?_)))))
  refine ⟨_,Qar (V:=.bool true) Tryz.results152 rfl,(Zr hs (congrArg Value.bool ?_))⟩
  unfold Qb6
  have ⟨_,_,_,_,⟨hq1,hq2⟩,_,_⟩:=ho
  simp_all
  try omega
 replace c4:=QQ2 c4
 refine Qah (Qab (Qaa (QaS rfl rfl (Qaa (Qad (V:=.bool (decide (o.kind=3))) rfl (Qaf (Qao (t:=decide (o.kind=3)) rfl (fun c5=>?_) (fun c5=>?_))))))))
 ·
  replace c5:=QQ1 c5
  refine Qah (Qab (Qaa (Qae Qdk rfl (Qaa (QaE (V:=I7 o.qty) Qas hs 0 rfl rfl rfl (Qaa (QaS rfl rfl (Qaa (Qad (V:=.bool (decide (o.qty=0))) rfl (Qaf (Qav ?_)))))))))))
  refine ⟨_,Qar (V:=.bool (decide (o.qty=0))) Tryz.results152 rfl,(Zr hs (congrArg Value.bool ?_))⟩
  unfold Qb6
  have ⟨_,_,_,_,⟨hq1,hq2⟩,_,_⟩:=ho
  simp_all
  try omega
 replace c5:=QQ2 c5
 refine Qah (Qah (Qab (Qaa (QaS rfl rfl (Qaa (Qad (V:=.bool (decide (o.kind=4))) rfl (Qaf (Qao (t:=decide (o.kind=4)) rfl (fun c6=>?_) (fun c6=>?_)))))))))
 ·
  replace c6:=QQ1 c6
  refine Qaq (Qdh (congrArg Value.bool (QQ3 c6)) ?_)
  refine Qah (Qbh [some 20,some 21,some 22,some 23,some 24,some 25,some 26,some 27,some 2] [] [0,1,3,7,15,31,63,127,255] [pv (Pq b1 (0+4)),pv (I7 o.item),pv (.bool (decide (o.item=0))),pv (.bool (decide (o.item=0))),pg ((decide (o.item=0)) == true) (Pq b1 (0+5)),pg ((decide (o.item=0)) == true) (I7 o.qty),pg ((decide (o.item=0)) == true) (.bool (decide (o.qty=0))),pv (.bool ((decide (o.item=0))&&(decide (o.qty=0)))),pv (.bool ((decide (o.item=0))&&(decide (o.qty=0))))] (fun _ _=>_) [8] (by kernel_rfl) hs ⟨?_,?_,?_,?_,?_,?_,?_,?_,?_,trivial⟩ ?_)
  ·exact oa [] fun D J w hs=>Qae QcO rfl (Zz hs)
  ·exact oa [0] fun D J w hs=>QaE (V:=.int .u16 o.item) Qas hs 0 rfl rfl rfl (Zz hs)
  ·exact oa [1] fun D J w hs=>QaS rfl rfl (Zz hs)
  ·exact oa [2] fun D J w hs=>Qac (V:=.bool (decide (o.item=0))) rfl (Zz hs)
  ·exact og [3] fun D J w hG hs=>Qae Qdk rfl (Zz hs)
  ·exact oy [3,4] [4] fun D J w hG hs=>QaE (V:=.int .u16 o.qty) Qas hs 0 rfl rfl rfl (Zz hs)
  ·exact oy [3,5] [5] fun D J w hG hs=>QaS rfl rfl (Zz hs)
  ·exact oa [3,6] fun D J w hs=>Qa2 (h':=decide (o.qty=0)) rfl rfl rfl (Zz hs)
  ·exact oa [7] fun D J w hs=>Qad (V:=.bool ((decide (o.item=0))&&(decide (o.qty=0)))) rfl (Zz hs)
  rintro J1 w7 J2 hJ hs
  replace hJ:J2=upd (mix (sq 20 8++[2]) J1 _) 2 (.bool ((decide (o.item=0))&&(decide (o.qty=0)))):=hJ
  subst hJ
  refine Qav ?_
  refine ⟨_,Qar (V:=.bool ((decide (o.item=0))&&(decide (o.qty=0)))) Tryz.results152 rfl,(Zr hs (congrArg Value.bool ?_))⟩
  unfold Qb6
  have ⟨_,_,_,_,⟨hq1,hq2⟩,_,_⟩:=ho
  simp_all
  try omega
 replace c6:=QQ2 c6
 refine Qab (Qaa (QaS rfl rfl (Qaa (Qad (V:=.bool (decide (o.kind=5))) rfl (Qaf (Qao (t:=decide (o.kind=5)) rfl (fun c8=>?_) (fun c8=>?_)))))))
 ·
  replace c8:=QQ1 c8
  refine Qah (Qbh [some 20,some 21,some 22,some 23,some 24,some 25,some 26,some 27,some 2] [] [0,1,3,7,15,31,63,127,255] [pv (Pq b1 (0+4)),pv (I7 o.item),pv (.bool (decide (o.item=0))),pv (.bool (decide (o.item=0))),pg ((decide (o.item=0)) == true) (Pq b1 (0+5)),pg ((decide (o.item=0)) == true) (I7 o.qty),pg ((decide (o.item=0)) == true) (.bool (decide (o.qty=0))),pv (.bool ((decide (o.item=0))&&(decide (o.qty=0)))),pv (.bool ((decide (o.item=0))&&(decide (o.qty=0))))] (fun _ _=>_) [8] (by kernel_rfl) hs ⟨?_,?_,?_,?_,?_,?_,?_,?_,?_,trivial⟩ ?_)
  ·exact oa [] fun D J w hs=>Qae QcO rfl (Zz hs)
  ·exact oa [0] fun D J w hs=>QaE (V:=.int .u16 o.item) Qas hs 0 rfl rfl rfl (Zz hs)
  ·exact oa [1] fun D J w hs=>QaS rfl rfl (Zz hs)
  ·exact oa [2] fun D J w hs=>Qac (V:=.bool (decide (o.item=0))) rfl (Zz hs)
  ·exact og [3] fun D J w hG hs=>Qae Qdk rfl (Zz hs)
  ·exact oy [3,4] [4] fun D J w hG hs=>QaE (V:=.int .u16 o.qty) Qas hs 0 rfl rfl rfl (Zz hs)
  ·exact oy [3,5] [5] fun D J w hG hs=>QaS rfl rfl (Zz hs)
  ·exact oa [3,6] fun D J w hs=>Qa2 (h':=decide (o.qty=0)) rfl rfl rfl (Zz hs)
  ·exact oa [7] fun D J w hs=>Qad (V:=.bool ((decide (o.item=0))&&(decide (o.qty=0)))) rfl (Zz hs)
  rintro J1 w9 J2 hJ hs
  replace hJ:J2=upd (mix (sq 20 8++[2]) J1 _) 2 (.bool ((decide (o.item=0))&&(decide (o.qty=0)))):=hJ
  subst hJ
  refine Qav ?_
  refine ⟨_,Qar (V:=.bool ((decide (o.item=0))&&(decide (o.qty=0)))) Tryz.results152 rfl,(Zr hs (congrArg Value.bool ?_))⟩
  unfold Qb6
  have ⟨_,_,_,_,⟨hq1,hq2⟩,_,_⟩:=ho
  simp_all
  try omega
 replace c8:=QQ2 c8
 refine Qaq (Qah (Qab (Qaa (Qad (V:=.bool false) rfl (Qaf (Qav ?_))))))
 refine ⟨_,Qar (V:=.bool false) Tryz.results152 rfl,(Zr hs (congrArg Value.bool ?_))⟩
 unfold Qb6
 have ⟨_,_,_,_,⟨hq1,hq2⟩,_,_⟩:=ho
 simp_all
 try omega
theorem QlY (w:World) (o:Opn) (n:Int) (hO:Qdg o):Calls Tryz.prog 103 #[.agg (oc o).toArray,.int .i64 n] w (fun e w'=>e = .returned (.bool (QaN o n))/\Own w no w' []):=by
 refine Qaj (n:=50) Tryz.func103 rfl Tryz.ntmps103 rfl ?_
 have hs:=Own.start w
 have ⟨⟨⟨hr1,hr2⟩,hr3,hr4⟩,_,_,_,⟨hq1,hq2⟩,_,hctx⟩:=hO
 refine Qah (Qab (Qaa (QaR (V:=.agg (oc o).toArray) (cs:=oc o) rfl rfl hs fun b1 w2 hs=>(Qaa (Qad (V:=.bool false) rfl (Qaf (Qah (Qah (Qbh [some 6,some 7,some 8,some 9,some 10,some 11,some 12,some 13,some 14,some 15,some 16,some 17,some 18,some 19,some 20,some 21,some 22,some 23,some 24,some 25,some 26,some 27,some 28] [] [0,1,0,7,15,31,63,127,255,511,63,2047,4095,8191,16383,32767,65535,131071,262143,524287,1048575,2097151,4194303] [pv (Pq b1 (0+7)),pv (.agg (vc o.ctx).toArray),pv (I6 n),pv (.bool (QaL o.ctx n)),pv (.bool (!(QaL o.ctx n))),pv (.bool (!(QaL o.ctx n))),pg ((!(QaL o.ctx n)) == false) (Pq b1 (0+0)),pg ((!(QaL o.ctx n)) == false) (Pq b1 (0+0+0)),pg ((!(QaL o.ctx n)) == false) (.int .u8 o.dot.rep),pg ((!(QaL o.ctx n)) == false) (I6 o.dot.rep),pg ((!(QaL o.ctx n)) == false) (I6 n),pg ((!(QaL o.ctx n)) == false) (.bool (decide (n<=o.dot.rep))),pv (.bool ((!(QaL o.ctx n))||(decide (n<=o.dot.rep)))),pv (.bool ((!(QaL o.ctx n))||(decide (n<=o.dot.rep)))),pg (((!(QaL o.ctx n))||(decide (n<=o.dot.rep))) == false) (Pq b1 (0+6)),pg (((!(QaL o.ctx n))||(decide (n<=o.dot.rep))) == false) (.int .u32 o.tick),pg (((!(QaL o.ctx n))||(decide (n<=o.dot.rep))) == false) (.bool (decide (1073741824<o.tick))),pv (.bool (((!(QaL o.ctx n))||(decide (n<=o.dot.rep)))||(decide (1073741824<o.tick)))),pv (.bool (((!(QaL o.ctx n))||(decide (n<=o.dot.rep)))||(decide (1073741824<o.tick)))),pg ((((!(QaL o.ctx n))||(decide (n<=o.dot.rep)))||(decide (1073741824<o.tick))) == false) (.agg (oc o).toArray),pg ((((!(QaL o.ctx n))||(decide (n<=o.dot.rep)))||(decide (1073741824<o.tick))) == false) (.bool (Qb6 o)),pg ((((!(QaL o.ctx n))||(decide (n<=o.dot.rep)))||(decide (1073741824<o.tick))) == false) (.bool (!(Qb6 o))),pv (.bool ((((!(QaL o.ctx n))||(decide (n<=o.dot.rep)))||(decide (1073741824<o.tick)))||(!(Qb6 o))))] (fun _ _=>_) [22] (by kernel_rfl) hs ⟨?_,?_,?_,?_,?_,?_,?_,?_,?_,?_,?_,?_,?_,?_,?_,?_,?_,?_,?_,?_,?_,?_,?_,trivial⟩ ?_)))))))))
 ·exact oa [] fun D J w hs=>Qae QdQ rfl (Zz hs)
 ·exact oa [0] fun D J w hs=>QbU (vs:=vc o.ctx) QbB hs 0 rfl rfl rfl rfl (Zz hs)
 ·exact oa [] fun D J w hs=>Qac (V:=.int .i64 n) rfl (Zz hs)
 ·exact oa [1,2] fun D J w hs=>Qat (vs:=[.agg (vc o.ctx).toArray,.int .i64 n]) (V:=.bool (QaL o.ctx n)) QqK rfl rfl (Qf8 _ o.ctx n (by first|assumption|exact Qb1)) hs fun _ hs=>Zz hs
 ·exact oa [3] fun D J w hs=>Qbw rfl (Zz hs)
 ·exact oa [4] fun D J w hs=>Qac (V:=.bool (!(QaL o.ctx n))) rfl (Zz hs)
 ·exact og [5] fun D J w hG hs=>Qae Qb0 rfl (Zz hs)
 ·exact oy [5,6] [6] fun D J w hG hs=>Qae QbE rfl (Zz hs)
 ·exact oy [5,7] [7] fun D J w hG hs=>QaE (V:=.int .u8 o.dot.rep) QcF hs 0 rfl rfl rfl (Zz hs)
 ·exact oy [5,8] [8] fun D J w hG hs=>Qb5 QvY QhS rfl (QbH (by omega) (by omega)) (Zz hs)
 ·exact og [5] fun D J w hG hs=>Qac (V:=.int .i64 n) rfl (Zz hs)
 ·exact oy [5,9,10] [9,10] fun D J w hG hs=>Qct rfl rfl (Zz hs)
 ·exact oa [5,11] fun D J w hs=>QbZ (h':=decide (n<=o.dot.rep)) rfl rfl rfl (Zz hs)
 ·exact oa [12] fun D J w hs=>Qac (V:=.bool ((!(QaL o.ctx n))||(decide (n<=o.dot.rep)))) rfl (Zz hs)
 ·exact og [13] fun D J w hG hs=>Qae QhO rfl (Zz hs)
 ·exact oy [13,14] [14] fun D J w hG hs=>QaE (V:=.int .u32 o.tick) QaY hs 0 rfl rfl rfl (Zz hs)
 ·exact oy [13,15] [15] fun D J w hG hs=>QbP rfl rfl (Zz hs)
 ·exact oa [13,16] fun D J w hs=>QbZ (h':=decide (1073741824<o.tick)) rfl rfl rfl (Zz hs)
 ·exact oa [17] fun D J w hs=>Qac (V:=.bool (((!(QaL o.ctx n))||(decide (n<=o.dot.rep)))||(decide (1073741824<o.tick)))) rfl (Zz hs)
 ·exact og [18] fun D J w hG hs=>QaJ (cs:=oc o) QbY hs 0 rfl rfl rfl (Zz hs)
 ·exact oy [18,19] [19] fun D J w hG hs=>Qat (vs:=[.agg (oc o).toArray]) (V:=.bool (Qb6 o)) Qt4 rfl rfl (Qpi _ o (by assumption)) hs fun _ hs=>Zz hs
 ·exact oy [18,20] [20] fun D J w hG hs=>Qbw rfl (Zz hs)
 ·exact oa [18,21] fun D J w hs=>QbZ (h':=!(Qb6 o)) rfl rfl rfl (Zz hs)
 rintro J1 w5 J2 hJ hs
 replace hJ:J2=upd (mix (sq 6 23) J1 _) 28 (.bool ((((!(QaL o.ctx n))||(decide (n<=o.dot.rep)))||(decide (1073741824<o.tick)))||(!(Qb6 o)))):=hJ
 subst hJ
 refine Qao (t:=(((!(QaL o.ctx n))||(decide (n<=o.dot.rep)))||(decide (1073741824<o.tick)))||(!(Qb6 o))) rfl (fun c6=>?_) (fun c6=>?_)
 ·
  refine Qah (Qab (Qaa (Qad (V:=.bool false) rfl (Qaf (Qav ?_)))))
  refine ⟨_,Qar (V:=.bool false) Tryz.results103 rfl,(Zr hs ?_)⟩
  exact congrArg Value.bool (Qn7 c6).symm
 have c6r:=Qfe c6
 replace c6:=Qfk c6
 have c6rr:=Qfe c6
 replace c6:=Qfk c6
 have c6rrr:=Qfe c6
 replace c6:=Qfk c6
 replace c6:=Qbf c6
 replace c6rrr:=QQ2 c6rrr
 replace c6rr:=QQ2 c6rr
 replace c6r:=Qbf c6r
 refine Qaq (Qah (Qab (Qaa (Qae Qb0 rfl (Qaa (QbU (vs:=dc o.dot) QcL hs 0 rfl rfl rfl rfl (Qaa (QaM (cs:=dc (⟨0,0⟩:Dot)) QuW rfl hs fun b7 w8 hs=>(Qaa (QcH (V:=.agg (dc o.dot).toArray) (vs:=dc o.dot) (cs':=dc o.dot) QcL.1 hs 1 rfl rfl rfl rfl rfl (QQ8 rfl) (Qsc _) (QaC rfl) fun w9 hs=>(Qaf (Qah ?_))))))))))))
 have hnn:=QhQ c6
 refine QaH HM [some 31,some 32,some 33,some 34,some 35,some 36,some 37,some 38,some 39,some 40,some 41,some 42,some 43,some 44,some 45,some 46,some 47,some 48,some 49,some 4] [] [0,1,3,7,15,31,63,127,255,511,1023,511,4095,8191,511,16895,49663,131071,262143,524287] [pv (Pq b7 (0+1)),pv (.int .u32 o.dot.seq),pv (.bool (decide (1<=o.dot.seq))),pv (.bool (decide (1<=o.dot.seq))),pg ((decide (1<=o.dot.seq)) == true) (Pq b7 (0+1)),pg ((decide (1<=o.dot.seq)) == true) (.int .u32 o.dot.seq),pg ((decide (1<=o.dot.seq)) == true) (.bool (decide (o.dot.seq<=1048576))),pv (.bool ((decide (1<=o.dot.seq))&&(decide (o.dot.seq<=1048576)))),pv (.bool ((decide (1<=o.dot.seq))&&(decide (o.dot.seq<=1048576)))),pg (((decide (1<=o.dot.seq))&&(decide (o.dot.seq<=1048576))) == true) (Pq b7 (0+0)),pg (((decide (1<=o.dot.seq))&&(decide (o.dot.seq<=1048576))) == true) (.int .u8 o.dot.rep),pg (((decide (1<=o.dot.seq))&&(decide (o.dot.seq<=1048576))) == true) (Pq b1 (0+7)),pg (((decide (1<=o.dot.seq))&&(decide (o.dot.seq<=1048576))) == true) (.pointer (some ⟨b1,0+7+o.dot.rep.toNat,none⟩)),pg (((decide (1<=o.dot.seq))&&(decide (o.dot.seq<=1048576))) == true) (.int .u32 (vat o.ctx o.dot.rep.toNat)),pg (((decide (1<=o.dot.seq))&&(decide (o.dot.seq<=1048576))) == true) (Pq b7 (0+1)),pg (((decide (1<=o.dot.seq))&&(decide (o.dot.seq<=1048576))) == true) (.int .u32 o.dot.seq),pg (((decide (1<=o.dot.seq))&&(decide (o.dot.seq<=1048576))) == true) (.int .u32 (o.dot.seq-1)),pg (((decide (1<=o.dot.seq))&&(decide (o.dot.seq<=1048576))) == true) (.bool (decide (vat o.ctx o.dot.rep.toNat=o.dot.seq-1))),pv (.bool (((decide (1<=o.dot.seq))&&(decide (o.dot.seq<=1048576)))&&(decide (vat o.ctx o.dot.rep.toNat=o.dot.seq-1)))),pv (.bool (((decide (1<=o.dot.seq))&&(decide (o.dot.seq<=1048576)))&&(decide (vat o.ctx o.dot.rep.toNat=o.dot.seq-1))))] (fun _ _=>_) [19] (by kernel_rfl) hs ⟨?_,?_,?_,?_,?_,?_,?_,?_,?_,?_,?_,?_,?_,?_,?_,?_,?_,?_,?_,?_,trivial⟩ ?_
 ·exact oa [] fun D J w hs=>Qae QbM rfl (Zz hs)
 ·exact oa [0] fun D J w hs=>QaE (V:=.int .u32 o.dot.seq) QaY hs 1 rfl rfl rfl (Zz hs)
 ·exact oa [1] fun D J w hs=>Qct rfl rfl (Zz hs)
 ·exact oa [2] fun D J w hs=>Qac (V:=.bool (decide (1<=o.dot.seq))) rfl (Zz hs)
 ·exact og [3] fun D J w hG hs=>Qae QbM rfl (Zz hs)
 ·exact oy [3,4] [4] fun D J w hG hs=>QaE (V:=.int .u32 o.dot.seq) QaY hs 1 rfl rfl rfl (Zz hs)
 ·exact oy [3,5] [5] fun D J w hG hs=>Qc6 rfl rfl (Zz hs)
 ·exact oa [3,6] fun D J w hs=>Qa2 (h':=decide (o.dot.seq<=1048576)) rfl rfl rfl (Zz hs)
 ·exact oa [7] fun D J w hs=>Qac (V:=.bool ((decide (1<=o.dot.seq))&&(decide (o.dot.seq<=1048576)))) rfl (Zz hs)
 ·refine og [8] fun D J w hG hs=>?_
  have hg9:=QbA (eq_of_beq hG)
  have hgd:=QQ1 hg9
  exact Qae QbE rfl (Zz hs)
 ·refine oy [8,9] [9] fun D J w hG hs=>?_
  have hg9:=QbA (eq_of_beq hG)
  have hgd:=QQ1 hg9
  exact QaE (V:=.int .u8 o.dot.rep) QcF hs 1 rfl rfl rfl (Zz hs)
 ·refine og [8] fun D J w hG hs=>?_
  have hg9:=QbA (eq_of_beq hG)
  have hgd:=QQ1 hg9
  exact Qae QdQ rfl (Zz hs)
 ·refine oy [8,10,11] [10,11] fun D J w hG hs=>?_
  have hg9:=QbA (eq_of_beq hG)
  have hgd:=QQ1 hg9
  exact QbT QeZ QaY.1 rfl rfl (by omega) (by omega) (Zz hs)
 ·refine oy [8,12] [12] fun D J w hG hs=>?_
  have hg9:=QbA (eq_of_beq hG)
  have hgd:=QQ1 hg9
  exact QaE (V:=.int .u32 (vat o.ctx o.dot.rep.toNat)) QaY hs 0 rfl rfl (Qqa (by omega) (by omega)) (Zz hs)
 ·refine og [8] fun D J w hG hs=>?_
  have hg9:=QbA (eq_of_beq hG)
  have hgd:=QQ1 hg9
  exact Qae QbM rfl (Zz hs)
 ·refine oy [8,14] [14] fun D J w hG hs=>?_
  have hg9:=QbA (eq_of_beq hG)
  have hgd:=QQ1 hg9
  exact QaE (V:=.int .u32 o.dot.seq) QaY hs 1 rfl rfl rfl (Zz hs)
 ·refine oy [8,15] [15] fun D J w hG hs=>?_
  have hg9:=QbA (eq_of_beq hG)
  have hgd:=QQ1 hg9
  exact Qa6 (a:=o.dot.seq) (b:=1) (c:=o.dot.seq-1) rfl rfl (Qfy (by omega) (by omega)) (Zz hs)
 ·refine oy [8,13,16] [13,16] fun D J w hG hs=>?_
  have hg9:=QbA (eq_of_beq hG)
  have hgd:=QQ1 hg9
  exact QaS rfl rfl (Zz hs)
 ·exact oa [8,17] fun D J w hs=>Qa2 (h':=decide (vat o.ctx o.dot.rep.toNat=o.dot.seq-1)) rfl rfl rfl (Zz hs)
 ·exact oa [18] fun D J w hs=>Qad (V:=.bool (((decide (1<=o.dot.seq))&&(decide (o.dot.seq<=1048576)))&&(decide (vat o.ctx o.dot.rep.toNat=o.dot.seq-1)))) rfl (Zz hs)
 rintro J1 w10 J2 hJ hs
 replace hJ:J2=upd (mix (sq 31 19++[4]) J1 _) 4 (.bool (((decide (1<=o.dot.seq))&&(decide (o.dot.seq<=1048576)))&&(decide (vat o.ctx o.dot.rep.toNat=o.dot.seq-1)))):=hJ
 subst hJ
 refine Qav ?_
 refine ⟨_,Qar (V:=.bool (((decide (1<=o.dot.seq))&&(decide (o.dot.seq<=1048576)))&&(decide (vat o.ctx o.dot.rep.toNat=o.dot.seq-1)))) Tryz.results103 rfl,(Zr hs ?_)⟩
 exact congrArg Value.bool (Qn0 c6 c6rrr c6rr c6r).symm
theorem Qlc (w:World) (o:Opn) (n:Int) (hO:Qdg o):Calls Tryz.prog 105 #[.agg (oc o).toArray,.int .i64 n] w (fun e w'=>e = .returned (.bool (QaN o n))/\Own w no w' []):=by
 refine Qaj (n:=52) Tryz.func105 rfl Tryz.ntmps105 rfl ?_
 have hs:=Own.start w
 have ⟨⟨⟨hr1,hr2⟩,hr3,hr4⟩,_,_,_,⟨hq1,hq2⟩,_,hctx⟩:=hO
 refine Qah (Qab (Qaa (QaR (V:=.agg (oc o).toArray) (cs:=oc o) rfl rfl hs fun b1 w2 hs=>(Qaa (Qad (V:=.bool false) rfl (Qaf (Qah (Qah (Qbh [some 5,some 6,some 7,some 8,some 9,some 10,some 11,some 12,some 13,some 14,some 15,some 16,some 17,some 18,some 19,some 20,some 21,some 22,some 23,some 24,some 25,some 26,some 27,some 28,some 29,some 30,some 31] [] [0,1,3,7,15,31,63,127,255,511,1023,127,4095,8191,16383,32767,65535,131071,262143,524287,1048575,2097151,4194303,2097151,16777215,33554431,67108863] [pv (I6 n),pv (.bool (decide (n<1))),pv (.bool (decide (n<1))),pg ((decide (n<1)) == false) (I6 n),pg ((decide (n<1)) == false) (.bool (decide (16<n))),pv (.bool ((decide (n<1))||(decide (16<n)))),pv (.bool ((decide (n<1))||(decide (16<n)))),pg (((decide (n<1))||(decide (16<n))) == false) (Pq b1 (0+0)),pg (((decide (n<1))||(decide (16<n))) == false) (Pq b1 (0+0+0)),pg (((decide (n<1))||(decide (16<n))) == false) (.int .u8 o.dot.rep),pg (((decide (n<1))||(decide (16<n))) == false) (I6 o.dot.rep),pg (((decide (n<1))||(decide (16<n))) == false) (I6 n),pg (((decide (n<1))||(decide (16<n))) == false) (.bool (decide (n<=o.dot.rep))),pv (.bool (((decide (n<1))||(decide (16<n)))||(decide (n<=o.dot.rep)))),pv (.bool (((decide (n<1))||(decide (16<n)))||(decide (n<=o.dot.rep)))),pg ((((decide (n<1))||(decide (16<n)))||(decide (n<=o.dot.rep))) == false) (Pq b1 (0+0)),pg ((((decide (n<1))||(decide (16<n)))||(decide (n<=o.dot.rep))) == false) (.agg (dc o.dot).toArray),pg ((((decide (n<1))||(decide (16<n)))||(decide (n<=o.dot.rep))) == false) (.bool (Qb8 o.dot)),pg ((((decide (n<1))||(decide (16<n)))||(decide (n<=o.dot.rep))) == false) (.bool (!(Qb8 o.dot))),pv (.bool ((((decide (n<1))||(decide (16<n)))||(decide (n<=o.dot.rep)))||(!(Qb8 o.dot)))),pv (.bool ((((decide (n<1))||(decide (16<n)))||(decide (n<=o.dot.rep)))||(!(Qb8 o.dot)))),pg (((((decide (n<1))||(decide (16<n)))||(decide (n<=o.dot.rep)))||(!(Qb8 o.dot))) == false) (Pq b1 (0+7)),pg (((((decide (n<1))||(decide (16<n)))||(decide (n<=o.dot.rep)))||(!(Qb8 o.dot))) == false) (.agg (vc o.ctx).toArray),pg (((((decide (n<1))||(decide (16<n)))||(decide (n<=o.dot.rep)))||(!(Qb8 o.dot))) == false) (I6 n),pg (((((decide (n<1))||(decide (16<n)))||(decide (n<=o.dot.rep)))||(!(Qb8 o.dot))) == false) (.bool (QaL o.ctx n)),pg (((((decide (n<1))||(decide (16<n)))||(decide (n<=o.dot.rep)))||(!(Qb8 o.dot))) == false) (.bool (!(QaL o.ctx n))),pv (.bool (((((decide (n<1))||(decide (16<n)))||(decide (n<=o.dot.rep)))||(!(Qb8 o.dot)))||(!(QaL o.ctx n))))] (fun _ _=>_) [26] (by kernel_rfl) hs ⟨?_,?_,?_,?_,?_,?_,?_,?_,?_,?_,?_,?_,?_,?_,?_,?_,?_,?_,?_,?_,?_,?_,?_,?_,?_,?_,?_,trivial⟩ ?_)))))))))
 ·exact oa [] fun D J w hs=>Qac (V:=.int .i64 n) rfl (Zz hs)
 ·exact oa [0] fun D J w hs=>QaQ rfl rfl (Zz hs)
 ·exact oa [1] fun D J w hs=>Qac (V:=.bool (decide (n<1))) rfl (Zz hs)
 ·exact og [2] fun D J w hG hs=>Qac (V:=.int .i64 n) rfl (Zz hs)
 ·exact oy [2,3] [3] fun D J w hG hs=>QbP rfl rfl (Zz hs)
 ·exact oa [2,4] fun D J w hs=>QbZ (h':=decide (16<n)) rfl rfl rfl (Zz hs)
 ·exact oa [5] fun D J w hs=>Qac (V:=.bool ((decide (n<1))||(decide (16<n)))) rfl (Zz hs)
 ·exact og [6] fun D J w hG hs=>Qae Qb0 rfl (Zz hs)
 ·exact oy [6,7] [7] fun D J w hG hs=>Qae QbE rfl (Zz hs)
 ·exact oy [6,8] [8] fun D J w hG hs=>QaE (V:=.int .u8 o.dot.rep) QcF hs 0 rfl rfl rfl (Zz hs)
 ·exact oy [6,9] [9] fun D J w hG hs=>Qb5 QvY QhS rfl (QbH (by omega) (by omega)) (Zz hs)
 ·exact og [6] fun D J w hG hs=>Qac (V:=.int .i64 n) rfl (Zz hs)
 ·exact oy [6,10,11] [10,11] fun D J w hG hs=>Qct rfl rfl (Zz hs)
 ·exact oa [6,12] fun D J w hs=>QbZ (h':=decide (n<=o.dot.rep)) rfl rfl rfl (Zz hs)
 ·exact oa [13] fun D J w hs=>Qac (V:=.bool (((decide (n<1))||(decide (16<n)))||(decide (n<=o.dot.rep)))) rfl (Zz hs)
 ·exact og [14] fun D J w hG hs=>Qae Qb0 rfl (Zz hs)
 ·exact oy [14,15] [15] fun D J w hG hs=>QbU (vs:=dc o.dot) QcL hs 0 rfl rfl rfl rfl (Zz hs)
 ·exact oy [14,16] [16] fun D J w hG hs=>Qat (vs:=[.agg (dc o.dot).toArray]) (V:=.bool (Qb8 o.dot)) QpU rfl rfl (Qnq _ o.dot) hs fun _ hs=>Zz hs
 ·exact oy [14,17] [17] fun D J w hG hs=>Qbw rfl (Zz hs)
 ·exact oa [14,18] fun D J w hs=>QbZ (h':=!(Qb8 o.dot)) rfl rfl rfl (Zz hs)
 ·exact oa [19] fun D J w hs=>Qac (V:=.bool ((((decide (n<1))||(decide (16<n)))||(decide (n<=o.dot.rep)))||(!(Qb8 o.dot)))) rfl (Zz hs)
 ·exact og [20] fun D J w hG hs=>Qae QdQ rfl (Zz hs)
 ·exact oy [20,21] [21] fun D J w hG hs=>QbU (vs:=vc o.ctx) QbB hs 0 rfl rfl rfl rfl (Zz hs)
 ·exact og [20] fun D J w hG hs=>Qac (V:=.int .i64 n) rfl (Zz hs)
 ·exact oy [20,22,23] [22,23] fun D J w hG hs=>Qat (vs:=[.agg (vc o.ctx).toArray,.int .i64 n]) (V:=.bool (QaL o.ctx n)) QqE rfl rfl (Qf5 _ o.ctx n (by first|assumption|exact Qb1)) hs fun _ hs=>Zz hs
 ·exact oy [20,24] [24] fun D J w hG hs=>Qbw rfl (Zz hs)
 ·exact oa [20,25] fun D J w hs=>QbZ (h':=!(QaL o.ctx n)) rfl rfl rfl (Zz hs)
 rintro J1 w5 J2 hJ hs
 replace hJ:J2=upd (mix (sq 5 27) J1 _) 31 (.bool (((((decide (n<1))||(decide (16<n)))||(decide (n<=o.dot.rep)))||(!(Qb8 o.dot)))||(!(QaL o.ctx n)))):=hJ
 subst hJ
 refine Qao (t:=((((decide (n<1))||(decide (16<n)))||(decide (n<=o.dot.rep)))||(!(Qb8 o.dot)))||(!(QaL o.ctx n))) rfl (fun c6=>?_) (fun c6=>?_)
 ·
  refine Qah (Qab (Qaa (Qad (V:=.bool false) rfl (Qaf (Qav ?_)))))
  refine ⟨_,Qar (V:=.bool false) Tryz.results105 rfl,(Zr hs ?_)⟩
  exact congrArg Value.bool (Qmx c6).symm
 have c6r:=Qfe c6
 replace c6:=Qfk c6
 have c6rr:=Qfe c6
 replace c6:=Qfk c6
 have c6rrr:=Qfe c6
 replace c6:=Qfk c6
 have c6rrrr:=Qfe c6
 replace c6:=Qfk c6
 replace c6:=QQ2 c6
 replace c6rrrr:=QQ2 c6rrrr
 replace c6rrr:=QQ2 c6rrr
 replace c6rr:=Qbf c6rr
 replace c6r:=Qbf c6r
 refine Qaq (Qah ?_)
 have hnn:=QhQ c6r
 have hdd:=QaO c6rr
 refine QaH HM [some 32,some 33,some 34,some 35,some 36,some 37,some 38,some 39,some 40,some 41,some 42,some 43,some 44,some 45,some 46,some 47,some 48,some 49,some 50,some 51,some 4] [] [0,1,3,0,15,31,0,64,192,448,1023,2047,4095,8191,16383,32767,65535,131071,262143,524287,1048575] [pv (Pq b1 (0+0)),pv (Pq b1 (0+0+0)),pv (.int .u8 o.dot.rep),pv (Pq b1 (0+7)),pv (.pointer (some ⟨b1,0+7+o.dot.rep.toNat,none⟩)),pv (.int .u32 (vat o.ctx o.dot.rep.toNat)),pv (Pq b1 (0+0)),pv (Pq b1 (0+0+1)),pv (.int .u32 o.dot.seq),pv (.int .u32 (o.dot.seq-1)),pv (.bool (decide (vat o.ctx o.dot.rep.toNat=o.dot.seq-1))),pv (.bool (decide (vat o.ctx o.dot.rep.toNat=o.dot.seq-1))),pg ((decide (vat o.ctx o.dot.rep.toNat=o.dot.seq-1)) == true) (Pq b1 (0+6)),pg ((decide (vat o.ctx o.dot.rep.toNat=o.dot.seq-1)) == true) (.int .u32 o.tick),pg ((decide (vat o.ctx o.dot.rep.toNat=o.dot.seq-1)) == true) (.bool (decide (o.tick<=1073741824))),pv (.bool ((decide (vat o.ctx o.dot.rep.toNat=o.dot.seq-1))&&(decide (o.tick<=1073741824)))),pv (.bool ((decide (vat o.ctx o.dot.rep.toNat=o.dot.seq-1))&&(decide (o.tick<=1073741824)))),pg (((decide (vat o.ctx o.dot.rep.toNat=o.dot.seq-1))&&(decide (o.tick<=1073741824))) == true) (.agg (oc o).toArray),pg (((decide (vat o.ctx o.dot.rep.toNat=o.dot.seq-1))&&(decide (o.tick<=1073741824))) == true) (.bool (Qb6 o)),pv (.bool (((decide (vat o.ctx o.dot.rep.toNat=o.dot.seq-1))&&(decide (o.tick<=1073741824)))&&(Qb6 o))),pv (.bool (((decide (vat o.ctx o.dot.rep.toNat=o.dot.seq-1))&&(decide (o.tick<=1073741824)))&&(Qb6 o)))] (fun _ _=>_) [20] (by kernel_rfl) hs ⟨?_,?_,?_,?_,?_,?_,?_,?_,?_,?_,?_,?_,?_,?_,?_,?_,?_,?_,?_,?_,?_,trivial⟩ ?_
 ·exact oa [] fun D J w hs=>Qae Qb0 rfl (Zz hs)
 ·exact oa [0] fun D J w hs=>Qae QbE rfl (Zz hs)
 ·exact oa [1] fun D J w hs=>QaE (V:=.int .u8 o.dot.rep) QcF hs 0 rfl rfl rfl (Zz hs)
 ·exact oa [] fun D J w hs=>Qae QdQ rfl (Zz hs)
 ·exact oa [2,3] fun D J w hs=>QbT QeZ QaY.1 rfl rfl (by omega) (by omega) (Zz hs)
 ·exact oa [4] fun D J w hs=>QaE (V:=.int .u32 (vat o.ctx o.dot.rep.toNat)) QaY hs 0 rfl rfl (Qqa (by omega) (by omega)) (Zz hs)
 ·exact oa [] fun D J w hs=>Qae Qb0 rfl (Zz hs)
 ·exact oa [6] fun D J w hs=>Qae QbM rfl (Zz hs)
 ·exact oa [7] fun D J w hs=>QaE (V:=.int .u32 o.dot.seq) QaY hs 0 rfl rfl rfl (Zz hs)
 ·exact oa [8] fun D J w hs=>Qa6 (a:=o.dot.seq) (b:=1) (c:=o.dot.seq-1) rfl rfl (Qfy (by omega) (by omega)) (Zz hs)
 ·exact oa [5,9] fun D J w hs=>QaS rfl rfl (Zz hs)
 ·exact oa [10] fun D J w hs=>Qac (V:=.bool (decide (vat o.ctx o.dot.rep.toNat=o.dot.seq-1))) rfl (Zz hs)
 ·exact og [11] fun D J w hG hs=>Qae QhO rfl (Zz hs)
 ·exact oy [11,12] [12] fun D J w hG hs=>QaE (V:=.int .u32 o.tick) QaY hs 0 rfl rfl rfl (Zz hs)
 ·exact oy [11,13] [13] fun D J w hG hs=>Qc6 rfl rfl (Zz hs)
 ·exact oa [11,14] fun D J w hs=>Qa2 (h':=decide (o.tick<=1073741824)) rfl rfl rfl (Zz hs)
 ·exact oa [15] fun D J w hs=>Qac (V:=.bool ((decide (vat o.ctx o.dot.rep.toNat=o.dot.seq-1))&&(decide (o.tick<=1073741824)))) rfl (Zz hs)
 ·exact og [16] fun D J w hG hs=>QaJ (cs:=oc o) QbY hs 0 rfl rfl rfl (Zz hs)
 ·exact oy [16,17] [17] fun D J w hG hs=>Qat (vs:=[.agg (oc o).toArray]) (V:=.bool (Qb6 o)) QtF rfl rfl (QoE _ o (by assumption)) hs fun _ hs=>Zz hs
 ·exact oa [16,18] fun D J w hs=>Qa2 (h':=Qb6 o) rfl rfl rfl (Zz hs)
 ·exact oa [19] fun D J w hs=>Qad (V:=.bool (((decide (vat o.ctx o.dot.rep.toNat=o.dot.seq-1))&&(decide (o.tick<=1073741824)))&&(Qb6 o))) rfl (Zz hs)
 rintro J1 w8 J2 hJ hs
 replace hJ:J2=upd (mix (sq 32 20++[4]) J1 _) 4 (.bool (((decide (vat o.ctx o.dot.rep.toNat=o.dot.seq-1))&&(decide (o.tick<=1073741824)))&&(Qb6 o))):=hJ
 subst hJ
 refine Qav ?_
 refine ⟨_,Qar (V:=.bool (((decide (vat o.ctx o.dot.rep.toNat=o.dot.seq-1))&&(decide (o.tick<=1073741824)))&&(Qb6 o))) Tryz.results105 rfl,(Zr hs ?_)⟩
 exact congrArg Value.bool (QlX c6rrr c6rr c6r).symm
end Tt
end Go.Proofs
namespace Go.Proofs
open Go Go.Vx Go.RowKit
namespace Tt
theorem Qml (w:World) (p:Pst) (a1:Option Addr) (c1:Nat) (a2:Option Addr) (c2:Nat) (a3:Option Addr) (c3:Nat) (hok:QcW p) (hle:p.base.ents.length<=400) (hlt:p.base.ticks.length<=400) (hlo:p.ops.length<=400) (hr1:Rd w (.slice a1 p.base.ents.length c1) 7 (p.base.ents.map cec)) (hr2:Rd w (.slice a2 p.base.ticks.length c2) 2 (p.base.ticks.map lsc)) (hr3:Rd w (.slice a3 p.ops.length c3) 23 (p.ops.map oc)):Calls Tryz.prog 59 #[.agg (((vc p.base.known)++[(.slice a1 p.base.ents.length c1:Value),(.slice a2 p.base.ticks.length c2:Value) ])++[(.slice a3 p.ops.length c3:Value) ]++(vc p.known)).toArray] w (fun e w'=>e = .returned (.bool (Qb2 p))/\Own w no w' []):=by
 refine Qaj (n:=45) Tryz.func59 rfl Tryz.ntmps59 rfl ?_
 have hs:=Own.start w
 have ⟨hokb,hoko,hokk⟩:=hok
 have hn3:=hr3.sml
 refine Qah (Qab (Qaa (QaR (V:=.agg (((vc p.base.known)++[(.slice a1 p.base.ents.length c1:Value),(.slice a2 p.base.ticks.length c2:Value) ])++[(.slice a3 p.ops.length c3:Value) ]++(vc p.known)).toArray) (cs:=((vc p.base.known)++[(.slice a1 p.base.ents.length c1:Value),(.slice a2 p.base.ticks.length c2:Value) ])++[(.slice a3 p.ops.length c3:Value) ]++(vc p.known)) rfl rfl hs fun b1 w2 hs=>(Qaa (Qad (V:=.bool false) rfl (Qaf (Qah (Qab (Qaa (Qgs rfl hs dv uv fun mr3 w4 hs=>(Qaa (Qad (V:=.map (some mr3)) rfl (Qaf (Qah (Qah (Qab (Qaa (Qae QlU rfl (Qaa (QaE (V:=.slice a3 p.ops.length c3) Qfh hs 0 rfl rfl rfl (Qaa (Qa4 (n:=p.ops.length) QdK (Rd.own' hr3 hs) (by simp) rfl (Qaa (Qac (V:=I6 0) rfl (Qaf (Qan (QaA (fun J μ J' w'=>∃ (Jo:Env) (k:Nat) (sm:List (Dot × Unit)),J'=upd (mix ([2,5,6,7]++sq 12 30) Jo J) 12 (I6 (k:Int))/\(k<=p.ops.length)/\(∀ j:Nat,j<k->Qhv p.base.known p.ops j=false)/\(sm=Qik (p.ops.take k))/\μ=p.ops.length-k/\Own w no w' [blk b1 (((vc p.base.known)++[(.slice a1 p.base.ents.length c1:Value),(.slice a2 p.base.ticks.length c2:Value) ])++[(.slice a3 p.ops.length c3:Value) ]++(vc p.known)) 43,QgP mr3 dv uv sm]) ?_ ?_)))))))))))))))))))))))))))
 ·exact ⟨_,_,0,[],Qai (Qap (ds:=([2,5,6,7]++sq 12 30)) (Agr.refl _ _)) rfl,(by omega),(fun j hj=>absurd hj (Nat.not_lt_zero j)),rfl,rfl,hs⟩
 rintro μ J' w5 ⟨Jo,k,sm,rfl,hk,hbo,hsm,rfl,hs⟩
 refine Qah (Qab (Qaa (QaQ rfl rfl (Qaf (Qah (Qao (t:=decide ((k:Int)<((p.ops.length:Nat):Int))) rfl (fun c6=>?_) (fun c6=>?_)))))))
 ·
  replace c6:=QQ1 c6
  refine Qaq (Qah (Qan (Qah (Qab (Qaa (Qax QdK QbY.1 (Rd.own' hr3 hs) rfl rfl (by omega) (by rw [QQ6];omega) (Qaa (Qa5 (j:=0) (vs:=oc (gd p.ops k)) k QbY (Rd.own' hr3 hs) (QaW (by omega)) rfl rfl rfl (by omega) (Qaa (QaM (cs:=oc (⟨(⟨0,0⟩:Dot),0,0,0,0,0,vzero⟩:Opn)) Ql9 rfl hs fun b7 w8 hs=>(Qaa (QcH (V:=.agg (oc (gd p.ops k)).toArray) (vs:=oc (gd p.ops k)) (cs':=oc (gd p.ops k)) QbY.1 hs 2 rfl rfl rfl rfl rfl (QQ8 rfl) (Qep _) (QaC rfl) fun w9 hs=>?_))))))))))))
  replace hs:Own w no w9 [blk b1 (((vc p.base.known)++[(.slice a1 p.base.ents.length c1:Value),(.slice a2 p.base.ticks.length c2:Value) ])++[(.slice a3 p.ops.length c3:Value) ]++(vc p.known)) 43,QgP mr3 dv uv sm,blk b7 (oc (gd p.ops k)) 98]:=hs
  refine Qaf (Qah ?_)
  have hOk:=hoko _ (QbK (l:=p.ops) (i:=k) (by omega))
  have hdk:=hOk.1
  refine Qab (Qaa (Qac (V:=.map (some mr3)) rfl (Qaa (Qae Qb0 rfl (Qaa (QbU (vs:=dc ((gd p.ops k).dot)) QcL hs 2 rfl rfl rfl rfl (Qaa (QfZ (k:=(gd p.ops k).dot) QjR QoP QjX (hs.mapf 1 rfl) rfl rfl (Qaa (Qac (V:=.tuple #[.agg #[],.bool ((mget ((gd p.ops k).dot) sm).isSome)]) rfl (Qaa (Qay (V:=.agg #[]) rfl rfl (Qaa (Qay (V:=.bool ((mget ((gd p.ops k).dot) sm).isSome)) rfl rfl (Qaa (QaM (cs:=[]) QjX rfl hs fun b10 w11 hs=>(Qaa (QcH (V:=.agg #[]) (vs:=[]) (cs':=[]) QpK.1 hs 3 rfl rfl rfl rfl rfl (QQ8 rfl) Qbg (QaC rfl) fun w12 hs=>(Qaa (Qad (V:=.bool ((mget ((gd p.ops k).dot) sm).isSome)) rfl (Qaf (Qah (Qah (Qbh [some 23,some 24,some 25,some 26,some 27,some 28,some 29,some 30,some 31,some 32,some 33,some 34,some 35,some 36] [] [0,1,3,7,15,31,63,127,255,511,127,1151,4095,8191] [pv (.bool ((mget ((gd p.ops k).dot) sm).isSome)),pv (.bool ((mget ((gd p.ops k).dot) sm).isSome)),pg (((mget ((gd p.ops k).dot) sm).isSome) == false) (.agg (oc (gd p.ops k)).toArray),pg (((mget ((gd p.ops k).dot) sm).isSome) == false) (.bool (QaN (gd p.ops k) 16)),pg (((mget ((gd p.ops k).dot) sm).isSome) == false) (.bool (!(QaN (gd p.ops k) 16))),pv (.bool (((mget ((gd p.ops k).dot) sm).isSome)||(!(QaN (gd p.ops k) 16)))),pv (.bool (((mget ((gd p.ops k).dot) sm).isSome)||(!(QaN (gd p.ops k) 16)))),pg ((((mget ((gd p.ops k).dot) sm).isSome)||(!(QaN (gd p.ops k) 16))) == false) (Pq b1 (0+0)),pg ((((mget ((gd p.ops k).dot) sm).isSome)||(!(QaN (gd p.ops k) 16))) == false) (Pq b1 (0+0+0)),pg ((((mget ((gd p.ops k).dot) sm).isSome)||(!(QaN (gd p.ops k) 16))) == false) (.agg (vc p.base.known).toArray),pg ((((mget ((gd p.ops k).dot) sm).isSome)||(!(QaN (gd p.ops k) 16))) == false) (Pq b7 (0+0)),pg ((((mget ((gd p.ops k).dot) sm).isSome)||(!(QaN (gd p.ops k) 16))) == false) (.agg (dc ((gd p.ops k).dot)).toArray),pg ((((mget ((gd p.ops k).dot) sm).isSome)||(!(QaN (gd p.ops k) 16))) == false) (.bool (Qby p.base.known ((gd p.ops k).dot))),pv (.bool ((((mget ((gd p.ops k).dot) sm).isSome)||(!(QaN (gd p.ops k) 16)))||(Qby p.base.known ((gd p.ops k).dot))))] (fun _ _=>_) [13] (by kernel_rfl) hs ⟨?_,?_,?_,?_,?_,?_,?_,?_,?_,?_,?_,?_,?_,?_,trivial⟩ ?_))))))))))))))))))))))))
  ·exact oa [] fun D J w hs=>Qac (V:=.bool ((mget ((gd p.ops k).dot) sm).isSome)) rfl (Zz hs)
  ·exact oa [0] fun D J w hs=>Qac (V:=.bool ((mget ((gd p.ops k).dot) sm).isSome)) rfl (Zz hs)
  ·exact og [1] fun D J w hG hs=>QaJ (cs:=oc (gd p.ops k)) QbY hs 2 rfl rfl rfl (Zz hs)
  ·exact oy [1,2] [2] fun D J w hG hs=>Qat (vs:=[.agg (oc (gd p.ops k)).toArray,.int .i64 16]) (V:=.bool (QaN (gd p.ops k) 16)) QtP rfl rfl (QlY _ (gd p.ops k) 16 (by assumption)) hs fun _ hs=>Zz hs
  ·exact oy [1,3] [3] fun D J w hG hs=>Qbw rfl (Zz hs)
  ·exact oa [1,4] fun D J w hs=>QbZ (h':=!(QaN (gd p.ops k) 16)) rfl rfl rfl (Zz hs)
  ·exact oa [5] fun D J w hs=>Qac (V:=.bool (((mget ((gd p.ops k).dot) sm).isSome)||(!(QaN (gd p.ops k) 16)))) rfl (Zz hs)
  ·exact og [6] fun D J w hG hs=>Qae QfU rfl (Zz hs)
  ·exact oy [6,7] [7] fun D J w hG hs=>Qae QhG rfl (Zz hs)
  ·exact oy [6,8] [8] fun D J w hG hs=>QbU (vs:=vc p.base.known) QbB hs 0 rfl rfl rfl rfl (Zz hs)
  ·exact og [6] fun D J w hG hs=>Qae Qb0 rfl (Zz hs)
  ·exact oy [6,10] [10] fun D J w hG hs=>QbU (vs:=dc ((gd p.ops k).dot)) QcL hs 2 rfl rfl rfl rfl (Zz hs)
  ·exact oy [6,9,11] [9,11] fun D J w hG hs=>Qat (vs:=[.agg (vc p.base.known).toArray,.agg (dc ((gd p.ops k).dot)).toArray]) (V:=.bool (Qby p.base.known ((gd p.ops k).dot))) Qoh rfl rfl (QhL _ p.base.known ((gd p.ops k).dot) (by first|assumption|exact Qde (by omega) (by omega) (by omega) (by omega))) hs fun _ hs=>Zz hs
  ·exact oa [6,12] fun D J w hs=>QbZ (h':=Qby p.base.known ((gd p.ops k).dot)) rfl rfl rfl (Zz hs)
  rintro J1 w15 J2 hJ hs
  replace hJ:J2=upd (mix (sq 23 14) J1 _) 36 (.bool ((((mget ((gd p.ops k).dot) sm).isSome)||(!(QaN (gd p.ops k) 16)))||(Qby p.base.known ((gd p.ops k).dot)))):=hJ
  subst hJ
  refine Qao (t:=(((mget ((gd p.ops k).dot) sm).isSome)||(!(QaN (gd p.ops k) 16)))||(Qby p.base.known ((gd p.ops k).dot))) rfl (fun c16=>?_) (fun c16=>?_)
  ·
   refine Qah (Qab (Qaa (Qad (V:=.bool false) rfl (Qaf (Qav ?_)))))
   refine ⟨_,Qar (V:=.bool false) Tryz.results59 rfl,(Zr hs (congrArg Value.bool (Qeb (i:=k) (by omega) ?_).symm))⟩
   unfold Qhv
   rw [← QiM,← hsm]
   have hq:=c16
   revert hq
   cases QaN (gd p.ops k) 16<;>cases Qby p.base.known (gd p.ops k).dot<;>cases (mget (gd p.ops k).dot sm).isSome<;>simp
  have c16r:=Qfe c16
  replace c16:=Qfk c16
  have c16rr:=Qfe c16
  replace c16:=Qfk c16
  replace c16rr:=Qbf c16rr
  refine Qaq (Qab (Qaa (Qac (V:=.map (some mr3)) rfl (Qaa (Qae Qb0 rfl (Qaa (QbU (vs:=dc ((gd p.ops k).dot)) QcL hs 2 rfl rfl rfl rfl (Qaa (Qbx (vs:=[]) (cs:=[]) Qp3 (rfl) rfl (Qaa (QfT (k:=(gd p.ops k).dot) (v:=()) QjR QoP hs 1 rfl rfl rfl rfl fun w17 hs=>(Qaf (Qab (Qaa (QaD (a:=(k:Int)) (b:=1) (c:=((k+1:Nat):Int)) rfl rfl (Qak (by omega) (by omega)) (Qaa (Qac (V:=I6 ((k+1:Nat):Int)) rfl (Qaf ?_))))))))))))))))))
  have hbk:Qhv p.base.known p.ops k=false:=by
   unfold Qhv
   rw [c16rr,c16r,← QiM,← hsm,c16];rfl
  refine ⟨_,?_,_,k+1,mput ((gd p.ops k).dot) () sm,Qai (Qap (ds:=([2,5,6,7]++sq 12 30)) (by repeat (first|exact Agr.refl _ _|refine Agr.upd ?_ rfl|refine Agr.mix ?_ rfl))) rfl,(by omega),(Qcb hbo hbk),(by rw [Qld (by omega),← hsm]),rfl,hs.take 2⟩
  omega
 replace c6:=QQ2 c6
 refine QaG (Qah (Qab (Qaa (Qae QfU rfl (Qaa (QbU (vs:=(vc p.base.known)++[(.slice a1 p.base.ents.length c1:Value),(.slice a2 p.base.ticks.length c2:Value) ]) QcD hs 0 rfl rfl rfl rfl (Qaa (Qat (vs:=[.agg ((vc p.base.known)++[(.slice a1 p.base.ents.length c1:Value),(.slice a2 p.base.ticks.length c2:Value) ]).toArray]) (V:=.bool (Qam p.base)) QrU rfl rfl ?hc hs fun w18 hs=>?_))))))))
 case hc=>exact (Qgv _ p.base a1 c1 a2 c2 hokb (by omega) (by omega) (Rd.own' hr1 hs) (Rd.own' hr2 hs))
 refine Qaa (Qad (V:=.bool (Qam p.base)) rfl (Qaf (Qav ?_)))
 refine ⟨_,Qar (V:=.bool (Qam p.base)) Tryz.results59 rfl,(Zr hs ?_)⟩
 exact congrArg Value.bool (Qgq fun j hj=>hbo j (by omega)).symm
theorem Qmq (w:World) (p:Pst) (a1:Option Addr) (c1:Nat) (a2:Option Addr) (c2:Nat) (a3:Option Addr) (c3:Nat) (cut:Vec) (hcut:QbW cut) (hok:QcW p) (hle:p.base.ents.length<=400) (hlt:p.base.ticks.length<=400) (hlo:p.ops.length<=400) (hr1:Rd w (.slice a1 p.base.ents.length c1) 7 (p.base.ents.map cec)) (hr2:Rd w (.slice a2 p.base.ticks.length c2) 2 (p.base.ticks.map lsc)) (hr3:Rd w (.slice a3 p.ops.length c3) 23 (p.ops.map oc)):Calls Tryz.prog 17 #[.agg (((vc p.base.known)++[(.slice a1 p.base.ents.length c1:Value),(.slice a2 p.base.ticks.length c2:Value) ])++[(.slice a3 p.ops.length c3:Value) ]++(vc p.known)).toArray,.agg (vc cut).toArray] w (fun e w'=>e = .returned (.int .i64 (Qbc p cut))/\Own w no w' []):=by
 refine Qaj (n:=26) Tryz.func17 rfl Tryz.ntmps17 rfl ?_
 have hs:=Own.start w
 have ⟨hokb,hoko,hokk⟩:=hok
 refine Qah (Qab (Qaa (QaR (V:=.agg (((vc p.base.known)++[(.slice a1 p.base.ents.length c1:Value),(.slice a2 p.base.ticks.length c2:Value) ])++[(.slice a3 p.ops.length c3:Value) ]++(vc p.known)).toArray) (cs:=((vc p.base.known)++[(.slice a1 p.base.ents.length c1:Value),(.slice a2 p.base.ticks.length c2:Value) ])++[(.slice a3 p.ops.length c3:Value) ]++(vc p.known)) rfl rfl hs fun b1 w2 hs=>(Qaa (QaR (V:=.agg (vc cut).toArray) (cs:=vc cut) rfl rfl hs fun b3 w4 hs=>(Qaa (Qad (V:=I6 0) rfl (Qaf (Qah (Qan (Qah (Qab (Qaa (QaJ (cs:=((vc p.base.known)++[(.slice a1 p.base.ents.length c1:Value),(.slice a2 p.base.ticks.length c2:Value) ])++[(.slice a3 p.ops.length c3:Value) ]++(vc p.known)) QeH hs 0 rfl rfl rfl (Qaa (Qat (vs:=[.agg (((vc p.base.known)++[(.slice a1 p.base.ents.length c1:Value),(.slice a2 p.base.ticks.length c2:Value) ])++[(.slice a3 p.ops.length c3:Value) ]++(vc p.known)).toArray]) (V:=.bool (Qb2 p)) Qvk rfl rfl ?hc hs fun w5 hs=>?_))))))))))))))))
 case hc=>exact (Qml _ p a1 c1 a2 c2 a3 c3 hok hle hlt hlo (Rd.own' hr1 hs) (Rd.own' hr2 hs) (Rd.own' hr3 hs))
 refine Qaa (Qbw rfl (Qaa (Qad (V:=.bool (!(Qb2 p))) rfl (Qaf (Qao (t:=!(Qb2 p)) rfl (fun c6=>?_) (fun c6=>?_))))))
 ·
  replace c6:=Qbp c6
  refine Qah (Qab (Qaa (Qad (V:=I6 2) rfl (Qaf (Qav ?_)))))
  refine ⟨_,Qar (V:=I6 2) Tryz.results17 rfl,(Zr hs (congrArg (Value.int .i64) ?_))⟩
  unfold Qbc
  rw [c6];rfl
 replace c6:=Qbf c6
 refine Qah (Qab (Qaa (QaJ (cs:=vc cut) QbB hs 1 rfl rfl rfl (Qaa (Qat (vs:=[.agg (vc cut).toArray,I6 16]) (V:=.bool (QaL cut 16)) QqK rfl rfl ?hc hs fun w7 hs=>?_)))))
 case hc=>exact (Qf8 _ cut 16 (by first|assumption|exact Qb1))
 refine Qaa (Qbw rfl (Qaa (Qad (V:=.bool (!(QaL cut 16))) rfl (Qaf (Qao (t:=!(QaL cut 16)) rfl (fun c8=>?_) (fun c8=>?_))))))
 ·
  replace c8:=Qbp c8
  refine Qah (Qab (Qaa (Qad (V:=I6 13) rfl (Qaf (Qav ?_)))))
  refine ⟨_,Qar (V:=I6 13) Tryz.results17 rfl,(Zr hs (congrArg (Value.int .i64) ?_))⟩
  unfold Qbc
  rw [c6,c8];rfl
 replace c8:=Qbf c8
 refine Qah (Qab (Qaa (QaJ (cs:=vc cut) QbB hs 1 rfl rfl rfl (Qaa (Qae Qra rfl (Qaa (QbU (vs:=vc p.known) QbB hs 0 rfl rfl rfl rfl (Qaa (Qat (vs:=[.agg (vc cut).toArray,.agg (vc p.known).toArray]) (V:=.bool (vle cut p.known)) Qrh rfl rfl ?hc hs fun w9 hs=>?_)))))))))
 case hc=>exact (Qgb _ cut p.known)
 refine Qaa (Qbw rfl (Qaa (Qad (V:=.bool (!(vle cut p.known))) rfl (Qaf (Qao (t:=!(vle cut p.known)) rfl (fun c10=>?_) (fun c10=>?_))))))
 ·
  replace c10:=Qbp c10
  refine Qah (Qab (Qaa (Qad (V:=I6 11) rfl (Qaf (Qav ?_)))))
  refine ⟨_,Qar (V:=I6 11) Tryz.results17 rfl,(Zr hs (congrArg (Value.int .i64) ?_))⟩
  unfold Qbc
  rw [c6,c8,c10];rfl
 replace c10:=Qbf c10
 refine Qah (Qab (Qaa (Qae QfU rfl (Qaa (Qae QhG rfl (Qaa (QbU (vs:=vc p.base.known) QbB hs 0 rfl rfl rfl rfl (Qaa (QaJ (cs:=vc cut) QbB hs 1 rfl rfl rfl (Qaa (Qat (vs:=[.agg (vc p.base.known).toArray,.agg (vc cut).toArray]) (V:=.bool (vle p.base.known cut)) Qrh rfl rfl ?hc hs fun w11 hs=>?_)))))))))))
 case hc=>exact (Qgb _ p.base.known cut)
 refine Qaa (Qbw rfl (Qaa (Qad (V:=.bool (!(vle p.base.known cut))) rfl (Qaf (Qao (t:=!(vle p.base.known cut)) rfl (fun c12=>?_) (fun c12=>?_))))))
 ·
  replace c12:=Qbp c12
  refine Qah (Qab (Qaa (Qad (V:=I6 12) rfl (Qaf (Qav ?_)))))
  refine ⟨_,Qar (V:=I6 12) Tryz.results17 rfl,(Zr hs (congrArg (Value.int .i64) ?_))⟩
  unfold Qbc
  rw [c6,c8,c10,c12];rfl
 replace c12:=Qbf c12
 refine Qaq (Qah (Qab (Qaa (Qad (V:=I6 0) rfl (Qaf (Qav ?_))))))
 refine ⟨_,Qar (V:=I6 0) Tryz.results17 rfl,(Zr hs (congrArg (Value.int .i64) ?_))⟩
 unfold Qbc
 rw [c6,c8,c10,c12];rfl
end Tt
end Go.Proofs
namespace Go.Proofs
open Go Go.Vx Go.RowKit
namespace Tt
theorem QoH (w:World) (x:Cen):Calls Tryz.prog 47 #[.agg (cec x).toArray] w (fun e w'=>e = .returned (.agg (oc (Qbj x)).toArray)/\Own w no w' []):=by
 refine Qaj (n:=14) Tryz.func47 rfl Tryz.ntmps47 rfl ?_
 have hs:=Own.start w
 refine Qah (Qab (Qaa (QaR (V:=.agg (cec x).toArray) (cs:=cec x) rfl rfl hs fun b1 w2 hs=>(Qaa (QaM (cs:=oc (⟨(⟨0,0⟩:Dot),0,0,0,0,0,vzero⟩:Opn)) Ql9 rfl hs fun b3 w4 hs=>(Qaf (Qah (Qab (Qaa (Qae QbJ rfl (Qaa (QbU (vs:=dc x.dot) QcL hs 0 rfl rfl rfl rfl (Qaa (Qae Qe0 rfl (Qaa (QaE (V:=.int .u8 x.kind) QcF hs 0 rfl rfl rfl (Qaa (Qae QdJ rfl (Qaa (QaE (V:=I7 x.cart) Qas hs 0 rfl rfl rfl (Qaa (Qae QdA rfl (Qaa (QaE (V:=I7 x.item) Qas hs 0 rfl rfl rfl (Qaa (Qae QeS rfl (Qaa (QaE (V:=I7 x.qty) Qas hs 0 rfl rfl rfl (Qaa (Qcz (vs:=[(0,.agg (dc x.dot).toArray),(1,.int .u8 x.kind),(2,I7 x.cart),(3,I7 x.item),(4,I7 x.qty)]) (cs:=oc (⟨x.dot,x.kind,x.cart,x.item,x.qty,0,vzero⟩:Opn)) [dc (⟨0,0⟩:Dot),[(.int .u8 0:Value)],[(I7 0:Value)],[(I7 0:Value)],[(I7 0:Value)],[(.int .u32 0:Value)],vc vzero] [dc x.dot,[(.int .u8 x.kind:Value)],[(I7 x.cart:Value)],[(I7 x.item:Value)],[(I7 x.qty:Value)],[(.int .u32 0:Value)],vc vzero] Qqt rfl (rfl) rfl rfl (Qaa (QcH (V:=.agg (oc (⟨x.dot,x.kind,x.cart,x.item,x.qty,0,vzero⟩:Opn)).toArray) (vs:=oc (⟨x.dot,x.kind,x.cart,x.item,x.qty,0,vzero⟩:Opn)) (cs':=oc (⟨x.dot,x.kind,x.cart,x.item,x.qty,0,vzero⟩:Opn)) QbY.1 hs 1 rfl rfl rfl rfl rfl (QQ8 rfl) (Qep _) (QaC rfl) fun w5 hs=>(Qaf (Qav ?_))))))))))))))))))))))))))))))))))
 refine ⟨_,QcA (cs:=oc (⟨x.dot,x.kind,x.cart,x.item,x.qty,0,vzero⟩:Opn)) Tryz.results47 QbY hs 1 rfl rfl rfl,(Zr hs ?_)⟩
 rfl
theorem QnI (w:World) (x:Cen):Calls Tryz.prog 53 #[.agg (cec x).toArray] w (fun e w'=>e = .returned (.agg (oc (Qbj x)).toArray)/\Own w no w' []):=by
 refine Qaj (n:=14) Tryz.func53 rfl Tryz.ntmps53 rfl ?_
 have hs:=Own.start w
 refine Qah (Qab (Qaa (QaR (V:=.agg (cec x).toArray) (cs:=cec x) rfl rfl hs fun b1 w2 hs=>(Qaa (QaM (cs:=oc (⟨(⟨0,0⟩:Dot),0,0,0,0,0,vzero⟩:Opn)) Ql9 rfl hs fun b3 w4 hs=>(Qaf (Qah (Qab (Qaa (Qae QbI rfl (Qaa (QbU (vs:=dc x.dot) QcL hs 0 rfl rfl rfl rfl (Qaa (Qae Qeg rfl (Qaa (QaE (V:=.int .u8 x.kind) QcF hs 0 rfl rfl rfl (Qaa (Qae Qdc rfl (Qaa (QaE (V:=I7 x.cart) Qas hs 0 rfl rfl rfl (Qaa (Qae QfN rfl (Qaa (QaE (V:=I7 x.item) Qas hs 0 rfl rfl rfl (Qaa (Qae Qe7 rfl (Qaa (QaE (V:=I7 x.qty) Qas hs 0 rfl rfl rfl (Qaa (Qcz (vs:=[(0,.agg (dc x.dot).toArray),(1,.int .u8 x.kind),(2,I7 x.cart),(3,I7 x.item),(4,I7 x.qty)]) (cs:=oc (⟨x.dot,x.kind,x.cart,x.item,x.qty,0,vzero⟩:Opn)) [dc (⟨0,0⟩:Dot),[(.int .u8 0:Value)],[(I7 0:Value)],[(I7 0:Value)],[(I7 0:Value)],[(.int .u32 0:Value)],vc vzero] [dc x.dot,[(.int .u8 x.kind:Value)],[(I7 x.cart:Value)],[(I7 x.item:Value)],[(I7 x.qty:Value)],[(.int .u32 0:Value)],vc vzero] Qqt rfl (rfl) rfl rfl (Qaa (QcH (V:=.agg (oc (⟨x.dot,x.kind,x.cart,x.item,x.qty,0,vzero⟩:Opn)).toArray) (vs:=oc (⟨x.dot,x.kind,x.cart,x.item,x.qty,0,vzero⟩:Opn)) (cs':=oc (⟨x.dot,x.kind,x.cart,x.item,x.qty,0,vzero⟩:Opn)) QbY.1 hs 1 rfl rfl rfl rfl rfl (QQ8 rfl) (Qep _) (QaC rfl) fun w5 hs=>(Qaf (Qav ?_))))))))))))))))))))))))))))))))))
 refine ⟨_,QcA (cs:=oc (⟨x.dot,x.kind,x.cart,x.item,x.qty,0,vzero⟩:Opn)) Tryz.results53 QbY hs 1 rfl rfl rfl,(Zr hs ?_)⟩
 rfl
theorem order_ok (w:World) (x y:Cen):Calls Tryz.prog 49 #[.agg (cec x).toArray,.agg (cec y).toArray] w (fun e w'=>e = .returned (.int .i64 (Qcu x y))/\Own w no w' []):=by
 refine Qaj (n:=26) Tryz.func49 rfl Tryz.ntmps49 rfl ?_
 have hs:=Own.start w
 refine Qah (Qab (Qaa (QaR (V:=.agg (cec x).toArray) (cs:=cec x) rfl rfl hs fun b1 w2 hs=>(Qaa (QaR (V:=.agg (cec y).toArray) (cs:=cec y) rfl rfl hs fun b3 w4 hs=>(Qaa (Qad (V:=I6 0) rfl (Qaf (Qah ?_)))))))))
 replace hs:=hs.more emp trivial
 refine QaH HM [some 5,some 6,some 7,some 8,some 9,some 10,some 11,some 12,some 13,some 14,some 15,some 16,some 17,some 18,some 19,some 20,some 21,some 22,some 23,some 24,some 25,some 4] [[],[],[],[],[],[],[],[],[],[],[],[],[],[],[],[],[],[],[],[24]] [0,1,0,4,15,0,32,96,0,256,768,2047,0,4096,12288,0,32768,98304,262143,524287,1048575,2097151] [pv (Pq b1 (0+0)),pv (I7 x.cart),pv (Pq b3 (0+0)),pv (I7 y.cart),pv (I6 (Qa3 x.cart y.cart)),pv (Pq b1 (0+4)),pv (Pq b1 (0+4+0)),pv (.int .u8 x.dot.rep),pv (Pq b3 (0+4)),pv (Pq b3 (0+4+0)),pv (.int .u8 y.dot.rep),pv (I6 (Qa3 x.dot.rep y.dot.rep)),pv (Pq b1 (0+4)),pv (Pq b1 (0+4+1)),pv (.int .u32 x.dot.seq),pv (Pq b3 (0+4)),pv (Pq b3 (0+4+1)),pv (.int .u32 y.dot.seq),pv (I6 (Qa3 x.dot.seq y.dot.seq)),(true,fun J=>.slice (some ⟨(bOf (J 24)),0,none⟩) 3 3),pv (I6 (orI [Qa3 x.cart y.cart,Qa3 x.dot.rep y.dot.rep,Qa3 x.dot.seq y.dot.seq])),pv (I6 (orI [Qa3 x.cart y.cart,Qa3 x.dot.rep y.dot.rep,Qa3 x.dot.seq y.dot.seq]))] (fun D J=>[blk b1 (cec x) 106,blk b3 (cec y) 106,cond (D 19) (row (.slice (some ⟨(bOf (J 24)),0,none⟩) 3 3) ([Qa3 x.cart y.cart,Qa3 x.dot.rep y.dot.rep,Qa3 x.dot.seq y.dot.seq].map (ic .i64)) 3 1) (emp)]) [21] (by kernel_rfl) hs ⟨?_,?_,?_,?_,?_,?_,?_,?_,?_,?_,?_,?_,?_,?_,?_,?_,?_,?_,?_,?_,?_,?_,trivial⟩ ?_
 ·exact oa [] fun D J w hs=>Qae QdJ rfl (Zz hs)
 ·exact oa [0] fun D J w hs=>QaE (V:=.int .u16 x.cart) Qas hs 0 rfl rfl rfl (Zz hs)
 ·exact oa [] fun D J w hs=>Qae QdJ rfl (Zz hs)
 ·exact oa [2] fun D J w hs=>QaE (V:=.int .u16 y.cart) Qas hs 1 rfl rfl rfl (Zz hs)
 ·exact oa [1,3] fun D J w hs=>Qat (vs:=[.int .u16 x.cart,.int .u16 y.cart]) (V:=.int .i64 (Qa3 x.cart y.cart)) Qoz rfl rfl (QcT _ x.cart y.cart) hs fun _ hs=>Zz hs
 ·exact oa [] fun D J w hs=>Qae QbJ rfl (Zz hs)
 ·exact oa [5] fun D J w hs=>Qae QbE rfl (Zz hs)
 ·exact oa [6] fun D J w hs=>QaE (V:=.int .u8 x.dot.rep) QcF hs 0 rfl rfl rfl (Zz hs)
 ·exact oa [] fun D J w hs=>Qae QbJ rfl (Zz hs)
 ·exact oa [8] fun D J w hs=>Qae QbE rfl (Zz hs)
 ·exact oa [9] fun D J w hs=>QaE (V:=.int .u8 y.dot.rep) QcF hs 1 rfl rfl rfl (Zz hs)
 ·exact oa [7,10] fun D J w hs=>Qat (vs:=[.int .u8 x.dot.rep,.int .u8 y.dot.rep]) (V:=.int .i64 (Qa3 x.dot.rep y.dot.rep)) QqR rfl rfl (Qd5 _ x.dot.rep y.dot.rep) hs fun _ hs=>Zz hs
 ·exact oa [] fun D J w hs=>Qae QbJ rfl (Zz hs)
 ·exact oa [12] fun D J w hs=>Qae QbM rfl (Zz hs)
 ·exact oa [13] fun D J w hs=>QaE (V:=.int .u32 x.dot.seq) QaY hs 0 rfl rfl rfl (Zz hs)
 ·exact oa [] fun D J w hs=>Qae QbJ rfl (Zz hs)
 ·exact oa [15] fun D J w hs=>Qae QbM rfl (Zz hs)
 ·exact oa [16] fun D J w hs=>QaE (V:=.int .u32 y.dot.seq) QaY hs 1 rfl rfl rfl (Zz hs)
 ·exact oa [14,17] fun D J w hs=>Qat (vs:=[.int .u32 x.dot.seq,.int .u32 y.dot.seq]) (V:=.int .i64 (Qa3 x.dot.seq y.dot.seq)) Qrz rfl rfl (QdI _ x.dot.seq y.dot.seq) hs fun _ hs=>Zz hs
 ·exact oa [4,11,18] fun D J w hs=>Qfb (vals:=[.int .i64 (Qa3 x.cart y.cart),.int .i64 (Qa3 x.dot.rep y.dot.rep),.int .i64 (Qa3 x.dot.seq y.dot.seq)]) (ls:=List.map (ic .i64) ([Qa3 x.cart y.cart,Qa3 x.dot.rep y.dot.rep,Qa3 x.dot.seq y.dot.seq]:List Int)) Qlu rfl rfl rfl (Qbd (enc:=(ic .i64)) (fun _=>rfl) _) (QaK (Qev .i64) _) (QQ8 rfl) hs fun _ _ hs=>⟨rfl,hs.put 2 (QQ8 rfl)⟩
 ·exact oa [19] fun D J w hs=>Qat (vs:=[.slice (some ⟨(bOf (J 24)),0,none⟩) 3 3]) (V:=.int .i64 (orI [Qa3 x.cart y.cart,Qa3 x.dot.rep y.dot.rep,Qa3 x.dot.seq y.dot.seq])) Qqz rfl rfl (QrN _ (some ⟨(bOf (J 24)),0,none⟩) 3 [Qa3 x.cart y.cart,Qa3 x.dot.rep y.dot.rep,Qa3 x.dot.seq y.dot.seq] (hs.rd 2 rfl)) hs fun _ hs=>Zz hs
 ·exact oa [20] fun D J w hs=>Qad (V:=.int .i64 (orI [Qa3 x.cart y.cart,Qa3 x.dot.rep y.dot.rep,Qa3 x.dot.seq y.dot.seq])) rfl (Zz hs)
 rintro J1 w10 J2 hJ hs
 replace hJ:J2=upd (mix (sq 5 21++[4]) J1 _) 4 (I6 (orI [Qa3 x.cart y.cart,Qa3 x.dot.rep y.dot.rep,Qa3 x.dot.seq y.dot.seq])):=hJ
 replace hs:Own w no w10 [blk b1 (cec x) 106,blk b3 (cec y) 106,row (.slice (some ⟨(bOf (J1 24)),0,none⟩) 3 3) ([Qa3 x.cart y.cart,Qa3 x.dot.rep y.dot.rep,Qa3 x.dot.seq y.dot.seq].map (ic .i64)) 3 1]:=hs
 generalize (bOf (J1 24))=b11 at hs
 subst hJ
 refine Qav ?_
 refine ⟨_,Qar (V:=I6 (orI [Qa3 x.cart y.cart,Qa3 x.dot.rep y.dot.rep,Qa3 x.dot.seq y.dot.seq])) Tryz.results49 rfl,(Zr hs ?_)⟩
 rfl
theorem QjV (w:World) (b:Bool):Calls Tryz.prog 106 #[.bool b] w (fun e w'=>e = .returned (.int .u32 (QeN b))/\Own w no w' []):=by
 refine Qaj (n:=4) Tryz.func106 rfl Tryz.ntmps106 rfl ?_
 have hs:=Own.start w
 refine Qah (Qab (Qaa (Qad (V:=.int .u32 0) rfl (Qaf (Qah (Qah (Qab (Qaa (Qac (V:=.bool b) rfl (Qaf (Qao (t:=b) rfl (fun c1=>?_) (fun c1=>?_))))))))))))
 ·
  refine Qah (Qab (Qaa (Qad (V:=.int .u32 1) rfl (Qaf (Qav ?_)))))
  refine ⟨_,Qar (V:=.int .u32 1) Tryz.results106 rfl,(Zr hs ?_)⟩
  cases b<;>simp_all [QeN]
 refine Qaq (Qah (Qab (Qaa (Qad (V:=.int .u32 0) rfl (Qaf (Qav ?_))))))
 refine ⟨_,Qar (V:=.int .u32 0) Tryz.results106 rfl,(Zr hs ?_)⟩
 cases b<;>simp_all [QeN]
end Tt
end Go.Proofs
namespace Go.Proofs
open Go Go.Vx Go.RowKit
namespace Tt
theorem QoW (w:World) (a:Option Addr) (c:Nat) (l:List Opn) (g:Nat) (caps:List Value) (hg:En Tryz.prog g) (p:Opn->Bool) (hp:∀ (w1:World) (L1:List Res),Own w no w1 L1->∀ x∈l,Calls Tryz.prog g ([(.agg (oc x).toArray:Value)]++caps).toArray w1 (fun e w'=>e = .returned (.bool (p x))/\Own w1 no w' [])) (hr:Rd w (.slice a l.length c) 23 (l.map oc)):Calls Tryz.prog 89 #[.slice a l.length c,.func (.func g) #[] caps.toArray] w (fun e w'=>e = .returned (.int .i64 (QeC p l))/\Own w no w' []):=by
 refine Qaj (n:=19) Tryz.func89 rfl Tryz.ntmps89 rfl ?_
 have hs:=Own.start w
 have hn:=hr.sml
 refine Qah (Qab (Qaa (Qad (V:=I6 0) rfl (Qaf (Qah (Qah (Qab (Qaa (Qac (V:=.slice a l.length c) rfl (Qaa (Qa4 (n:=l.length) QdK (Rd.own' hr hs) (by simp) rfl (Qaa (Qac (V:=I6 0) rfl (Qaf (Qan (QaA (fun J μ J' w'=>∃ (Jo:Env) (k:Nat),J'=upd (mix ([4,5]++sq 8 11) Jo J) 8 (I6 (k:Int))/\(k<=l.length)/\(∀ j:Nat,j<k->p (gd l j)=false)/\μ=l.length-k/\Own w no w' []) ?_ ?_))))))))))))))))
 ·exact ⟨_,_,0,Qai (Qap (ds:=([4,5]++sq 8 11)) (Agr.refl _ _)) rfl,(by omega),(fun j hj=>absurd hj (Nat.not_lt_zero j)),rfl,hs⟩
 rintro μ J' w1 ⟨Jo,k,rfl,hk,hno,rfl,hs⟩
 refine Qah (Qab (Qaa (QaQ rfl rfl (Qaf (Qah (Qao (t:=decide ((k:Int)<((l.length:Nat):Int))) rfl (fun c2=>?_) (fun c2=>?_)))))))
 ·
  replace c2:=QQ1 c2
  refine Qaq (Qah (Qan (Qah (Qab (Qaa (Qac (V:=I6 (k:Int)) rfl (Qaa (Qad (V:=I6 (k:Int)) rfl (Qaf (Qah (Qab (Qaa (Qac (V:=.func (.func g) #[] caps.toArray) rfl (Qaa (Qac (V:=.slice a l.length c) rfl (Qaa (Qac (V:=I6 (k:Int)) rfl (Qaa (Qax QdK QbY.1 (Rd.own' hr hs) rfl rfl (by omega) (by rw [QQ6];omega) (Qaa (Qa5 (j:=0) (vs:=oc (gd l k)) k QbY (Rd.own' hr hs) (QaW (by omega)) rfl rfl rfl (by omega) (Qaa (Qgg (vs:=[.agg (oc (gd l k)).toArray]) (cs:=caps) (V:=.bool (p (gd l k))) hg rfl rfl (hp _ _ hs (gd l k) (QbK (by omega))) hs fun w3 hs=>(Qaf (Qao (t:=p (gd l k)) rfl (fun c4=>?_) (fun c4=>?_))))))))))))))))))))))))))
  ·
   refine Qah (Qab (Qaa (Qac (V:=I6 (k:Int)) rfl (Qaa (Qad (V:=I6 (k:Int)) rfl (Qaf (Qav ?_)))))))
   refine ⟨_,Qar (V:=I6 (k:Int)) Tryz.results89 rfl,(Zr hs ?_)⟩
   exact congrArg (Value.int .i64) (Qjv (by omega) hno c4).symm
  refine Qaq (Qab (Qaa (QaD (a:=(k:Int)) (b:=1) (c:=(k:Int)+1) rfl rfl (QbH (by omega) (by omega)) (Qaa (Qac (V:=I6 ((k:Int)+1)) rfl (Qaf ?_))))))
  refine ⟨_,?_,_,k+1,Qai (Qap (ds:=([4,5]++sq 8 11)) (by repeat (first|exact Agr.refl _ _|refine Agr.upd ?_ rfl|refine Agr.mix ?_ rfl))) rfl,(by omega),(Qcb hno c4),rfl,hs.take 0⟩
  omega
 replace c2:=QQ2 c2
 refine QaG (Qah (Qab (Qaa (Qad (V:=I6 (-1)) rfl (Qaf (Qav ?_))))))
 refine ⟨_,Qar (V:=I6 (-1)) Tryz.results89 rfl,(Zr hs ?_)⟩
 exact congrArg (Value.int .i64) (QlD fun j hj=>hno j (by omega)).symm
theorem Qon (w:World) (a:Option Addr) (c:Nat) (l:List Opn) (g:Nat) (caps:List Value) (hg:En Tryz.prog g) (p:Opn->Bool) (hp:∀ (w1:World) (L1:List Res),Own w no w1 L1->∀ x∈l,Calls Tryz.prog g ([(.agg (oc x).toArray:Value)]++caps).toArray w1 (fun e w'=>e = .returned (.bool (p x))/\Own w1 no w' [])) (hr:Rd w (.slice a l.length c) 23 (l.map oc)):Calls Tryz.prog 44 #[.slice a l.length c,.func (.func g) #[] caps.toArray] w (fun e w'=>e = .returned (.bool (l.any p))/\Own w no w' []):=by
 refine Qaj (n:=9) Tryz.func44 rfl Tryz.ntmps44 rfl ?_
 have hs:=Own.start w
 have hn:=hr.sml
 refine Qah (Qab (Qaa (Qad (V:=.bool false) rfl (Qaf (Qah (Qab (Qaa (Qac (V:=.slice a l.length c) rfl (Qaa (Qac (V:=.func (.func g) #[] caps.toArray) rfl (Qaa (Qat (vs:=[.slice a l.length c,.func (.func g) #[] caps.toArray]) (V:=I6 (QeC p l)) QuE rfl rfl ?hc hs fun w1 hs=>?_))))))))))))
 case hc=>exact (QoW _ a c l g caps hg p (fun w1 L1 h=>hp w1 _ (hs.call h)) (Rd.own' hr hs))
 refine Qaa (Qct rfl rfl (Qaa (Qad (V:=.bool (decide (0<=QeC p l))) rfl (Qaf (Qav ?_)))))
 refine ⟨_,Qar (V:=.bool (decide (0<=QeC p l))) Tryz.results44 rfl,(Zr hs ?_)⟩
 exact congrArg Value.bool QrL
theorem QkJ (w:World) (o:Opn) (x:Cen) (bx:Nat) (hx:QcU x.dot) (hc:Qcf w bx (cec x)):Calls Tryz.prog 45 #[.agg (oc o).toArray,.pointer (some ⟨bx,0,none⟩)] w (fun e w'=>e = .returned (.bool (QaU o (Qbj x)))/\Own w no w' []):=by
 refine Qaj (n:=8) Tryz.func45 rfl Tryz.ntmps45 rfl ?_
 have hs:=Own.start w
 refine Qah (Qab (Qaa (QaR (V:=.agg (oc o).toArray) (cs:=oc o) rfl rfl hs fun b1 w2 hs=>(Qaa (Qad (V:=.bool false) rfl (Qaf (Qah (QaH HM [some 4,some 5,some 6,some 7,some 3] [] [0,0,2,7,15] [pv (.agg (oc o).toArray),pv (.agg (cec x).toArray),pv (.agg (oc (Qbj x)).toArray),pv (.bool (QaU o (Qbj x))),pv (.bool (QaU o (Qbj x)))] (fun _ _=>_) [4] (by kernel_rfl) hs ⟨?_,?_,?_,?_,?_,trivial⟩ ?_))))))))
 ·exact oa [] fun D J w hs=>QaJ (cs:=oc o) QbY hs 0 rfl rfl rfl (Zz hs)
 ·exact oa [] fun D J w hs=>QpZ (vs:=cec x) QaF (hc.own' hs) rfl rfl rfl (Zz hs)
 ·exact oa [1] fun D J w hs=>Qat (vs:=[.agg (cec x).toArray]) (V:=.agg (oc (Qbj x)).toArray) Qvj rfl rfl (QoH _ x) hs fun _ hs=>Zz hs
 ·exact oa [0,2] fun D J w hs=>Qat (vs:=[.agg (oc o).toArray,.agg (oc (Qbj x)).toArray]) (V:=.bool (QaU o (Qbj x))) QvQ rfl rfl (Qoq _ o (Qbj x) hx) hs fun _ hs=>Zz hs
 ·exact oa [3] fun D J w hs=>Qad (V:=.bool (QaU o (Qbj x))) rfl (Zz hs)
 rintro J1 w5 J2 hJ hs
 replace hJ:J2=upd (mix [4,5,6,7,3] J1 _) 3 (.bool (QaU o (Qbj x))):=hJ
 subst hJ
 refine Qav ?_
 refine ⟨_,Qar (V:=.bool (QaU o (Qbj x))) Tryz.results45 rfl,(Zr hs ?_)⟩
 rfl
theorem Qmw (w:World) (x:Cen) (bx:Nat) (a:Option Addr) (c:Nat) (l:List Opn) (hx:QcU x.dot) (hc:Qcf w bx [(.slice a l.length c:Value)]) (hr:Rd w (.slice a l.length c) 23 (l.map oc)):Calls Tryz.prog 43 #[.agg (cec x).toArray,.pointer (some ⟨bx,0,none⟩)] w (fun e w'=>e = .returned (.bool (l.any fun o=>QaU o (Qbj x)))/\Own w no w' []):=by
 refine Qaj (n:=7) Tryz.func43 rfl Tryz.ntmps43 rfl ?_
 have hs:=Own.start w
 refine Qah (Qab (Qaa (QaR (V:=.agg (cec x).toArray) (cs:=cec x) rfl rfl hs fun b1 w2 hs=>(Qaa (Qad (V:=.bool false) rfl (Qaf (Qah (Qab (Qaa (Qpp (V:=.slice a l.length c) Qfh (hc.own' hs) rfl rfl (Qaa (Qdt (cs:=[Pq b1 0]) rfl rfl (Qaa (Qat (vs:=[.slice a l.length c,.func (.func 45) #[] #[Pq b1 0]]) (V:=.bool (l.any (fun o=>QaU o (Qbj x)))) Qvz rfl rfl ?hc hs fun w3 hs=>?_))))))))))))))
 case hc=>exact (Qon _ a c l 45 [.pointer (some ⟨b1,0,none⟩)] QuL (fun o=>QaU o (Qbj x)) (fun w1 L1 h o _=>QkJ w1 o x b1 hx ((hs.cellsf 0 rfl).own' h)) (Rd.own' hr hs))
 refine Qaa (Qad (V:=.bool (l.any (fun o=>QaU o (Qbj x)))) rfl (Qaf (Qav ?_)))
 refine ⟨_,Qar (V:=.bool (l.any (fun o=>QaU o (Qbj x)))) Tryz.results43 rfl,(Zr hs ?_)⟩
 rfl
end Tt
end Go.Proofs
namespace Go.Proofs
open Go Go.Vx Go.RowKit
namespace Tt
theorem QmV (w:World) (f N:Nat) (caps:List Value) (hf:En Tryz.prog f) (hN:N*3<=140737488355328) (G:List Value->Prop) (hcall:Gives Tryz.prog f caps (okS (Value.int .u16) N) G w):Calls Tryz.prog 159 #[.slice none 0 0,.func (.func f) #[] caps.toArray] w (fun e w'=>∃ x:List Int × Option Addr × Nat,e = .returned (.slice x.2.1 x.1.length x.2.2)/\Own w no w' [row (.slice x.2.1 x.1.length x.2.2) (x.1.map (ic .u16)) 32 1]/\G (x.1.map (Value.int .u16))/\x.1.length<=N):=by
 refine Qju (n:=13) Tryz.func159 rfl Tryz.ntmps159 rfl ?_
 have hs:=Own.start w
 refine Ql0 (Qab (Qaa (QaR (V:=.slice none 0 0) (cs:=[.slice none 0 0]) rfl rfl hs fun b1 w2 hs=>(Qaa (Qad (V:=.slice none 0 0) rfl (Qaf (Qrq (Ql0 (Qab (Qaa (Qac (V:=.func (.func f) #[] caps.toArray) rfl (Qaf (QnQ ?_)))))))))))))
 replace hs:=hs.more (row (.slice none 0 0) (List.map (ic .u16) []) 32 1) (Qbk _ _ _ _)
 replace hs:=hs.join 0 1 (by decide) rfl rfl
 replace hs:=hs.conv 0 rfl (R':=Qvg N b1 69 32 1 (ic .u16) (Value.int .u16) []) (fun S h=>⟨⟨([],none,0),rfl,Nat.zero_le _⟩,h⟩)
 refine Qih (caps:=caps) (ok:=okS (Value.int .u16) N) (G:=G) rfl rfl hf hs 0 (Qvg N b1 69 32 1 (ic .u16) (Value.int .u16)) rfl ?_ hcall ?_
 ·rintro l fn dd pre x w2 S ⟨⟨d,rfl⟩,hpN⟩ hs
  refine Qab (Qaa (Qad (V:=I7 d) rfl (Qaf ?_)))
  refine ⟨[],hs,?_⟩
  intro w3 hs
  obtain ⟨⟨⟨l0,a0,c0⟩,hx,hxN⟩,hs⟩:=hs.unpack 0 rfl
  replace hs:=hs.split 0 rfl
  dsimp only at hx
  have hlen:=congrArg List.length hx
  rw [QQ6] at hlen
  refine Qan (Qab (Qaa (QaE (V:=.slice a0 l0.length c0) Qqw hs 0 rfl rfl rfl (Qaa (Qac (V:=I7 d) rfl (Qaa (Qfb (vals:=[I7 d]) (ls:=List.map (ic .u16) ([d]:List Int)) Qjg rfl rfl rfl (Qbd (enc:=(ic .u16)) (fun _=>rfl) _) (QaK (Qev .u16) _) (QQ8 rfl) hs fun b3 w4 hs=>(Qaa (Qb3 (ls':=(l0++[d]).map (ic .u16)) (n:=(l0++[d]).length) Qjg hs 2 rfl rfl rfl (hs.rd 3 rfl) (QaK (Qev .u16) _) (by simp only [QQ6,QQ7,List.length_cons,List.length_nil];omega) (by simp) (by simp) fun a5 c5 w6 hs=>(Qaa (Qc2 (V:=.slice a5 ((l0++[d]).length) c5) (cs':=[.slice a5 ((l0++[d]).length) c5]) Qqw hs 0 rfl rfl rfl rfl (QQ8 rfl) rfl fun w7 hs=>(Qaf ?_))))))))))))
  replace hs:=hs.join 0 2 (by decide) rfl rfl
  replace hs:=hs.conv 0 rfl (R':=Qvg N b1 69 32 1 (ic .u16) (Value.int .u16) (pre++[(Value.int .u16) d])) (fun S h=>⟨⟨(l0++[d],a5,c5),by rw [List.map_append,hx];rfl,by rw [QQ7];exact hpN⟩,h⟩)
  exact hs.take 2
 rintro xs dd w3 hG hs
 obtain ⟨⟨⟨l1,a1,c1⟩,hx,hxN⟩,hs⟩:=hs.unpack 0 rfl
 dsimp only at hx
 subst hx
 replace hs:=hs.split 0 rfl
 refine Qu8 (Qah (Qab (Qaa (QaE (V:=.slice a1 l1.length c1) Qqw hs 0 rfl rfl rfl (Qaa (Qad (V:=.slice a1 l1.length c1) rfl (Qaf (Qav (Qmu (V:=.slice a1 l1.length c1) hs 2 rfl (fun w=>Qar (V:=.slice a1 l1.length c1) Tryz.results159 rfl) fun w hs=>?_)))))))))
 exact ⟨(l1,a1,c1),rfl,hs.only 3 rfl,hG,by simpa using hxN⟩
end Tt
end Go.Proofs
namespace Go.Proofs
open Go Go.Vx Go.RowKit
namespace Tt
theorem QiS (w:World) (f N:Nat) (caps:List Value) (hf:En Tryz.prog f) (hN:N*3<=140737488355328) (G:List Value->Prop) (hcall:Gives Tryz.prog f caps (okS (Value.int .u16) N) G w):Calls Tryz.prog 133 #[.func (.func f) #[] caps.toArray] w (fun e w'=>∃ x:List Int × Option Addr × Nat,e = .returned (.slice x.2.1 x.1.length x.2.2)/\Own w no w' [row (.slice x.2.1 x.1.length x.2.2) (x.1.map (ic .u16)) 32 1]/\G (x.1.map (Value.int .u16))/\x.1.length<=N):=by
 refine Qaj (n:=5) Tryz.func133 rfl Tryz.ntmps133 rfl ?_
 have hs:=Own.start w
 refine Qah (Qab (Qaa (Qad (V:=.slice none 0 0) rfl (Qaf (Qah (Qab (Qaa (Qac (V:=.func (.func f) #[] caps.toArray) rfl (Qaa (Qbo (vs:=[.slice none 0 0,.func (.func f) #[] caps.toArray]) QsY rfl rfl (QmV _ f N caps hf hN G hcall) hs fun x1 w2 hs hF3=>(Qaa (Qad (V:=.slice x1.2.1 x1.1.length x1.2.2) rfl (Qaf (Qav ?_))))))))))))))
 refine ⟨_,Qar (V:=.slice x1.2.1 x1.1.length x1.2.2) Tryz.results133 rfl,?_⟩
 exact ⟨(x1.1,x1.2.1,x1.2.2),rfl,hs.only 0 rfl,hF3⟩
theorem Qk9 (w:World) (f N:Nat) (caps:List Value) (hf:En Tryz.prog f) (hN:N*3<=140737488355328) (G:List Value->Prop) (hcall:Gives Tryz.prog f caps (okS (Value.int .u16) N) G w) (hsortU:QgI Tryz.prog 134 .u16 32):Calls Tryz.prog 84 #[.func (.func f) #[] caps.toArray] w (fun e w'=>∃ x:List Int × Option Addr × Nat,e = .returned (.slice x.2.1 x.1.length x.2.2)/\Own w no w' [row (.slice x.2.1 x.1.length x.2.2) (x.1.map (ic .u16)) 32 1]/\∃ m,G (m.map (Value.int .u16))/\x.1=Qa8 m):=by
 refine Qaj (n:=9) Tryz.func84 rfl Tryz.ntmps84 rfl ?_
 have hs:=Own.start w
 refine Qah (Qab (Qaa (Qad (V:=.slice none 0 0) rfl (Qaf (Qah (Qab (Qaa (Qac (V:=.func (.func f) #[] caps.toArray) rfl (Qaa (Qbo (vs:=[.func (.func f) #[] caps.toArray]) QtC rfl rfl (QiS _ f N caps hf hN G hcall) hs fun x1 w2 hs hF3=>(Qaa (Qad (V:=.slice x1.2.1 x1.1.length x1.2.2) rfl (Qaf (Qah ?_))))))))))))))
 have hn:=hF3.2
 refine Qab (Qaa (Qac (V:=.slice x1.2.1 x1.1.length x1.2.2) rfl (Qaa (Qbu (vs:=[.slice x1.2.1 x1.1.length x1.2.2]) (V:=fun _:Unit=>.tuple #[]) (R:=row (.slice x1.2.1 x1.1.length x1.2.2) (x1.1.map (ic .u16)) 32 1) (R':=fun _=>row (.slice x1.2.1 x1.1.length x1.2.2) ((Qa8 x1.1).map (ic .u16)) 32 1) (Lo:=fun _=>[]) (F:=fun _ _=>True) Qs5 rfl rfl hs 0 rfl (fun S hS hlt=>(hsortU _ S _ _ _ hS hlt (by omega)).mono fun e w' ⟨he,ho⟩=>⟨(),he,ho,trivial⟩) fun _ w4 hs _=>(Qaf (Qah (Qab (Qaa (Qac (V:=.slice x1.2.1 x1.1.length x1.2.2) rfl (Qaa (Qad (V:=.slice x1.2.1 x1.1.length x1.2.2) rfl (Qaf (Qav ?_)))))))))))))
 refine ⟨_,Qar (V:=.slice x1.2.1 x1.1.length x1.2.2) Tryz.results84 rfl,?_⟩
 have hl:x1.1.length=(Qa8 x1.1).length:=(QeR _).symm
 refine ⟨(Qa8 x1.1,x1.2.1,x1.2.2),by rw [hl],?_,⟨x1.1,hF3.1,rfl⟩⟩
 have ho:=hs.only 0 rfl
 rw [hl] at ho
 exact ho
end Tt
end Go.Proofs
namespace Go.Proofs
open Go Go.Vx Go.RowKit
namespace Tt
theorem Qm9 (w:World) (S:Nat->Prop) (bx r l:Nat) (lm:List (Int × Int)) (R:List Value->Res) (ok:List Value->Value->Prop) (hok:∀ (pre:List Int) (k:Int),pre.length<lm.length->k∈lm.map (·.1)->ok (pre.map (Value.int .u16)) ((Value.int .u16) k)) (hy:Qiu Tryz.prog l R ok) (hR:(R []).holds w S) (hlt:∀ x,S x->x<w.heap.size) (hSb:¬S bx) (hSr:¬S r) (hc:Qcf w bx [.map (some r)]) (hm:Qic w r (Value.int .u16) (Value.int .u32) lm):Calls Tryz.prog 148 #[.func (.yield l) #[] #[],.pointer (some ⟨bx,0,none⟩)] w (fun e w'=>∃ v xs,e = .returned v/\xs.Perm ((lm.map (·.1)).map (Value.int .u16))/\Own w S w' [R xs]):=by
 refine Qaj (n:=14) Tryz.func148 rfl Tryz.ntmps148 rfl ?_
 have hs:=Own.lent hR hlt
 obtain ⟨es,clock,hm0,hE⟩:=hm
 refine Qah (Qab (Qaa (Qpp (V:=.map (some r)) Quc (Qcf.own hc hs hSb) rfl rfl ?_)))
 have hat:=hs.at hm0 hSr
 refine Qaa (Qq3 Qiy hat hs rfl fun it w1 hs=>(Qaf (Qan (QaA (fun J μ J' w'=>∃ (Jo:Env) (pre:List Int) (seen:Array Nat),J'=mix ([3]++sq 6 8) Jo J/\(((left es seen).map (·.key)++pre.map (Value.int .u16)).Perm ((lm.map (·.1)).map (Value.int .u16)))/\μ=(left es seen).length/\Own w S w' [R (pre.map (Value.int .u16)),QkV it r clock seen]) ?_ ?_))))
 ·exact ⟨_,_,[],#[],Qap (ds:=([3]++sq 6 8)) (Agr.refl _ _),(by rw [Qmr,hE.keys];simp),rfl,hs⟩
 rintro μ J' w2 ⟨Jo,pre,seen,rfl,hp,rfl,hs⟩
 refine Qah (Qab (Qaa (Quh (seen:=seen) (hs.at hm0 hSr) hE.old hs 1 rfl rfl (fun h0=>?_) (fun e3 ha w4 hs=>?_))))
 ·
  refine Qaa (Qay (V:=.bool false) rfl rfl (Qaf (Qah (Qcr rfl ?_))))
  refine QaG ?_
  refine ⟨_,Qbn Tryz.results148,?_⟩
  rw [h0] at hp
  exact ⟨_,pre.map (Value.int .u16),rfl,hp,hs.only 0 rfl⟩
 obtain ⟨k,hk,hkey⟩:=QoX hE (Qj0 ha)
 refine Qaa (Qay (V:=.bool true) rfl rfl (Qaf (Qah (Qdh rfl ?_))))
 refine Qaq (Qan (Qah (Qab (Qaa (QnO (V:=(Value.int .u16) k) (hs.at hm0 hSr) hE.inc (Qj0 ha) hkey hs 1 rfl rfl (Qaa (Qay (V:=I7 k) rfl rfl (Qaa (Qad (V:=I7 k) rfl (Qaf (Qah (Qab (Qaa (Qac (V:=.func (.yield l) #[] #[]) rfl (Qaa (Qac (V:=I7 k) rfl ?_))))))))))))))))
 have hst:=Qlw hE ha hkey hp
 refine Qaa (QoV (R:=R) (pre:=pre.map (Value.int .u16)) (v:=(Value.int .u16) k) hy rfl rfl (hok pre k hst.2.2 hk) hs 0 rfl fun w5 hs=>(Qaa (Qbw rfl (Qaf (Qcr rfl ?_)))))
 refine Qaq ?_
 have e1:(pre++[k]).map (Value.int .u16)=pre.map (Value.int .u16)++[(Value.int .u16) k]:=by simp
 rw [← e1] at hs
 refine ⟨_,?_,_,pre++[k],seen.push e3.born,Qap (ds:=([3]++sq 6 8)) (by repeat (first|exact Agr.refl _ _|refine Agr.upd ?_ rfl|refine Agr.mix ?_ rfl)),hst.1,rfl,hs.take 2⟩
 exact hst.2.1
theorem QoT (w:World) (r:Nat):Calls Tryz.prog 96 #[.map (some r)] w (fun e w'=>∃ x:Nat,e = .returned (.func (.func 148) #[] #[.pointer (some ⟨x,0,none⟩)])/\Own w no w' [blk x [.map (some r)] 100]/\True):=by
 refine Qaj (n:=4) Tryz.func96 rfl Tryz.ntmps96 rfl ?_
 have hs:=Own.start w
 refine Qah (Qab (Qaa (QaR (V:=.map (some r)) (cs:=[.map (some r)]) rfl rfl hs fun b1 w2 hs=>(Qaa (Qad (V:=.nilFunc) rfl (Qaf (Qah (Qab (Qaa (Qdt (cs:=[Pq b1 0]) rfl rfl (Qaa (Qad (V:=.func (.func 148) #[] #[Pq b1 0]) rfl (Qaf (Qav ?_))))))))))))))
 refine ⟨_,Qar (V:=.func (.func 148) #[] #[Pq b1 0]) Tryz.results96 rfl,?_⟩
 exact ⟨b1,rfl,hs.only 0 rfl,trivial⟩
theorem QsA {w:World} {bx r N:Nat} {lm:List (Int × Int)} (hc:Qcf w bx [.map (some r)]) (hm:Qic w r (Value.int .u16) (Value.int .u32) lm) (hN:lm.length<=N) :
  Gives Tryz.prog 148 [.pointer (some ⟨bx,0,none⟩)] (okS (Value.int .u16) N) (fun xs=>xs.Perm ((lm.map (·.1)).map (Value.int .u16))) w:=by
 rintro l w1 R S ⟨L1,hs1⟩ hlt hS hR hy
 have hb:bx<w.heap.size:=World.block_lt_of_cell? _ _ (hc 0 _ rfl)
 have hr:r<w.heap.size:=by obtain ⟨es,clock,h,_⟩:=hm;exact (Array.getElem?_eq_some_iff.1 h).1
 exact Qm9 w1 S bx r l lm R (okS (Value.int .u16) N) (fun pre k hp _=>⟨⟨k,rfl⟩,by rw [QQ6];omega⟩) hy hR hlt (fun h=>hS _ h hb) (fun h=>hS _ h hr) (hc.own' hs1) (hm.own' hs1)
theorem Qnu (w:World) (r:Nat) (m:List (Int × Int)) (hm:Qic w r (Value.int .u16) (Value.int .u32) m) (hlm:m.length<=100000) (hsortU:QgI Tryz.prog 134 .u16 32):Calls Tryz.prog 50 #[.map (some r)] w (fun e w'=>∃ x:Option Addr × Nat,e = .returned (.slice x.1 (Qa8 (m.map (·.1))).length x.2)/\Own w no w' [row (.slice x.1 (Qa8 (m.map (·.1))).length x.2) ((Qa8 (m.map (·.1))).map (ic .u16)) 32 1]/\True):=by
 refine Qaj (n:=6) Tryz.func50 rfl Tryz.ntmps50 rfl ?_
 have hs:=Own.start w
 refine Qah (Qab (Qaa (Qad (V:=.slice none 0 0) rfl (Qaf (Qah (Qab (Qaa (Qac (V:=.map (some r)) rfl (Qaa (Qbo (vs:=[.map (some r)]) (V:=fun x:Nat=>.func (.func 148) #[] #[Pq x 0]) Qvd rfl rfl (QoT _ r) hs fun x1 w2 hs _=>(Qaa (Qbo (vs:=[.func (.func 148) #[] #[Pq x1 0]]) (V:=fun x:Option Addr × Nat=>.slice x.1 (Qa8 (m.map (·.1))).length x.2) (Lo:=fun x=>[row (.slice x.1 (Qa8 (m.map (·.1))).length x.2) ((Qa8 (m.map (·.1))).map (ic .u16)) 32 1]) (F:=fun _ _=>True) Qu7 rfl rfl ?hc hs fun x3 w4 hs hF5=>?_))))))))))))
 case hc=>exact ((Qk9 _ 148 1000000 [.pointer (some ⟨x1,0,none⟩)] Qtj (by decide) (fun xs=>xs.Perm ((m.map (·.1)).map (Value.int .u16))) (QsA (hs.cellsf 0 rfl) (Qic.own hm hs (fun h=>h)) (by omega)) hsortU).mono fun e w' ⟨y,he,ho,m0,hm0,hy⟩=>by
   have hy2:y.1=Qa8 (m.map (·.1)):=by rw [hy];exact Qln hm0
   rw [hy2] at he ho
   exact ⟨(y.2.1,y.2.2),he,ho,trivial⟩)
 refine Qaa (Qad (V:=.slice x3.1 ((Qa8 (m.map (·.1))).length) x3.2) rfl (Qaf (Qav ?_)))
 refine ⟨_,Qar (V:=.slice x3.1 ((Qa8 (m.map (·.1))).length) x3.2) Tryz.results50 rfl,?_⟩
 exact ⟨(x3.1,x3.2),rfl,hs.only 1 rfl,trivial⟩
end Tt
end Go.Proofs
