/- A part of a proof: what functions of the program compute, and plain facts on that. -/
import Derived.Test.YtbjbjboehjdcaaaGreatCutsFoldP3
set_option linter.unusedVariables false
set_option linter.unusedSimpArgs false
set_option maxHeartbeats 4000000
set_option maxRecDepth 100000
namespace Go.Proofs
open Go Go.Vx Go.RowKit
open Tryz
namespace Tt
theorem Qpo (w:World) (o:Opn):Calls prog 90 #[.agg (oc o).toArray] w (fun e w'=>e = .returned (.bool (QaX o))/\Own w no w' []):=by
 refine Qah (n:=16) func90 rfl ntmps90 rfl ?_
 have Y:=Own.start w
 refine Qae (Qab (Qaa (QaY (V:=.agg (oc o).toArray) (cs:=oc o) rfl rfl Y fun b1 w2 Y=>(Qaa (Qam (.bool false) (Qad (Qae (Qbv (so 3 13++[some 2]) [] [0,1,3,7,15,31,63,127,255,511,1023,2047,4095,8191] [pv (Pq b1 (0+2)),pv (.int .u8 o.kind),pv (.bool (decide (o.kind=1))),pv (.bool (decide (o.kind=1))),pg ((decide (o.kind=1)) == false) (Pq b1 (0+2)),pg ((decide (o.kind=1)) == false) (.int .u8 o.kind),pg ((decide (o.kind=1)) == false) (.bool (decide (o.kind=2))),pv (.bool ((decide (o.kind=1))||(decide (o.kind=2)))),pv (.bool ((decide (o.kind=1))||(decide (o.kind=2)))),pg (((decide (o.kind=1))||(decide (o.kind=2))) == false) (Pq b1 (0+2)),pg (((decide (o.kind=1))||(decide (o.kind=2))) == false) (.int .u8 o.kind),pg (((decide (o.kind=1))||(decide (o.kind=2))) == false) (.bool (decide (o.kind=4))),pv (.bool (((decide (o.kind=1))||(decide (o.kind=2)))||(decide (o.kind=4)))),pv (.bool (((decide (o.kind=1))||(decide (o.kind=2)))||(decide (o.kind=4))))] (fun _ _=>_) [13] (by kernel_rfl) Y ⟨?_,?_,?_,?_,?_,?_,?_,?_,?_,?_,?_,?_,?_,?_,trivial⟩ ?_))))))))
 ·exact oi [] fun Y=>Qac Qbz rfl (Zz Y)
 ·exact oi [0] fun Y=>QaN (.int .u8 o.kind) QcI Y 0 (Zz Y)
 ·exact oi [1] fun Y=>QaT rfl rfl (Zz Y)
 ·exact oi [2] fun Y=>Qaf (.bool (decide (o.kind=1))) (Zz Y)
 ·exact ogi [3] fun hG Y=>Qac Qbz rfl (Zz Y)
 ·exact oyi [3,4] [4] fun hG Y=>QaN (.int .u8 o.kind) QcI Y 0 (Zz Y)
 ·exact oyi [3,5] [5] fun hG Y=>QaT rfl rfl (Zz Y)
 ·exact oi [3,6] fun Y=>QbP (h':=decide (o.kind=2)) rfl rfl rfl (Zz Y)
 ·exact oi [7] fun Y=>Qaf (.bool ((decide (o.kind=1))||(decide (o.kind=2)))) (Zz Y)
 ·exact ogi [8] fun hG Y=>Qac Qbz rfl (Zz Y)
 ·exact oyi [8,9] [9] fun hG Y=>QaN (.int .u8 o.kind) QcI Y 0 (Zz Y)
 ·exact oyi [8,10] [10] fun hG Y=>QaT rfl rfl (Zz Y)
 ·exact oi [8,11] fun Y=>QbP (h':=decide (o.kind=4)) rfl rfl rfl (Zz Y)
 ·exact oi [12] fun Y=>Qam (.bool (((decide (o.kind=1))||(decide (o.kind=2)))||(decide (o.kind=4)))) (Zz Y)
 rintro J1 w3 J2 hJ Y
 replace hJ:J2=upd (mix (sq 3 13++[2]) J1 _) 2 (.bool (((decide (o.kind=1))||(decide (o.kind=2)))||(decide (o.kind=4)))):=hJ
 subst hJ
 refine Qav ?_
 refine ⟨_,Qan (V:=.bool (((decide (o.kind=1))||(decide (o.kind=2)))||(decide (o.kind=4)))) results90 rfl,(Zr Y ?_)⟩
 rfl
theorem QkT (w:World) (o:Opn):Calls prog 55 #[.agg (oc o).toArray] w (fun e w'=>e = .returned (.bool (QaX o))/\Own w no w' []):=by
 refine Qah (n:=16) func55 rfl ntmps55 rfl ?_
 have Y:=Own.start w
 refine Qae (Qab (Qaa (QaY (V:=.agg (oc o).toArray) (cs:=oc o) rfl rfl Y fun b1 w2 Y=>(Qaa (Qam (.bool false) (Qad (Qae (Qbv (so 3 13++[some 2]) [] [0,1,3,7,15,31,63,127,255,511,1023,2047,4095,8191] [pv (Pq b1 (0+2)),pv (.int .u8 o.kind),pv (.bool (decide (o.kind=1))),pv (.bool (decide (o.kind=1))),pg ((decide (o.kind=1)) == false) (Pq b1 (0+2)),pg ((decide (o.kind=1)) == false) (.int .u8 o.kind),pg ((decide (o.kind=1)) == false) (.bool (decide (o.kind=2))),pv (.bool ((decide (o.kind=1))||(decide (o.kind=2)))),pv (.bool ((decide (o.kind=1))||(decide (o.kind=2)))),pg (((decide (o.kind=1))||(decide (o.kind=2))) == false) (Pq b1 (0+2)),pg (((decide (o.kind=1))||(decide (o.kind=2))) == false) (.int .u8 o.kind),pg (((decide (o.kind=1))||(decide (o.kind=2))) == false) (.bool (decide (o.kind=4))),pv (.bool (((decide (o.kind=1))||(decide (o.kind=2)))||(decide (o.kind=4)))),pv (.bool (((decide (o.kind=1))||(decide (o.kind=2)))||(decide (o.kind=4))))] (fun _ _=>_) [13] (by kernel_rfl) Y ⟨?_,?_,?_,?_,?_,?_,?_,?_,?_,?_,?_,?_,?_,?_,trivial⟩ ?_))))))))
 ·exact oi [] fun Y=>Qac Qbz rfl (Zz Y)
 ·exact oi [0] fun Y=>QaN (.int .u8 o.kind) QcI Y 0 (Zz Y)
 ·exact oi [1] fun Y=>QaT rfl rfl (Zz Y)
 ·exact oi [2] fun Y=>Qaf (.bool (decide (o.kind=1))) (Zz Y)
 ·exact ogi [3] fun hG Y=>Qac Qbz rfl (Zz Y)
 ·exact oyi [3,4] [4] fun hG Y=>QaN (.int .u8 o.kind) QcI Y 0 (Zz Y)
 ·exact oyi [3,5] [5] fun hG Y=>QaT rfl rfl (Zz Y)
 ·exact oi [3,6] fun Y=>QbP (h':=decide (o.kind=2)) rfl rfl rfl (Zz Y)
 ·exact oi [7] fun Y=>Qaf (.bool ((decide (o.kind=1))||(decide (o.kind=2)))) (Zz Y)
 ·exact ogi [8] fun hG Y=>Qac Qbz rfl (Zz Y)
 ·exact oyi [8,9] [9] fun hG Y=>QaN (.int .u8 o.kind) QcI Y 0 (Zz Y)
 ·exact oyi [8,10] [10] fun hG Y=>QaT rfl rfl (Zz Y)
 ·exact oi [8,11] fun Y=>QbP (h':=decide (o.kind=4)) rfl rfl rfl (Zz Y)
 ·exact oi [12] fun Y=>Qam (.bool (((decide (o.kind=1))||(decide (o.kind=2)))||(decide (o.kind=4)))) (Zz Y)
 rintro J1 w3 J2 hJ Y
 replace hJ:J2=upd (mix (sq 3 13++[2]) J1 _) 2 (.bool (((decide (o.kind=1))||(decide (o.kind=2)))||(decide (o.kind=4)))):=hJ
 subst hJ
 refine Qav ?_
 refine ⟨_,Qan (V:=.bool (((decide (o.kind=1))||(decide (o.kind=2)))||(decide (o.kind=4)))) results55 rfl,(Zr Y ?_)⟩
 rfl
theorem QqM (w:World) (o:Opn):Calls prog 130 #[.agg (oc o).toArray] w (fun e w'=>e = .returned (.bool (QaX o))/\Own w no w' []):=by
 refine Qah (n:=16) func130 rfl ntmps130 rfl ?_
 have Y:=Own.start w
 refine Qae (Qab (Qaa (QaY (V:=.agg (oc o).toArray) (cs:=oc o) rfl rfl Y fun b1 w2 Y=>(Qaa (Qam (.bool false) (Qad (Qae (Qbv (so 3 13++[some 2]) [] [0,1,3,7,15,31,63,127,255,511,1023,2047,4095,8191] [pv (Pq b1 (0+2)),pv (.int .u8 o.kind),pv (.bool (decide (o.kind=1))),pv (.bool (decide (o.kind=1))),pg ((decide (o.kind=1)) == false) (Pq b1 (0+2)),pg ((decide (o.kind=1)) == false) (.int .u8 o.kind),pg ((decide (o.kind=1)) == false) (.bool (decide (o.kind=2))),pv (.bool ((decide (o.kind=1))||(decide (o.kind=2)))),pv (.bool ((decide (o.kind=1))||(decide (o.kind=2)))),pg (((decide (o.kind=1))||(decide (o.kind=2))) == false) (Pq b1 (0+2)),pg (((decide (o.kind=1))||(decide (o.kind=2))) == false) (.int .u8 o.kind),pg (((decide (o.kind=1))||(decide (o.kind=2))) == false) (.bool (decide (o.kind=4))),pv (.bool (((decide (o.kind=1))||(decide (o.kind=2)))||(decide (o.kind=4)))),pv (.bool (((decide (o.kind=1))||(decide (o.kind=2)))||(decide (o.kind=4))))] (fun _ _=>_) [13] (by kernel_rfl) Y ⟨?_,?_,?_,?_,?_,?_,?_,?_,?_,?_,?_,?_,?_,?_,trivial⟩ ?_))))))))
 ·exact oi [] fun Y=>Qac Qbz rfl (Zz Y)
 ·exact oi [0] fun Y=>QaN (.int .u8 o.kind) QcI Y 0 (Zz Y)
 ·exact oi [1] fun Y=>QaT rfl rfl (Zz Y)
 ·exact oi [2] fun Y=>Qaf (.bool (decide (o.kind=1))) (Zz Y)
 ·exact ogi [3] fun hG Y=>Qac Qbz rfl (Zz Y)
 ·exact oyi [3,4] [4] fun hG Y=>QaN (.int .u8 o.kind) QcI Y 0 (Zz Y)
 ·exact oyi [3,5] [5] fun hG Y=>QaT rfl rfl (Zz Y)
 ·exact oi [3,6] fun Y=>QbP (h':=decide (o.kind=2)) rfl rfl rfl (Zz Y)
 ·exact oi [7] fun Y=>Qaf (.bool ((decide (o.kind=1))||(decide (o.kind=2)))) (Zz Y)
 ·exact ogi [8] fun hG Y=>Qac Qbz rfl (Zz Y)
 ·exact oyi [8,9] [9] fun hG Y=>QaN (.int .u8 o.kind) QcI Y 0 (Zz Y)
 ·exact oyi [8,10] [10] fun hG Y=>QaT rfl rfl (Zz Y)
 ·exact oi [8,11] fun Y=>QbP (h':=decide (o.kind=4)) rfl rfl rfl (Zz Y)
 ·exact oi [12] fun Y=>Qam (.bool (((decide (o.kind=1))||(decide (o.kind=2)))||(decide (o.kind=4)))) (Zz Y)
 rintro J1 w3 J2 hJ Y
 replace hJ:J2=upd (mix (sq 3 13++[2]) J1 _) 2 (.bool (((decide (o.kind=1))||(decide (o.kind=2)))||(decide (o.kind=4)))):=hJ
 subst hJ
 refine Qav ?_
 refine ⟨_,Qan (V:=.bool (((decide (o.kind=1))||(decide (o.kind=2)))||(decide (o.kind=4)))) results130 rfl,(Zr Y ?_)⟩
 rfl
theorem QfM (w:World) (o:Opn) (ho:QbH o.ctx):Calls prog 41 #[.agg (oc o).toArray] w (fun e w'=>e = .returned (.int .u64 (Qba o))/\Own w no w' []):=by
 refine Qah (n:=7) func41 rfl ntmps41 rfl ?_
 have Y:=Own.start w
 refine Qae (Qab (Qaa (QaY (V:=.agg (oc o).toArray) (cs:=oc o) rfl rfl Y fun b1 w2 Y=>(Qaa (Qam (.int .u64 0) (Qad (Qae ?_)))))))
 have hb:=Qj8 ho
 refine Qab (Qaa (Qac QcG rfl (Qaa (QbT (vs:=vc o.ctx) QbC Y 0 rfl rfl rfl rfl (Qaa (Qas (vs:=[.agg (vc o.ctx).toArray]) (V:=.int .u64 (vsum o.ctx)) QxS rfl rfl ?hc Y fun w3 Y=>?_))))))
 case hc=>exact (Qt4 _ o.ctx (by first|assumption|exact Qch))
 refine Qaa (QaB (a:=vsum o.ctx) (b:=1) (c:=(vsum o.ctx)+1) rfl rfl (Qdu (by omega) (by omega)) (Qaa (Qam (.int .u64 ((vsum o.ctx)+1)) (Qad (Qav ?_)))))
 refine ⟨_,Qan (V:=.int .u64 ((vsum o.ctx)+1)) results41 rfl,(Zr Y ?_)⟩
 rfl
theorem QhE (w:World) (o:Opn) (ho:QbH o.ctx):Calls prog 57 #[.agg (oc o).toArray] w (fun e w'=>e = .returned (.int .u64 (Qba o))/\Own w no w' []):=by
 refine Qah (n:=7) func57 rfl ntmps57 rfl ?_
 have Y:=Own.start w
 refine Qae (Qab (Qaa (QaY (V:=.agg (oc o).toArray) (cs:=oc o) rfl rfl Y fun b1 w2 Y=>(Qaa (Qam (.int .u64 0) (Qad (Qae ?_)))))))
 have hb:=Qj8 ho
 refine Qab (Qaa (Qac QcG rfl (Qaa (QbT (vs:=vc o.ctx) QbC Y 0 rfl rfl rfl rfl (Qaa (Qas (vs:=[.agg (vc o.ctx).toArray]) (V:=.int .u64 (vsum o.ctx)) Qxj rfl rfl ?hc Y fun w3 Y=>?_))))))
 case hc=>exact (Qsy _ o.ctx (by first|assumption|exact Qch))
 refine Qaa (QaB (a:=vsum o.ctx) (b:=1) (c:=(vsum o.ctx)+1) rfl rfl (Qdu (by omega) (by omega)) (Qaa (Qam (.int .u64 ((vsum o.ctx)+1)) (Qad (Qav ?_)))))
 refine ⟨_,Qan (V:=.int .u64 ((vsum o.ctx)+1)) results57 rfl,(Zr Y ?_)⟩
 rfl
theorem QpQ (w:World) (a b:Opn) (ha:QbH a.ctx) (hb:QbH b.ctx):Calls prog 132 #[.agg (oc a).toArray,.agg (oc b).toArray] w (fun e w'=>e = .returned (.bool (Qc7 a b))/\Own w no w' []):=by
 refine Qah (n:=27) func132 rfl ntmps132 rfl ?_
 have Y:=Own.start w
 refine Qae (Qab (Qaa (QaY (V:=.agg (oc a).toArray) (cs:=oc a) rfl rfl Y fun b1 w2 Y=>(Qaa (QaY (V:=.agg (oc b).toArray) (cs:=oc b) rfl rfl Y fun b3 w4 Y=>(Qaa (Qam (.bool false) (Qad (Qae ?_)))))))))
 replace Y:=Y.more emp trivial
 refine QaH HM (so 5 22++[some 4]) [[],[],[],[],[],[],[],[],[],[],[],[],[],[],[],[],[],[],[],[24]] [0,1,0,7,15,0,32,96,0,256,768,2047,0,4096,12288,0,32768,98304,262143,524287,1048575,2097151,4194303] [pv (.agg (oc a).toArray),pv (.int .u64 (Qba a)),pv (.agg (oc b).toArray),pv (.int .u64 (Qba b)),pv (I6 (QaR (Qba a) (Qba b))),pv (Pq b1 (0+0)),pv (Pq b1 (0+0+0)),pv (.int .u8 a.dot.rep),pv (Pq b3 (0+0)),pv (Pq b3 (0+0+0)),pv (.int .u8 b.dot.rep),pv (I6 (QaR a.dot.rep b.dot.rep)),pv (Pq b1 (0+0)),pv (Pq b1 (0+0+1)),pv (.int .u32 a.dot.seq),pv (Pq b3 (0+0)),pv (Pq b3 (0+0+1)),pv (.int .u32 b.dot.seq),pv (I6 (QaR a.dot.seq b.dot.seq)),(true,fun J=>.slice (some ⟨(bOf (J 24)),0,none⟩) 3 3),pv (I6 (orI [QaR (Qba a) (Qba b),QaR a.dot.rep b.dot.rep,QaR a.dot.seq b.dot.seq])),pv (.bool (decide (orI [QaR (Qba a) (Qba b),QaR a.dot.rep b.dot.rep,QaR a.dot.seq b.dot.seq]<0))),pv (.bool (decide (orI [QaR (Qba a) (Qba b),QaR a.dot.rep b.dot.rep,QaR a.dot.seq b.dot.seq]<0)))] (fun D J=>[blk b1 (oc a) 98,blk b3 (oc b) 98,cond (D 19) (row (.slice (some ⟨(bOf (J 24)),0,none⟩) 3 3) ([QaR (Qba a) (Qba b),QaR a.dot.rep b.dot.rep,QaR a.dot.seq b.dot.seq].map (ic .i64)) 3 1) (emp)]) [22] (by kernel_rfl) Y ⟨?_,?_,?_,?_,?_,?_,?_,?_,?_,?_,?_,?_,?_,?_,?_,?_,?_,?_,?_,?_,?_,?_,?_,trivial⟩ ?_
 ·exact oi [] fun Y=>QaK (cs:=oc a) Qa3 Y 0 rfl rfl rfl (Zz Y)
 ·exact oi [0] fun Y=>Qas (vs:=[.agg (oc a).toArray]) (V:=.int .u64 (Qba a)) Qpz rfl rfl (QfM _ a (by assumption)) Y fun _ Y=>Zz Y
 ·exact oi [] fun Y=>QaK (cs:=oc b) Qa3 Y 1 rfl rfl rfl (Zz Y)
 ·exact oi [2] fun Y=>Qas (vs:=[.agg (oc b).toArray]) (V:=.int .u64 (Qba b)) Qpz rfl rfl (QfM _ b (by assumption)) Y fun _ Y=>Zz Y
 ·exact oi [1,3] fun Y=>Qas (vs:=[.int .u64 (Qba a),.int .u64 (Qba b)]) (V:=.int .i64 (QaR (Qba a) (Qba b))) Qrt rfl rfl (Qfq _ (Qba a) (Qba b)) Y fun _ Y=>Zz Y
 ·exact oi [] fun Y=>Qac Qa7 rfl (Zz Y)
 ·exact oi [5] fun Y=>Qac QbJ rfl (Zz Y)
 ·exact oi [6] fun Y=>QaN (.int .u8 a.dot.rep) QcI Y 0 (Zz Y)
 ·exact oi [] fun Y=>Qac Qa7 rfl (Zz Y)
 ·exact oi [8] fun Y=>Qac QbJ rfl (Zz Y)
 ·exact oi [9] fun Y=>QaN (.int .u8 b.dot.rep) QcI Y 1 (Zz Y)
 ·exact oi [7,10] fun Y=>Qas (vs:=[.int .u8 a.dot.rep,.int .u8 b.dot.rep]) (V:=.int .i64 (QaR a.dot.rep b.dot.rep)) Qrh rfl rfl (QdG _ a.dot.rep b.dot.rep) Y fun _ Y=>Zz Y
 ·exact oi [] fun Y=>Qac Qa7 rfl (Zz Y)
 ·exact oi [12] fun Y=>Qac QbN rfl (Zz Y)
 ·exact oi [13] fun Y=>QaN (.int .u32 a.dot.seq) QaU Y 0 (Zz Y)
 ·exact oi [] fun Y=>Qac Qa7 rfl (Zz Y)
 ·exact oi [15] fun Y=>Qac QbN rfl (Zz Y)
 ·exact oi [16] fun Y=>QaN (.int .u32 b.dot.seq) QaU Y 1 (Zz Y)
 ·exact oi [14,17] fun Y=>Qas (vs:=[.int .u32 a.dot.seq,.int .u32 b.dot.seq]) (V:=.int .i64 (QaR a.dot.seq b.dot.seq)) Qql rfl rfl (Qdk _ a.dot.seq b.dot.seq) Y fun _ Y=>Zz Y
 ·exact oi [4,11,18] fun Y=>Qho (vals:=[.int .i64 (QaR (Qba a) (Qba b)),.int .i64 (QaR a.dot.rep b.dot.rep),.int .i64 (QaR a.dot.seq b.dot.seq)]) (ls:=List.map (ic .i64) ([QaR (Qba a) (Qba b),QaR a.dot.rep b.dot.rep,QaR a.dot.seq b.dot.seq]:List Int)) QkI rfl rfl rfl (Qbn (enc:=(ic .i64)) (fun _=>rfl) _) (QaW (QfB .i64) _) (QQ8 rfl) Y fun _ _ Y=>⟨rfl,Y.put 2 (QQ8 rfl)⟩
 ·exact oa [19] fun D J w Y=>Qas (vs:=[.slice (some ⟨(bOf (J 24)),0,none⟩) 3 3]) (V:=.int .i64 (orI [QaR (Qba a) (Qba b),QaR a.dot.rep b.dot.rep,QaR a.dot.seq b.dot.seq])) Qpg rfl rfl (Qpr _ (some ⟨(bOf (J 24)),0,none⟩) 3 [QaR (Qba a) (Qba b),QaR a.dot.rep b.dot.rep,QaR a.dot.seq b.dot.seq] (Y.rd 2 rfl)) Y fun _ Y=>Zz Y
 ·exact oi [20] fun Y=>Qa0 rfl rfl (Zz Y)
 ·exact oi [21] fun Y=>Qam (.bool (decide (orI [QaR (Qba a) (Qba b),QaR a.dot.rep b.dot.rep,QaR a.dot.seq b.dot.seq]<0))) (Zz Y)
 rintro J1 w12 J2 hJ Y
 replace hJ:J2=upd (mix (sq 5 22++[4]) J1 _) 4 (.bool (decide (orI [QaR (Qba a) (Qba b),QaR a.dot.rep b.dot.rep,QaR a.dot.seq b.dot.seq]<0))):=hJ
 replace Y:Own w no w12 [blk b1 (oc a) 98,blk b3 (oc b) 98,row (.slice (some ⟨(bOf (J1 24)),0,none⟩) 3 3) ([QaR (Qba a) (Qba b),QaR a.dot.rep b.dot.rep,QaR a.dot.seq b.dot.seq].map (ic .i64)) 3 1]:=Y
 generalize (bOf (J1 24))=b13 at Y
 subst hJ
 refine Qav ?_
 refine ⟨_,Qan (V:=.bool (decide (orI [QaR (Qba a) (Qba b),QaR a.dot.rep b.dot.rep,QaR a.dot.seq b.dot.seq]<0))) results132 rfl,(Zr Y ?_)⟩
 rfl
theorem Qid (w:World) (o e:Opn) (he:QcS e.dot):Calls prog 46 #[.agg (oc o).toArray,.agg (oc e).toArray] w (fun r w'=>r = .returned (.bool (Qay o e))/\Own w no w' []):=by
 refine Qah (n:=40) func46 rfl ntmps46 rfl ?_
 have Y:=Own.start w
 refine Qae (Qab (Qaa (QaY (V:=.agg (oc o).toArray) (cs:=oc o) rfl rfl Y fun b1 w2 Y=>(Qaa (QaY (V:=.agg (oc e).toArray) (cs:=oc e) rfl rfl Y fun b3 w4 Y=>(Qaa (Qam (.bool false) (Qad (Qae (Qae (Qbv (so 5 18) [] [0,1,3,7,15,31,15,79,255,511,1023,2047,4095,2047,10239,32767,65535,131071] [pv (.agg (oc e).toArray),pv (.bool (QaX e)),pv (.bool (!(QaX e))),pv (.bool (!(QaX e))),pg ((!(QaX e)) == false) (Pq b1 (0+3)),pg ((!(QaX e)) == false) (I7 o.cart),pg ((!(QaX e)) == false) (Pq b3 (0+3)),pg ((!(QaX e)) == false) (I7 e.cart),pg ((!(QaX e)) == false) (.bool (!decide (o.cart=e.cart))),pv (.bool ((!(QaX e))||(!decide (o.cart=e.cart)))),pv (.bool ((!(QaX e))||(!decide (o.cart=e.cart)))),pg (((!(QaX e))||(!decide (o.cart=e.cart))) == false) (Pq b1 (0+7)),pg (((!(QaX e))||(!decide (o.cart=e.cart))) == false) (.agg (vc o.ctx).toArray),pg (((!(QaX e))||(!decide (o.cart=e.cart))) == false) (Pq b3 (0+0)),pg (((!(QaX e))||(!decide (o.cart=e.cart))) == false) (.agg (dc e.dot).toArray),pg (((!(QaX e))||(!decide (o.cart=e.cart))) == false) (.bool (QbD o.ctx e.dot)),pg (((!(QaX e))||(!decide (o.cart=e.cart))) == false) (.bool (!(QbD o.ctx e.dot))),pv (.bool (((!(QaX e))||(!decide (o.cart=e.cart)))||(!(QbD o.ctx e.dot))))] (fun _ _=>_) [17] (by kernel_rfl) Y ⟨?_,?_,?_,?_,?_,?_,?_,?_,?_,?_,?_,?_,?_,?_,?_,?_,?_,?_,trivial⟩ ?_)))))))))))
 ·exact oi [] fun Y=>QaK (cs:=oc e) Qa3 Y 1 rfl rfl rfl (Zz Y)
 ·exact oi [0] fun Y=>Qas (vs:=[.agg (oc e).toArray]) (V:=.bool (QaX e)) QwT rfl rfl (Qpo _ e) Y fun _ Y=>Zz Y
 ·exact oi [1] fun Y=>QbB rfl (Zz Y)
 ·exact oi [2] fun Y=>Qaf (.bool (!(QaX e))) (Zz Y)
 ·exact ogi [3] fun hG Y=>Qac Qc4 rfl (Zz Y)
 ·exact oyi [3,4] [4] fun hG Y=>QaN (.int .u16 o.cart) Qar Y 0 (Zz Y)
 ·exact ogi [3] fun hG Y=>Qac Qc4 rfl (Zz Y)
 ·exact oyi [3,6] [6] fun hG Y=>QaN (.int .u16 e.cart) Qar Y 1 (Zz Y)
 ·exact oyi [3,5,7] [5,7] fun hG Y=>Qck rfl rfl (Zz Y)
 ·exact oi [3,8] fun Y=>QbP (h':=!decide (o.cart=e.cart)) rfl rfl rfl (Zz Y)
 ·exact oi [9] fun Y=>Qaf (.bool ((!(QaX e))||(!decide (o.cart=e.cart)))) (Zz Y)
 ·exact ogi [10] fun hG Y=>Qac QcG rfl (Zz Y)
 ·exact oyi [10,11] [11] fun hG Y=>QbT (vs:=vc o.ctx) QbC Y 0 rfl rfl rfl rfl (Zz Y)
 ·exact ogi [10] fun hG Y=>Qac Qa7 rfl (Zz Y)
 ·exact oyi [10,13] [13] fun hG Y=>QbT (vs:=dc e.dot) QcV Y 1 rfl rfl rfl rfl (Zz Y)
 ·exact oyi [10,12,14] [12,14] fun hG Y=>Qas (vs:=[.agg (vc o.ctx).toArray,.agg (dc e.dot).toArray]) (V:=.bool (QbD o.ctx e.dot)) QoV rfl rfl (Qgw _ o.ctx e.dot (by first|assumption|exact QcN (by omega) (by omega) (by omega) (by omega))) Y fun _ Y=>Zz Y
 ·exact oyi [10,15] [15] fun hG Y=>QbB rfl (Zz Y)
 ·exact oi [10,16] fun Y=>QbP (h':=!(QbD o.ctx e.dot)) rfl rfl rfl (Zz Y)
 rintro J1 w7 J2 hJ Y
 replace hJ:J2=upd (mix (sq 5 18) J1 _) 22 (.bool (((!(QaX e))||(!decide (o.cart=e.cart)))||(!(QbD o.ctx e.dot)))):=hJ
 subst hJ
 refine Qak (t:=((!(QaX e))||(!decide (o.cart=e.cart)))||(!(QbD o.ctx e.dot))) rfl (fun c8=>?_) (fun c8=>?_)
 ·
  refine Qae (Qab (Qaa (Qam (.bool false) (Qad (Qav ?_)))))
  refine ⟨_,Qan (V:=.bool false) results46 rfl,(Zr Y ?_)⟩
  exact congrArg Value.bool (Qm4 c8).symm
 have c8r:=Qfa c8
 replace c8:=Qe8 c8
 have c8rr:=Qfa c8
 replace c8:=Qe8 c8
 replace c8:=Qbd c8
 replace c8rr:=Qbd c8rr
 replace c8rr:=QQ1 c8rr
 replace c8r:=Qbd c8r
 refine Qap (Qae (Qae (Qab (Qaa (Qac Qbz rfl (Qaa (QaN (.int .u8 o.kind) QcI Y 0 (Qad (Qal (Qae (Qab (Qaa (QaT rfl rfl (Qaa (Qam (.bool (decide (o.kind=5))) (Qad (Qak (t:=decide (o.kind=5)) rfl (fun c9=>?_) (fun c9=>?_))))))))))))))))))
 ·
  replace c9:=QQ1 c9
  refine Qae (Qab (Qaa (Qam (.bool true) (Qad (Qav ?_)))))
  refine ⟨_,Qan (V:=.bool true) results46 rfl,(Zr Y ?_)⟩
  rw [QfQ c8 c8rr c8r]
  refine congrArg Value.bool ?_
  simp_all
 replace c9:=QQ2 c9
 refine Qae (Qae (Qab (Qaa (QaT rfl rfl (Qaa (Qam (.bool (decide (o.kind=3))) (Qad (Qak (t:=decide (o.kind=3)) rfl (fun c10=>?_) (fun c10=>?_)))))))))
 ·
  replace c10:=QQ1 c10
  refine Qap (QcO (congrArg Value.bool (QQ3 c10)) ?_)
  refine Qae (Qbv (so 30 10++[some 4]) [] [0,1,3,7,15,31,15,79,255,511,1023] [pv (Pq b3 (0+2)),pv (.int .u8 e.kind),pv (.bool (!decide (e.kind=4))),pv (.bool (!decide (e.kind=4))),pg ((!decide (e.kind=4)) == true) (Pq b1 (0+4)),pg ((!decide (e.kind=4)) == true) (I7 o.item),pg ((!decide (e.kind=4)) == true) (Pq b3 (0+4)),pg ((!decide (e.kind=4)) == true) (I7 e.item),pg ((!decide (e.kind=4)) == true) (.bool (decide (o.item=e.item))),pv (.bool ((!decide (e.kind=4))&&(decide (o.item=e.item)))),pv (.bool ((!decide (e.kind=4))&&(decide (o.item=e.item))))] (fun _ _=>_) [10] (by kernel_rfl) Y ⟨?_,?_,?_,?_,?_,?_,?_,?_,?_,?_,?_,trivial⟩ ?_)
  ·exact oi [] fun Y=>Qac Qbz rfl (Zz Y)
  ·exact oi [0] fun Y=>QaN (.int .u8 e.kind) QcI Y 1 (Zz Y)
  ·exact oi [1] fun Y=>Qck rfl rfl (Zz Y)
  ·exact oi [2] fun Y=>Qaf (.bool (!decide (e.kind=4))) (Zz Y)
  ·exact ogi [3] fun hG Y=>Qac Qcq rfl (Zz Y)
  ·exact oyi [3,4] [4] fun hG Y=>QaN (.int .u16 o.item) Qar Y 0 (Zz Y)
  ·exact ogi [3] fun hG Y=>Qac Qcq rfl (Zz Y)
  ·exact oyi [3,6] [6] fun hG Y=>QaN (.int .u16 e.item) Qar Y 1 (Zz Y)
  ·exact oyi [3,5,7] [5,7] fun hG Y=>QaT rfl rfl (Zz Y)
  ·exact oi [3,8] fun Y=>Qbg (h':=decide (o.item=e.item)) rfl rfl rfl (Zz Y)
  ·exact oi [9] fun Y=>Qam (.bool ((!decide (e.kind=4))&&(decide (o.item=e.item)))) (Zz Y)
  rintro J1 w11 J2 hJ Y
  replace hJ:J2=upd (mix (sq 30 10++[4]) J1 _) 4 (.bool ((!decide (e.kind=4))&&(decide (o.item=e.item)))):=hJ
  subst hJ
  refine Qav ?_
  refine ⟨_,Qan (V:=.bool ((!decide (e.kind=4))&&(decide (o.item=e.item)))) results46 rfl,(Zr Y ?_)⟩
  rw [QfQ c8 c8rr c8r]
  refine congrArg Value.bool ?_
  simp_all
 replace c10:=QQ2 c10
 refine Qab (Qaa (QaT rfl rfl (Qaa (Qam (.bool (decide (o.kind=2))) (Qad (Qak (t:=decide (o.kind=2)) rfl (fun c12=>?_) (fun c12=>?_)))))))
 ·
  replace c12:=QQ1 c12
  refine Qae (Qbv (so 30 10++[some 4]) [] [0,1,3,7,15,31,15,79,255,511,1023] [pv (Pq b3 (0+2)),pv (.int .u8 e.kind),pv (.bool (!decide (e.kind=4))),pv (.bool (!decide (e.kind=4))),pg ((!decide (e.kind=4)) == true) (Pq b1 (0+4)),pg ((!decide (e.kind=4)) == true) (I7 o.item),pg ((!decide (e.kind=4)) == true) (Pq b3 (0+4)),pg ((!decide (e.kind=4)) == true) (I7 e.item),pg ((!decide (e.kind=4)) == true) (.bool (decide (o.item=e.item))),pv (.bool ((!decide (e.kind=4))&&(decide (o.item=e.item)))),pv (.bool ((!decide (e.kind=4))&&(decide (o.item=e.item))))] (fun _ _=>_) [10] (by kernel_rfl) Y ⟨?_,?_,?_,?_,?_,?_,?_,?_,?_,?_,?_,trivial⟩ ?_)
  ·exact oi [] fun Y=>Qac Qbz rfl (Zz Y)
  ·exact oi [0] fun Y=>QaN (.int .u8 e.kind) QcI Y 1 (Zz Y)
  ·exact oi [1] fun Y=>Qck rfl rfl (Zz Y)
  ·exact oi [2] fun Y=>Qaf (.bool (!decide (e.kind=4))) (Zz Y)
  ·exact ogi [3] fun hG Y=>Qac Qcq rfl (Zz Y)
  ·exact oyi [3,4] [4] fun hG Y=>QaN (.int .u16 o.item) Qar Y 0 (Zz Y)
  ·exact ogi [3] fun hG Y=>Qac Qcq rfl (Zz Y)
  ·exact oyi [3,6] [6] fun hG Y=>QaN (.int .u16 e.item) Qar Y 1 (Zz Y)
  ·exact oyi [3,5,7] [5,7] fun hG Y=>QaT rfl rfl (Zz Y)
  ·exact oi [3,8] fun Y=>Qbg (h':=decide (o.item=e.item)) rfl rfl rfl (Zz Y)
  ·exact oi [9] fun Y=>Qam (.bool ((!decide (e.kind=4))&&(decide (o.item=e.item)))) (Zz Y)
  rintro J1 w13 J2 hJ Y
  replace hJ:J2=upd (mix (sq 30 10++[4]) J1 _) 4 (.bool ((!decide (e.kind=4))&&(decide (o.item=e.item)))):=hJ
  subst hJ
  refine Qav ?_
  refine ⟨_,Qan (V:=.bool ((!decide (e.kind=4))&&(decide (o.item=e.item)))) results46 rfl,(Zr Y ?_)⟩
  rw [QfQ c8 c8rr c8r]
  refine congrArg Value.bool ?_
  simp_all
 replace c12:=QQ2 c12
 refine Qap (Qae (Qab (Qaa (Qam (.bool false) (Qad (Qav ?_))))))
 refine ⟨_,Qan (V:=.bool false) results46 rfl,(Zr Y ?_)⟩
 rw [QfQ c8 c8rr c8r]
 refine congrArg Value.bool ?_
 simp_all
theorem Qqc (w:World) (o e:Opn) (he:QcS e.dot):Calls prog 97 #[.agg (oc o).toArray,.agg (oc e).toArray] w (fun r w'=>r = .returned (.bool (Qay o e))/\Own w no w' []):=by
 refine Qah (n:=46) func97 rfl ntmps97 rfl ?_
 have Y:=Own.start w
 refine Qae (Qab (Qaa (QaY (V:=.agg (oc o).toArray) (cs:=oc o) rfl rfl Y fun b1 w2 Y=>(Qaa (QaY (V:=.agg (oc e).toArray) (cs:=oc e) rfl rfl Y fun b3 w4 Y=>(Qaa (Qam (.bool false) (Qad (Qae (Qae (Qbv (so 5 18) [] [0,1,3,7,15,31,15,79,255,511,1023,2047,4095,2047,10239,32767,65535,131071] [pv (.agg (oc e).toArray),pv (.bool (QaX e)),pv (.bool (!(QaX e))),pv (.bool (!(QaX e))),pg ((!(QaX e)) == false) (Pq b1 (0+3)),pg ((!(QaX e)) == false) (I7 o.cart),pg ((!(QaX e)) == false) (Pq b3 (0+3)),pg ((!(QaX e)) == false) (I7 e.cart),pg ((!(QaX e)) == false) (.bool (!decide (o.cart=e.cart))),pv (.bool ((!(QaX e))||(!decide (o.cart=e.cart)))),pv (.bool ((!(QaX e))||(!decide (o.cart=e.cart)))),pg (((!(QaX e))||(!decide (o.cart=e.cart))) == false) (Pq b1 (0+7)),pg (((!(QaX e))||(!decide (o.cart=e.cart))) == false) (.agg (vc o.ctx).toArray),pg (((!(QaX e))||(!decide (o.cart=e.cart))) == false) (Pq b3 (0+0)),pg (((!(QaX e))||(!decide (o.cart=e.cart))) == false) (.agg (dc e.dot).toArray),pg (((!(QaX e))||(!decide (o.cart=e.cart))) == false) (.bool (QbD o.ctx e.dot)),pg (((!(QaX e))||(!decide (o.cart=e.cart))) == false) (.bool (!(QbD o.ctx e.dot))),pv (.bool (((!(QaX e))||(!decide (o.cart=e.cart)))||(!(QbD o.ctx e.dot))))] (fun _ _=>_) [17] (by kernel_rfl) Y ⟨?_,?_,?_,?_,?_,?_,?_,?_,?_,?_,?_,?_,?_,?_,?_,?_,?_,?_,trivial⟩ ?_)))))))))))
 ·exact oi [] fun Y=>QaK (cs:=oc e) Qa3 Y 1 rfl rfl rfl (Zz Y)
 ·exact oi [0] fun Y=>Qas (vs:=[.agg (oc e).toArray]) (V:=.bool (QaX e)) QvT rfl rfl (QkT _ e) Y fun _ Y=>Zz Y
 ·exact oi [1] fun Y=>QbB rfl (Zz Y)
 ·exact oi [2] fun Y=>Qaf (.bool (!(QaX e))) (Zz Y)
 ·exact ogi [3] fun hG Y=>Qac Qc4 rfl (Zz Y)
 ·exact oyi [3,4] [4] fun hG Y=>QaN (.int .u16 o.cart) Qar Y 0 (Zz Y)
 ·exact ogi [3] fun hG Y=>Qac Qc4 rfl (Zz Y)
 ·exact oyi [3,6] [6] fun hG Y=>QaN (.int .u16 e.cart) Qar Y 1 (Zz Y)
 ·exact oyi [3,5,7] [5,7] fun hG Y=>Qck rfl rfl (Zz Y)
 ·exact oi [3,8] fun Y=>QbP (h':=!decide (o.cart=e.cart)) rfl rfl rfl (Zz Y)
 ·exact oi [9] fun Y=>Qaf (.bool ((!(QaX e))||(!decide (o.cart=e.cart)))) (Zz Y)
 ·exact ogi [10] fun hG Y=>Qac QcG rfl (Zz Y)
 ·exact oyi [10,11] [11] fun hG Y=>QbT (vs:=vc o.ctx) QbC Y 0 rfl rfl rfl rfl (Zz Y)
 ·exact ogi [10] fun hG Y=>Qac Qa7 rfl (Zz Y)
 ·exact oyi [10,13] [13] fun hG Y=>QbT (vs:=dc e.dot) QcV Y 1 rfl rfl rfl rfl (Zz Y)
 ·exact oyi [10,12,14] [12,14] fun hG Y=>Qas (vs:=[.agg (vc o.ctx).toArray,.agg (dc e.dot).toArray]) (V:=.bool (QbD o.ctx e.dot)) QlR rfl rfl (QfP _ o.ctx e.dot (by first|assumption|exact QcN (by omega) (by omega) (by omega) (by omega))) Y fun _ Y=>Zz Y
 ·exact oyi [10,15] [15] fun hG Y=>QbB rfl (Zz Y)
 ·exact oi [10,16] fun Y=>QbP (h':=!(QbD o.ctx e.dot)) rfl rfl rfl (Zz Y)
 rintro J1 w7 J2 hJ Y
 replace hJ:J2=upd (mix (sq 5 18) J1 _) 22 (.bool (((!(QaX e))||(!decide (o.cart=e.cart)))||(!(QbD o.ctx e.dot)))):=hJ
 subst hJ
 refine Qak (t:=((!(QaX e))||(!decide (o.cart=e.cart)))||(!(QbD o.ctx e.dot))) rfl (fun c8=>?_) (fun c8=>?_)
 ·
  refine Qae (Qab (Qaa (Qam (.bool false) (Qad (Qav ?_)))))
  refine ⟨_,Qan (V:=.bool false) results97 rfl,(Zr Y ?_)⟩
  exact congrArg Value.bool (Qm4 c8).symm
 have c8r:=Qfa c8
 replace c8:=Qe8 c8
 have c8rr:=Qfa c8
 replace c8:=Qe8 c8
 replace c8:=Qbd c8
 replace c8rr:=Qbd c8rr
 replace c8rr:=QQ1 c8rr
 replace c8r:=Qbd c8r
 refine Qap (Qae (Qae (Qab (Qaa (Qac Qbz rfl (Qaa (QaN (.int .u8 o.kind) QcI Y 0 (Qaa (QaT rfl rfl (Qad (Qak (t:=decide (o.kind=5)) rfl (fun c9=>?_) (fun c9=>?_))))))))))))
 ·
  replace c9:=QQ1 c9
  refine Qae (Qab (Qaa (Qam (.bool true) (Qad (Qav ?_)))))
  refine ⟨_,Qan (V:=.bool true) results97 rfl,(Zr Y ?_)⟩
  rw [QfQ c8 c8rr c8r]
  refine congrArg Value.bool ?_
  simp_all
  try exact Bool.and_assoc _ _ _
 replace c9:=QQ2 c9
 refine Qap (Qae (Qbv (so 26 20++[some 4]) [] [0,1,3,7,15,31,63,127,255,511,1023,2047,4095,8191,16383,32767,16383,81919,262143,524287,1048575] [pv (Pq b1 (0+2)),pv (.int .u8 o.kind),pv (.bool (decide (o.kind=3))),pv (.bool (decide (o.kind=3))),pg ((decide (o.kind=3)) == false) (Pq b1 (0+2)),pg ((decide (o.kind=3)) == false) (.int .u8 o.kind),pg ((decide (o.kind=3)) == false) (.bool (decide (o.kind=2))),pv (.bool ((decide (o.kind=3))||(decide (o.kind=2)))),pv (.bool ((decide (o.kind=3))||(decide (o.kind=2)))),pg (((decide (o.kind=3))||(decide (o.kind=2))) == true) (Pq b3 (0+2)),pg (((decide (o.kind=3))||(decide (o.kind=2))) == true) (.int .u8 e.kind),pg (((decide (o.kind=3))||(decide (o.kind=2))) == true) (.bool (!decide (e.kind=4))),pv (.bool (((decide (o.kind=3))||(decide (o.kind=2)))&&(!decide (e.kind=4)))),pv (.bool (((decide (o.kind=3))||(decide (o.kind=2)))&&(!decide (e.kind=4)))),pg ((((decide (o.kind=3))||(decide (o.kind=2)))&&(!decide (e.kind=4))) == true) (Pq b1 (0+4)),pg ((((decide (o.kind=3))||(decide (o.kind=2)))&&(!decide (e.kind=4))) == true) (I7 o.item),pg ((((decide (o.kind=3))||(decide (o.kind=2)))&&(!decide (e.kind=4))) == true) (Pq b3 (0+4)),pg ((((decide (o.kind=3))||(decide (o.kind=2)))&&(!decide (e.kind=4))) == true) (I7 e.item),pg ((((decide (o.kind=3))||(decide (o.kind=2)))&&(!decide (e.kind=4))) == true) (.bool (decide (o.item=e.item))),pv (.bool ((((decide (o.kind=3))||(decide (o.kind=2)))&&(!decide (e.kind=4)))&&(decide (o.item=e.item)))),pv (.bool ((((decide (o.kind=3))||(decide (o.kind=2)))&&(!decide (e.kind=4)))&&(decide (o.item=e.item))))] (fun _ _=>_) [20] (by kernel_rfl) Y ⟨?_,?_,?_,?_,?_,?_,?_,?_,?_,?_,?_,?_,?_,?_,?_,?_,?_,?_,?_,?_,?_,trivial⟩ ?_))
 ·exact oi [] fun Y=>Qac Qbz rfl (Zz Y)
 ·exact oi [0] fun Y=>QaN (.int .u8 o.kind) QcI Y 0 (Zz Y)
 ·exact oi [1] fun Y=>QaT rfl rfl (Zz Y)
 ·exact oi [2] fun Y=>Qaf (.bool (decide (o.kind=3))) (Zz Y)
 ·exact ogi [3] fun hG Y=>Qac Qbz rfl (Zz Y)
 ·exact oyi [3,4] [4] fun hG Y=>QaN (.int .u8 o.kind) QcI Y 0 (Zz Y)
 ·exact oyi [3,5] [5] fun hG Y=>QaT rfl rfl (Zz Y)
 ·exact oi [3,6] fun Y=>QbP (h':=decide (o.kind=2)) rfl rfl rfl (Zz Y)
 ·exact oi [7] fun Y=>Qaf (.bool ((decide (o.kind=3))||(decide (o.kind=2)))) (Zz Y)
 ·exact ogi [8] fun hG Y=>Qac Qbz rfl (Zz Y)
 ·exact oyi [8,9] [9] fun hG Y=>QaN (.int .u8 e.kind) QcI Y 1 (Zz Y)
 ·exact oyi [8,10] [10] fun hG Y=>Qck rfl rfl (Zz Y)
 ·exact oi [8,11] fun Y=>Qbg (h':=!decide (e.kind=4)) rfl rfl rfl (Zz Y)
 ·exact oi [12] fun Y=>Qaf (.bool (((decide (o.kind=3))||(decide (o.kind=2)))&&(!decide (e.kind=4)))) (Zz Y)
 ·exact ogi [13] fun hG Y=>Qac Qcq rfl (Zz Y)
 ·exact oyi [13,14] [14] fun hG Y=>QaN (.int .u16 o.item) Qar Y 0 (Zz Y)
 ·exact ogi [13] fun hG Y=>Qac Qcq rfl (Zz Y)
 ·exact oyi [13,16] [16] fun hG Y=>QaN (.int .u16 e.item) Qar Y 1 (Zz Y)
 ·exact oyi [13,15,17] [15,17] fun hG Y=>QaT rfl rfl (Zz Y)
 ·exact oi [13,18] fun Y=>Qbg (h':=decide (o.item=e.item)) rfl rfl rfl (Zz Y)
 ·exact oi [19] fun Y=>Qam (.bool ((((decide (o.kind=3))||(decide (o.kind=2)))&&(!decide (e.kind=4)))&&(decide (o.item=e.item)))) (Zz Y)
 rintro J1 w10 J2 hJ Y
 replace hJ:J2=upd (mix (sq 26 20++[4]) J1 _) 4 (.bool ((((decide (o.kind=3))||(decide (o.kind=2)))&&(!decide (e.kind=4)))&&(decide (o.item=e.item)))):=hJ
 subst hJ
 refine Qav ?_
 refine ⟨_,Qan (V:=.bool ((((decide (o.kind=3))||(decide (o.kind=2)))&&(!decide (e.kind=4)))&&(decide (o.item=e.item)))) results97 rfl,(Zr Y ?_)⟩
 rw [QfQ c8 c8rr c8r]
 refine congrArg Value.bool ?_
 simp_all
 try exact Bool.and_assoc _ _ _
theorem QpU (w:World) (o:Opn) (ho:QbL o):Calls prog 151 #[.agg (oc o).toArray] w (fun e w'=>e = .returned (.bool (Qci o))/\Own w no w' []):=by
 refine Qah (n:=28) func151 rfl ntmps151 rfl ?_
 have Y:=Own.start w
 refine Qae (Qab (Qaa (QaY (V:=.agg (oc o).toArray) (cs:=oc o) rfl rfl Y fun b1 w2 Y=>(Qaa (Qam (.bool false) (Qad (Qae (Qae (Qab (Qaa (Qac Qbz rfl (Qaa (QaN (.int .u8 o.kind) QcI Y 0 (Qad (Qal (Qae (Qab (Qaa (QaT rfl rfl (Qaa (Qam (.bool (decide (o.kind=1))) (Qad (Qak (t:=decide (o.kind=1)) rfl (fun c3=>?_) (fun c3=>?_))))))))))))))))))))))))
 ·
  replace c3:=QQ1 c3
  refine Qae (Qab (Qaa (Qac QcP rfl (Qaa (QaN (I7 o.qty) Qar Y 0 (Qaa (Qca rfl rfl (Qaa (Qam (.bool (decide (0<o.qty))) (Qad (Qav ?_)))))))))))
  refine ⟨_,Qan (V:=.bool (decide (0<o.qty))) results151 rfl,(Zr Y (congrArg Value.bool ?_))⟩
  unfold Qci
  have ⟨_,_,_,_,⟨hq1,hq2⟩,_,_⟩:=ho
  simp_all
  try omega
 replace c3:=QQ2 c3
 refine Qae (Qab (Qaa (QaT rfl rfl (Qaa (Qam (.bool (decide (o.kind=2))) (Qad (Qak (t:=decide (o.kind=2)) rfl (fun c4=>?_) (fun c4=>?_))))))))
 ·
  replace c4:=QQ1 c4
  refine Qae (Qab (Qaa (Qam (.bool true) (Qad (Qav ?_)))))
  refine ⟨_,Qan (V:=.bool true) results151 rfl,(Zr Y (congrArg Value.bool ?_))⟩
  unfold Qci
  have ⟨_,_,_,_,⟨hq1,hq2⟩,_,_⟩:=ho
  simp_all
  try omega
 replace c4:=QQ2 c4
 refine Qae (Qab (Qaa (QaT rfl rfl (Qaa (Qam (.bool (decide (o.kind=3))) (Qad (Qak (t:=decide (o.kind=3)) rfl (fun c5=>?_) (fun c5=>?_))))))))
 ·
  replace c5:=QQ1 c5
  refine Qae (Qab (Qaa (Qac QcP rfl (Qaa (QaN (I7 o.qty) Qar Y 0 (Qaa (QaT rfl rfl (Qaa (Qam (.bool (decide (o.qty=0))) (Qad (Qav ?_)))))))))))
  refine ⟨_,Qan (V:=.bool (decide (o.qty=0))) results151 rfl,(Zr Y (congrArg Value.bool ?_))⟩
  unfold Qci
  have ⟨_,_,_,_,⟨hq1,hq2⟩,_,_⟩:=ho
  simp_all
  try omega
 replace c5:=QQ2 c5
 refine Qae (Qae (Qab (Qaa (QaT rfl rfl (Qaa (Qam (.bool (decide (o.kind=4))) (Qad (Qak (t:=decide (o.kind=4)) rfl (fun c6=>?_) (fun c6=>?_)))))))))
 ·
  replace c6:=QQ1 c6
  refine Qap (QcO (congrArg Value.bool (QQ3 c6)) ?_)
  refine Qae (Qbv (so 20 8++[some 2]) [] [0,1,3,7,15,31,63,127,255] [pv (Pq b1 (0+4)),pv (I7 o.item),pv (.bool (decide (o.item=0))),pv (.bool (decide (o.item=0))),pg ((decide (o.item=0)) == true) (Pq b1 (0+5)),pg ((decide (o.item=0)) == true) (I7 o.qty),pg ((decide (o.item=0)) == true) (.bool (decide (o.qty=0))),pv (.bool ((decide (o.item=0))&&(decide (o.qty=0)))),pv (.bool ((decide (o.item=0))&&(decide (o.qty=0))))] (fun _ _=>_) [8] (by kernel_rfl) Y ⟨?_,?_,?_,?_,?_,?_,?_,?_,?_,trivial⟩ ?_)
  ·exact oi [] fun Y=>Qac Qcq rfl (Zz Y)
  ·exact oi [0] fun Y=>QaN (.int .u16 o.item) Qar Y 0 (Zz Y)
  ·exact oi [1] fun Y=>QaT rfl rfl (Zz Y)
  ·exact oi [2] fun Y=>Qaf (.bool (decide (o.item=0))) (Zz Y)
  ·exact ogi [3] fun hG Y=>Qac QcP rfl (Zz Y)
  ·exact oyi [3,4] [4] fun hG Y=>QaN (.int .u16 o.qty) Qar Y 0 (Zz Y)
  ·exact oyi [3,5] [5] fun hG Y=>QaT rfl rfl (Zz Y)
  ·exact oi [3,6] fun Y=>Qbg (h':=decide (o.qty=0)) rfl rfl rfl (Zz Y)
  ·exact oi [7] fun Y=>Qam (.bool ((decide (o.item=0))&&(decide (o.qty=0)))) (Zz Y)
  rintro J1 w7 J2 hJ Y
  replace hJ:J2=upd (mix (sq 20 8++[2]) J1 _) 2 (.bool ((decide (o.item=0))&&(decide (o.qty=0)))):=hJ
  subst hJ
  refine Qav ?_
  refine ⟨_,Qan (V:=.bool ((decide (o.item=0))&&(decide (o.qty=0)))) results151 rfl,(Zr Y (congrArg Value.bool ?_))⟩
  unfold Qci
  have ⟨_,_,_,_,⟨hq1,hq2⟩,_,_⟩:=ho
  simp_all
  try omega
 replace c6:=QQ2 c6
 refine Qab (Qaa (QaT rfl rfl (Qaa (Qam (.bool (decide (o.kind=5))) (Qad (Qak (t:=decide (o.kind=5)) rfl (fun c8=>?_) (fun c8=>?_)))))))
 ·
  replace c8:=QQ1 c8
  refine Qae (Qbv (so 20 8++[some 2]) [] [0,1,3,7,15,31,63,127,255] [pv (Pq b1 (0+4)),pv (I7 o.item),pv (.bool (decide (o.item=0))),pv (.bool (decide (o.item=0))),pg ((decide (o.item=0)) == true) (Pq b1 (0+5)),pg ((decide (o.item=0)) == true) (I7 o.qty),pg ((decide (o.item=0)) == true) (.bool (decide (o.qty=0))),pv (.bool ((decide (o.item=0))&&(decide (o.qty=0)))),pv (.bool ((decide (o.item=0))&&(decide (o.qty=0))))] (fun _ _=>_) [8] (by kernel_rfl) Y ⟨?_,?_,?_,?_,?_,?_,?_,?_,?_,trivial⟩ ?_)
  ·exact oi [] fun Y=>Qac Qcq rfl (Zz Y)
  ·exact oi [0] fun Y=>QaN (.int .u16 o.item) Qar Y 0 (Zz Y)
  ·exact oi [1] fun Y=>QaT rfl rfl (Zz Y)
  ·exact oi [2] fun Y=>Qaf (.bool (decide (o.item=0))) (Zz Y)
  ·exact ogi [3] fun hG Y=>Qac QcP rfl (Zz Y)
  ·exact oyi [3,4] [4] fun hG Y=>QaN (.int .u16 o.qty) Qar Y 0 (Zz Y)
  ·exact oyi [3,5] [5] fun hG Y=>QaT rfl rfl (Zz Y)
  ·exact oi [3,6] fun Y=>Qbg (h':=decide (o.qty=0)) rfl rfl rfl (Zz Y)
  ·exact oi [7] fun Y=>Qam (.bool ((decide (o.item=0))&&(decide (o.qty=0)))) (Zz Y)
  rintro J1 w9 J2 hJ Y
  replace hJ:J2=upd (mix (sq 20 8++[2]) J1 _) 2 (.bool ((decide (o.item=0))&&(decide (o.qty=0)))):=hJ
  subst hJ
  refine Qav ?_
  refine ⟨_,Qan (V:=.bool ((decide (o.item=0))&&(decide (o.qty=0)))) results151 rfl,(Zr Y (congrArg Value.bool ?_))⟩
  unfold Qci
  have ⟨_,_,_,_,⟨hq1,hq2⟩,_,_⟩:=ho
  simp_all
  try omega
 replace c8:=QQ2 c8
 refine Qap (Qae (Qab (Qaa (Qam (.bool false) (Qad (Qav ?_))))))
 refine ⟨_,Qan (V:=.bool false) results151 rfl,(Zr Y (congrArg Value.bool ?_))⟩
 unfold Qci
 have ⟨_,_,_,_,⟨hq1,hq2⟩,_,_⟩:=ho
 simp_all
 try omega
theorem Qre (w:World) (o:Opn) (ho:QbL o):Calls prog 152 #[.agg (oc o).toArray] w (fun e w'=>e = .returned (.bool (Qci o))/\Own w no w' []):=by
 refine Qah (n:=28) func152 rfl ntmps152 rfl ?_
 have Y:=Own.start w
 refine Qae (Qab (Qaa (QaY (V:=.agg (oc o).toArray) (cs:=oc o) rfl rfl Y fun b1 w2 Y=>(Qaa (Qam (.bool false) (Qad (Qae (Qae (Qab (Qaa (Qac Qbz rfl (Qaa (QaN (.int .u8 o.kind) QcI Y 0 (Qad (Qal (Qae (Qab (Qaa (QaT rfl rfl (Qaa (Qam (.bool (decide (o.kind=1))) (Qad (Qak (t:=decide (o.kind=1)) rfl (fun c3=>?_) (fun c3=>?_))))))))))))))))))))))))
 ·
  replace c3:=QQ1 c3
  refine Qae (Qab (Qaa (Qac QcP rfl (Qaa (QaN (I7 o.qty) Qar Y 0 (Qaa (QcZ rfl rfl (Qaa (Qam (.bool (decide (1<=o.qty))) (Qad (Qav ?_)))))))))))
  refine ⟨_,Qan (V:=.bool (decide (1<=o.qty))) results152 rfl,(Zr Y (congrArg Value.bool ?_))⟩
  unfold Qci
  have ⟨_,_,_,_,⟨hq1,hq2⟩,_,_⟩:=ho
  simp_all
  try omega
 replace c3:=QQ2 c3
 refine Qae (Qab (Qaa (QaT rfl rfl (Qaa (Qam (.bool (decide (o.kind=2))) (Qad (Qak (t:=decide (o.kind=2)) rfl (fun c4=>?_) (fun c4=>?_))))))))
 ·
  replace c4:=QQ1 c4
  refine Qae (Qab (Qaa (Qam (.bool true) (Qad (Qav ?_)))))
  refine ⟨_,Qan (V:=.bool true) results152 rfl,(Zr Y (congrArg Value.bool ?_))⟩
  unfold Qci
  have ⟨_,_,_,_,⟨hq1,hq2⟩,_,_⟩:=ho
  simp_all
  try omega
 replace c4:=QQ2 c4
 refine Qae (Qab (Qaa (QaT rfl rfl (Qaa (Qam (.bool (decide (o.kind=3))) (Qad (Qak (t:=decide (o.kind=3)) rfl (fun c5=>?_) (fun c5=>?_))))))))
 ·
  replace c5:=QQ1 c5
  refine Qae (Qab (Qaa (Qac QcP rfl (Qaa (QaN (I7 o.qty) Qar Y 0 (Qaa (QaT rfl rfl (Qaa (Qam (.bool (decide (o.qty=0))) (Qad (Qav ?_)))))))))))
  refine ⟨_,Qan (V:=.bool (decide (o.qty=0))) results152 rfl,(Zr Y (congrArg Value.bool ?_))⟩
  unfold Qci
  have ⟨_,_,_,_,⟨hq1,hq2⟩,_,_⟩:=ho
  simp_all
  try omega
 replace c5:=QQ2 c5
 refine Qae (Qae (Qab (Qaa (QaT rfl rfl (Qaa (Qam (.bool (decide (o.kind=4))) (Qad (Qak (t:=decide (o.kind=4)) rfl (fun c6=>?_) (fun c6=>?_)))))))))
 ·
  replace c6:=QQ1 c6
  refine Qap (QcO (congrArg Value.bool (QQ3 c6)) ?_)
  refine Qae (Qbv (so 20 8++[some 2]) [] [0,1,3,7,15,31,63,127,255] [pv (Pq b1 (0+4)),pv (I7 o.item),pv (.bool (decide (o.item=0))),pv (.bool (decide (o.item=0))),pg ((decide (o.item=0)) == true) (Pq b1 (0+5)),pg ((decide (o.item=0)) == true) (I7 o.qty),pg ((decide (o.item=0)) == true) (.bool (decide (o.qty=0))),pv (.bool ((decide (o.item=0))&&(decide (o.qty=0)))),pv (.bool ((decide (o.item=0))&&(decide (o.qty=0))))] (fun _ _=>_) [8] (by kernel_rfl) Y ⟨?_,?_,?_,?_,?_,?_,?_,?_,?_,trivial⟩ ?_)
  ·exact oi [] fun Y=>Qac Qcq rfl (Zz Y)
  ·exact oi [0] fun Y=>QaN (.int .u16 o.item) Qar Y 0 (Zz Y)
  ·exact oi [1] fun Y=>QaT rfl rfl (Zz Y)
  ·exact oi [2] fun Y=>Qaf (.bool (decide (o.item=0))) (Zz Y)
  ·exact ogi [3] fun hG Y=>Qac QcP rfl (Zz Y)
  ·exact oyi [3,4] [4] fun hG Y=>QaN (.int .u16 o.qty) Qar Y 0 (Zz Y)
  ·exact oyi [3,5] [5] fun hG Y=>QaT rfl rfl (Zz Y)
  ·exact oi [3,6] fun Y=>Qbg (h':=decide (o.qty=0)) rfl rfl rfl (Zz Y)
  ·exact oi [7] fun Y=>Qam (.bool ((decide (o.item=0))&&(decide (o.qty=0)))) (Zz Y)
  rintro J1 w7 J2 hJ Y
  replace hJ:J2=upd (mix (sq 20 8++[2]) J1 _) 2 (.bool ((decide (o.item=0))&&(decide (o.qty=0)))):=hJ
  subst hJ
  refine Qav ?_
  refine ⟨_,Qan (V:=.bool ((decide (o.item=0))&&(decide (o.qty=0)))) results152 rfl,(Zr Y (congrArg Value.bool ?_))⟩
  unfold Qci
  have ⟨_,_,_,_,⟨hq1,hq2⟩,_,_⟩:=ho
  simp_all
  try omega
 replace c6:=QQ2 c6
 refine Qab (Qaa (QaT rfl rfl (Qaa (Qam (.bool (decide (o.kind=5))) (Qad (Qak (t:=decide (o.kind=5)) rfl (fun c8=>?_) (fun c8=>?_)))))))
 ·
  replace c8:=QQ1 c8
  refine Qae (Qbv (so 20 8++[some 2]) [] [0,1,3,7,15,31,63,127,255] [pv (Pq b1 (0+4)),pv (I7 o.item),pv (.bool (decide (o.item=0))),pv (.bool (decide (o.item=0))),pg ((decide (o.item=0)) == true) (Pq b1 (0+5)),pg ((decide (o.item=0)) == true) (I7 o.qty),pg ((decide (o.item=0)) == true) (.bool (decide (o.qty=0))),pv (.bool ((decide (o.item=0))&&(decide (o.qty=0)))),pv (.bool ((decide (o.item=0))&&(decide (o.qty=0))))] (fun _ _=>_) [8] (by kernel_rfl) Y ⟨?_,?_,?_,?_,?_,?_,?_,?_,?_,trivial⟩ ?_)
  ·exact oi [] fun Y=>Qac Qcq rfl (Zz Y)
  ·exact oi [0] fun Y=>QaN (.int .u16 o.item) Qar Y 0 (Zz Y)
  ·exact oi [1] fun Y=>QaT rfl rfl (Zz Y)
  ·exact oi [2] fun Y=>Qaf (.bool (decide (o.item=0))) (Zz Y)
  ·exact ogi [3] fun hG Y=>Qac QcP rfl (Zz Y)
  ·exact oyi [3,4] [4] fun hG Y=>QaN (.int .u16 o.qty) Qar Y 0 (Zz Y)
  ·exact oyi [3,5] [5] fun hG Y=>QaT rfl rfl (Zz Y)
  ·exact oi [3,6] fun Y=>Qbg (h':=decide (o.qty=0)) rfl rfl rfl (Zz Y)
  ·exact oi [7] fun Y=>Qam (.bool ((decide (o.item=0))&&(decide (o.qty=0)))) (Zz Y)
  rintro J1 w9 J2 hJ Y
  replace hJ:J2=upd (mix (sq 20 8++[2]) J1 _) 2 (.bool ((decide (o.item=0))&&(decide (o.qty=0)))):=hJ
  subst hJ
  refine Qav ?_
  refine ⟨_,Qan (V:=.bool ((decide (o.item=0))&&(decide (o.qty=0)))) results152 rfl,(Zr Y (congrArg Value.bool ?_))⟩
  unfold Qci
  have ⟨_,_,_,_,⟨hq1,hq2⟩,_,_⟩:=ho
  simp_all
  try omega
 replace c8:=QQ2 c8
 refine Qap (Qae (Qab (Qaa (Qam (.bool false) (Qad (Qav ?_))))))
 refine ⟨_,Qan (V:=.bool false) results152 rfl,(Zr Y (congrArg Value.bool ?_))⟩
 unfold Qci
 have ⟨_,_,_,_,⟨hq1,hq2⟩,_,_⟩:=ho
 simp_all
 try omega
theorem QiQ (w:World) (o:Opn) (n:Int) (hO:QbL o):Calls prog 103 #[.agg (oc o).toArray,.int .i64 n] w (fun e w'=>e = .returned (.bool (Qbh o n))/\Own w no w' []):=by
 refine Qah (n:=50) func103 rfl ntmps103 rfl ?_
 have Y:=Own.start w
 have ⟨⟨⟨hr1,hr2⟩,hr3,hr4⟩,_,_,_,⟨hq1,hq2⟩,_,hctx⟩:=hO
 refine Qae (Qab (Qaa (QaY (V:=.agg (oc o).toArray) (cs:=oc o) rfl rfl Y fun b1 w2 Y=>(Qaa (Qam (.bool false) (Qad (Qae (Qae (Qbv (so 6 23) [] [0,1,0,7,15,31,63,127,255,511,63,2047,4095,8191,16383,32767,65535,131071,262143,524287,1048575,2097151,4194303] [pv (Pq b1 (0+7)),pv (.agg (vc o.ctx).toArray),pv (I6 n),pv (.bool (QaQ o.ctx n)),pv (.bool (!(QaQ o.ctx n))),pv (.bool (!(QaQ o.ctx n))),pg ((!(QaQ o.ctx n)) == false) (Pq b1 (0+0)),pg ((!(QaQ o.ctx n)) == false) (Pq b1 (0+0+0)),pg ((!(QaQ o.ctx n)) == false) (.int .u8 o.dot.rep),pg ((!(QaQ o.ctx n)) == false) (I6 o.dot.rep),pg ((!(QaQ o.ctx n)) == false) (I6 n),pg ((!(QaQ o.ctx n)) == false) (.bool (decide (n<=o.dot.rep))),pv (.bool ((!(QaQ o.ctx n))||(decide (n<=o.dot.rep)))),pv (.bool ((!(QaQ o.ctx n))||(decide (n<=o.dot.rep)))),pg (((!(QaQ o.ctx n))||(decide (n<=o.dot.rep))) == false) (Pq b1 (0+6)),pg (((!(QaQ o.ctx n))||(decide (n<=o.dot.rep))) == false) (.int .u32 o.tick),pg (((!(QaQ o.ctx n))||(decide (n<=o.dot.rep))) == false) (.bool (decide (1073741824<o.tick))),pv (.bool (((!(QaQ o.ctx n))||(decide (n<=o.dot.rep)))||(decide (1073741824<o.tick)))),pv (.bool (((!(QaQ o.ctx n))||(decide (n<=o.dot.rep)))||(decide (1073741824<o.tick)))),pg ((((!(QaQ o.ctx n))||(decide (n<=o.dot.rep)))||(decide (1073741824<o.tick))) == false) (.agg (oc o).toArray),pg ((((!(QaQ o.ctx n))||(decide (n<=o.dot.rep)))||(decide (1073741824<o.tick))) == false) (.bool (Qci o)),pg ((((!(QaQ o.ctx n))||(decide (n<=o.dot.rep)))||(decide (1073741824<o.tick))) == false) (.bool (!(Qci o))),pv (.bool ((((!(QaQ o.ctx n))||(decide (n<=o.dot.rep)))||(decide (1073741824<o.tick)))||(!(Qci o))))] (fun _ _=>_) [22] (by kernel_rfl) Y ⟨?_,?_,?_,?_,?_,?_,?_,?_,?_,?_,?_,?_,?_,?_,?_,?_,?_,?_,?_,?_,?_,?_,?_,trivial⟩ ?_)))))))))
 ·exact oi [] fun Y=>Qac QcG rfl (Zz Y)
 ·exact oi [0] fun Y=>QbT (vs:=vc o.ctx) QbC Y 0 rfl rfl rfl rfl (Zz Y)
 ·exact oi [] fun Y=>Qaf (.int .i64 n) (Zz Y)
 ·exact oi [1,2] fun Y=>Qas (vs:=[.agg (vc o.ctx).toArray,.int .i64 n]) (V:=.bool (QaQ o.ctx n)) QtF rfl rfl (QgW _ o.ctx n (by first|assumption|exact Qch)) Y fun _ Y=>Zz Y
 ·exact oi [3] fun Y=>QbB rfl (Zz Y)
 ·exact oi [4] fun Y=>Qaf (.bool (!(QaQ o.ctx n))) (Zz Y)
 ·exact ogi [5] fun hG Y=>Qac Qa7 rfl (Zz Y)
 ·exact oyi [5,6] [6] fun hG Y=>Qac QbJ rfl (Zz Y)
 ·exact oyi [5,7] [7] fun hG Y=>QaN (.int .u8 o.dot.rep) QcI Y 0 (Zz Y)
 ·exact oyi [5,8] [8] fun hG Y=>QbV QxR Qhk rfl (Qbx (by omega) (by omega)) (Zz Y)
 ·exact ogi [5] fun hG Y=>Qaf (.int .i64 n) (Zz Y)
 ·exact oyi [5,9,10] [9,10] fun hG Y=>QcZ rfl rfl (Zz Y)
 ·exact oi [5,11] fun Y=>QbP (h':=decide (n<=o.dot.rep)) rfl rfl rfl (Zz Y)
 ·exact oi [12] fun Y=>Qaf (.bool ((!(QaQ o.ctx n))||(decide (n<=o.dot.rep)))) (Zz Y)
 ·exact ogi [13] fun hG Y=>Qac Qf2 rfl (Zz Y)
 ·exact oyi [13,14] [14] fun hG Y=>QaN (.int .u32 o.tick) QaU Y 0 (Zz Y)
 ·exact oyi [13,15] [15] fun hG Y=>Qca rfl rfl (Zz Y)
 ·exact oi [13,16] fun Y=>QbP (h':=decide (1073741824<o.tick)) rfl rfl rfl (Zz Y)
 ·exact oi [17] fun Y=>Qaf (.bool (((!(QaQ o.ctx n))||(decide (n<=o.dot.rep)))||(decide (1073741824<o.tick)))) (Zz Y)
 ·exact ogi [18] fun hG Y=>QaK (cs:=oc o) Qa3 Y 0 rfl rfl rfl (Zz Y)
 ·exact oyi [18,19] [19] fun hG Y=>Qas (vs:=[.agg (oc o).toArray]) (V:=.bool (Qci o)) QuZ rfl rfl (QpU _ o (by assumption)) Y fun _ Y=>Zz Y
 ·exact oyi [18,20] [20] fun hG Y=>QbB rfl (Zz Y)
 ·exact oi [18,21] fun Y=>QbP (h':=!(Qci o)) rfl rfl rfl (Zz Y)
 rintro J1 w5 J2 hJ Y
 replace hJ:J2=upd (mix (sq 6 23) J1 _) 28 (.bool ((((!(QaQ o.ctx n))||(decide (n<=o.dot.rep)))||(decide (1073741824<o.tick)))||(!(Qci o)))):=hJ
 subst hJ
 refine Qak (t:=(((!(QaQ o.ctx n))||(decide (n<=o.dot.rep)))||(decide (1073741824<o.tick)))||(!(Qci o))) rfl (fun c6=>?_) (fun c6=>?_)
 ·
  refine Qae (Qab (Qaa (Qam (.bool false) (Qad (Qav ?_)))))
  refine ⟨_,Qan (V:=.bool false) results103 rfl,(Zr Y ?_)⟩
  exact congrArg Value.bool (Qrl c6).symm
 have c6r:=Qfa c6
 replace c6:=Qe8 c6
 have c6rr:=Qfa c6
 replace c6:=Qe8 c6
 have c6rrr:=Qfa c6
 replace c6:=Qe8 c6
 replace c6:=Qbd c6
 replace c6rrr:=QQ2 c6rrr
 replace c6rr:=QQ2 c6rr
 replace c6r:=Qbd c6r
 refine Qap (Qae (Qab (Qaa (Qac Qa7 rfl (Qaa (QbT (vs:=dc o.dot) QcV Y 0 rfl rfl rfl rfl (Qaa (QaJ (cs:=dc (⟨0,0⟩:Dot)) Qxq rfl Y fun b7 w8 Y=>(Qaa (Qcz (V:=.agg (dc o.dot).toArray) (vs:=dc o.dot) (cs':=dc o.dot) QcV.1 Y 1 rfl rfl rfl rfl rfl (QQ8 rfl) (Qu9 _) (Qaz rfl) fun w9 Y=>(Qad (Qae ?_))))))))))))
 have hnn:=Qii c6
 refine QaH HM (so 31 19++[some 4]) [] [0,1,3,7,15,31,63,127,255,511,1023,511,4095,8191,511,16895,49663,131071,262143,524287] [pv (Pq b7 (0+1)),pv (.int .u32 o.dot.seq),pv (.bool (decide (1<=o.dot.seq))),pv (.bool (decide (1<=o.dot.seq))),pg ((decide (1<=o.dot.seq)) == true) (Pq b7 (0+1)),pg ((decide (1<=o.dot.seq)) == true) (.int .u32 o.dot.seq),pg ((decide (1<=o.dot.seq)) == true) (.bool (decide (o.dot.seq<=1048576))),pv (.bool ((decide (1<=o.dot.seq))&&(decide (o.dot.seq<=1048576)))),pv (.bool ((decide (1<=o.dot.seq))&&(decide (o.dot.seq<=1048576)))),pg (((decide (1<=o.dot.seq))&&(decide (o.dot.seq<=1048576))) == true) (Pq b7 (0+0)),pg (((decide (1<=o.dot.seq))&&(decide (o.dot.seq<=1048576))) == true) (.int .u8 o.dot.rep),pg (((decide (1<=o.dot.seq))&&(decide (o.dot.seq<=1048576))) == true) (Pq b1 (0+7)),pg (((decide (1<=o.dot.seq))&&(decide (o.dot.seq<=1048576))) == true) (.pointer (some ⟨b1,0+7+o.dot.rep.toNat,none⟩)),pg (((decide (1<=o.dot.seq))&&(decide (o.dot.seq<=1048576))) == true) (.int .u32 (vat o.ctx o.dot.rep.toNat)),pg (((decide (1<=o.dot.seq))&&(decide (o.dot.seq<=1048576))) == true) (Pq b7 (0+1)),pg (((decide (1<=o.dot.seq))&&(decide (o.dot.seq<=1048576))) == true) (.int .u32 o.dot.seq),pg (((decide (1<=o.dot.seq))&&(decide (o.dot.seq<=1048576))) == true) (.int .u32 (o.dot.seq-1)),pg (((decide (1<=o.dot.seq))&&(decide (o.dot.seq<=1048576))) == true) (.bool (decide (vat o.ctx o.dot.rep.toNat=o.dot.seq-1))),pv (.bool (((decide (1<=o.dot.seq))&&(decide (o.dot.seq<=1048576)))&&(decide (vat o.ctx o.dot.rep.toNat=o.dot.seq-1)))),pv (.bool (((decide (1<=o.dot.seq))&&(decide (o.dot.seq<=1048576)))&&(decide (vat o.ctx o.dot.rep.toNat=o.dot.seq-1))))] (fun _ _=>_) [19] (by kernel_rfl) Y ⟨?_,?_,?_,?_,?_,?_,?_,?_,?_,?_,?_,?_,?_,?_,?_,?_,?_,?_,?_,?_,trivial⟩ ?_
 ·exact oi [] fun Y=>Qac QbN rfl (Zz Y)
 ·exact oi [0] fun Y=>QaN (.int .u32 o.dot.seq) QaU Y 1 (Zz Y)
 ·exact oi [1] fun Y=>QcZ rfl rfl (Zz Y)
 ·exact oi [2] fun Y=>Qaf (.bool (decide (1<=o.dot.seq))) (Zz Y)
 ·exact ogi [3] fun hG Y=>Qac QbN rfl (Zz Y)
 ·exact oyi [3,4] [4] fun hG Y=>QaN (.int .u32 o.dot.seq) QaU Y 1 (Zz Y)
 ·exact oyi [3,5] [5] fun hG Y=>Qew rfl rfl (Zz Y)
 ·exact oi [3,6] fun Y=>Qbg (h':=decide (o.dot.seq<=1048576)) rfl rfl rfl (Zz Y)
 ·exact oi [7] fun Y=>Qaf (.bool ((decide (1<=o.dot.seq))&&(decide (o.dot.seq<=1048576)))) (Zz Y)
 ·refine ogi [8] fun hG Y=>?_
  have hg9:=QbZ (eq_of_beq hG)
  have hgd:=QQ1 hg9
  exact Qac QbJ rfl (Zz Y)
 ·refine oyi [8,9] [9] fun hG Y=>?_
  have hg9:=QbZ (eq_of_beq hG)
  have hgd:=QQ1 hg9
  exact QaN (.int .u8 o.dot.rep) QcI Y 1 (Zz Y)
 ·refine ogi [8] fun hG Y=>?_
  have hg9:=QbZ (eq_of_beq hG)
  have hgd:=QQ1 hg9
  exact Qac QcG rfl (Zz Y)
 ·refine oyi [8,10,11] [10,11] fun hG Y=>?_
  have hg9:=QbZ (eq_of_beq hG)
  have hgd:=QQ1 hg9
  exact Qb2 Qd0 QaU.1 rfl rfl (by omega) (by omega) (Zz Y)
 ·refine oyi [8,12] [12] fun hG Y=>?_
  have hg9:=QbZ (eq_of_beq hG)
  have hgd:=QQ1 hg9
  exact Qmo (V:=.int .u32 (vat o.ctx o.dot.rep.toNat)) QaU Y 0 rfl rfl (Qrs (by omega) (by omega)) (Zz Y)
 ·refine ogi [8] fun hG Y=>?_
  have hg9:=QbZ (eq_of_beq hG)
  have hgd:=QQ1 hg9
  exact Qac QbN rfl (Zz Y)
 ·refine oyi [8,14] [14] fun hG Y=>?_
  have hg9:=QbZ (eq_of_beq hG)
  have hgd:=QQ1 hg9
  exact QaN (.int .u32 o.dot.seq) QaU Y 1 (Zz Y)
 ·refine oyi [8,15] [15] fun hG Y=>?_
  have hg9:=QbZ (eq_of_beq hG)
  have hgd:=QQ1 hg9
  exact Qbb (a:=o.dot.seq) (b:=1) (c:=o.dot.seq-1) rfl rfl (QeX (by omega) (by omega)) (Zz Y)
 ·refine oyi [8,13,16] [13,16] fun hG Y=>?_
  have hg9:=QbZ (eq_of_beq hG)
  have hgd:=QQ1 hg9
  exact QaT rfl rfl (Zz Y)
 ·exact oi [8,17] fun Y=>Qbg (h':=decide (vat o.ctx o.dot.rep.toNat=o.dot.seq-1)) rfl rfl rfl (Zz Y)
 ·exact oi [18] fun Y=>Qam (.bool (((decide (1<=o.dot.seq))&&(decide (o.dot.seq<=1048576)))&&(decide (vat o.ctx o.dot.rep.toNat=o.dot.seq-1)))) (Zz Y)
 rintro J1 w10 J2 hJ Y
 replace hJ:J2=upd (mix (sq 31 19++[4]) J1 _) 4 (.bool (((decide (1<=o.dot.seq))&&(decide (o.dot.seq<=1048576)))&&(decide (vat o.ctx o.dot.rep.toNat=o.dot.seq-1)))):=hJ
 subst hJ
 refine Qav ?_
 refine ⟨_,Qan (V:=.bool (((decide (1<=o.dot.seq))&&(decide (o.dot.seq<=1048576)))&&(decide (vat o.ctx o.dot.rep.toNat=o.dot.seq-1)))) results103 rfl,(Zr Y ?_)⟩
 exact congrArg Value.bool (QpS c6 c6rrr c6rr c6r).symm
theorem Qmn (w:World) (o:Opn) (n:Int) (hO:QbL o):Calls prog 105 #[.agg (oc o).toArray,.int .i64 n] w (fun e w'=>e = .returned (.bool (Qbh o n))/\Own w no w' []):=by
 refine Qah (n:=52) func105 rfl ntmps105 rfl ?_
 have Y:=Own.start w
 have ⟨⟨⟨hr1,hr2⟩,hr3,hr4⟩,_,_,_,⟨hq1,hq2⟩,_,hctx⟩:=hO
 refine Qae (Qab (Qaa (QaY (V:=.agg (oc o).toArray) (cs:=oc o) rfl rfl Y fun b1 w2 Y=>(Qaa (Qam (.bool false) (Qad (Qae (Qae (Qbv (so 5 27) [] [0,1,3,7,15,31,63,127,255,511,1023,127,4095,8191,16383,32767,65535,131071,262143,524287,1048575,2097151,4194303,2097151,16777215,33554431,67108863] [pv (I6 n),pv (.bool (decide (n<1))),pv (.bool (decide (n<1))),pg ((decide (n<1)) == false) (I6 n),pg ((decide (n<1)) == false) (.bool (decide (16<n))),pv (.bool ((decide (n<1))||(decide (16<n)))),pv (.bool ((decide (n<1))||(decide (16<n)))),pg (((decide (n<1))||(decide (16<n))) == false) (Pq b1 (0+0)),pg (((decide (n<1))||(decide (16<n))) == false) (Pq b1 (0+0+0)),pg (((decide (n<1))||(decide (16<n))) == false) (.int .u8 o.dot.rep),pg (((decide (n<1))||(decide (16<n))) == false) (I6 o.dot.rep),pg (((decide (n<1))||(decide (16<n))) == false) (I6 n),pg (((decide (n<1))||(decide (16<n))) == false) (.bool (decide (n<=o.dot.rep))),pv (.bool (((decide (n<1))||(decide (16<n)))||(decide (n<=o.dot.rep)))),pv (.bool (((decide (n<1))||(decide (16<n)))||(decide (n<=o.dot.rep)))),pg ((((decide (n<1))||(decide (16<n)))||(decide (n<=o.dot.rep))) == false) (Pq b1 (0+0)),pg ((((decide (n<1))||(decide (16<n)))||(decide (n<=o.dot.rep))) == false) (.agg (dc o.dot).toArray),pg ((((decide (n<1))||(decide (16<n)))||(decide (n<=o.dot.rep))) == false) (.bool (QbQ o.dot)),pg ((((decide (n<1))||(decide (16<n)))||(decide (n<=o.dot.rep))) == false) (.bool (!(QbQ o.dot))),pv (.bool ((((decide (n<1))||(decide (16<n)))||(decide (n<=o.dot.rep)))||(!(QbQ o.dot)))),pv (.bool ((((decide (n<1))||(decide (16<n)))||(decide (n<=o.dot.rep)))||(!(QbQ o.dot)))),pg (((((decide (n<1))||(decide (16<n)))||(decide (n<=o.dot.rep)))||(!(QbQ o.dot))) == false) (Pq b1 (0+7)),pg (((((decide (n<1))||(decide (16<n)))||(decide (n<=o.dot.rep)))||(!(QbQ o.dot))) == false) (.agg (vc o.ctx).toArray),pg (((((decide (n<1))||(decide (16<n)))||(decide (n<=o.dot.rep)))||(!(QbQ o.dot))) == false) (I6 n),pg (((((decide (n<1))||(decide (16<n)))||(decide (n<=o.dot.rep)))||(!(QbQ o.dot))) == false) (.bool (QaQ o.ctx n)),pg (((((decide (n<1))||(decide (16<n)))||(decide (n<=o.dot.rep)))||(!(QbQ o.dot))) == false) (.bool (!(QaQ o.ctx n))),pv (.bool (((((decide (n<1))||(decide (16<n)))||(decide (n<=o.dot.rep)))||(!(QbQ o.dot)))||(!(QaQ o.ctx n))))] (fun _ _=>_) [26] (by kernel_rfl) Y ⟨?_,?_,?_,?_,?_,?_,?_,?_,?_,?_,?_,?_,?_,?_,?_,?_,?_,?_,?_,?_,?_,?_,?_,?_,?_,?_,?_,trivial⟩ ?_)))))))))
 ·exact oi [] fun Y=>Qaf (.int .i64 n) (Zz Y)
 ·exact oi [0] fun Y=>Qa0 rfl rfl (Zz Y)
 ·exact oi [1] fun Y=>Qaf (.bool (decide (n<1))) (Zz Y)
 ·exact ogi [2] fun hG Y=>Qaf (.int .i64 n) (Zz Y)
 ·exact oyi [2,3] [3] fun hG Y=>Qca rfl rfl (Zz Y)
 ·exact oi [2,4] fun Y=>QbP (h':=decide (16<n)) rfl rfl rfl (Zz Y)
 ·exact oi [5] fun Y=>Qaf (.bool ((decide (n<1))||(decide (16<n)))) (Zz Y)
 ·exact ogi [6] fun hG Y=>Qac Qa7 rfl (Zz Y)
 ·exact oyi [6,7] [7] fun hG Y=>Qac QbJ rfl (Zz Y)
 ·exact oyi [6,8] [8] fun hG Y=>QaN (.int .u8 o.dot.rep) QcI Y 0 (Zz Y)
 ·exact oyi [6,9] [9] fun hG Y=>QbV QxR Qhk rfl (Qbx (by omega) (by omega)) (Zz Y)
 ·exact ogi [6] fun hG Y=>Qaf (.int .i64 n) (Zz Y)
 ·exact oyi [6,10,11] [10,11] fun hG Y=>QcZ rfl rfl (Zz Y)
 ·exact oi [6,12] fun Y=>QbP (h':=decide (n<=o.dot.rep)) rfl rfl rfl (Zz Y)
 ·exact oi [13] fun Y=>Qaf (.bool (((decide (n<1))||(decide (16<n)))||(decide (n<=o.dot.rep)))) (Zz Y)
 ·exact ogi [14] fun hG Y=>Qac Qa7 rfl (Zz Y)
 ·exact oyi [14,15] [15] fun hG Y=>QbT (vs:=dc o.dot) QcV Y 0 rfl rfl rfl rfl (Zz Y)
 ·exact oyi [14,16] [16] fun hG Y=>Qas (vs:=[.agg (dc o.dot).toArray]) (V:=.bool (QbQ o.dot)) Qor rfl rfl (QjK _ o.dot) Y fun _ Y=>Zz Y
 ·exact oyi [14,17] [17] fun hG Y=>QbB rfl (Zz Y)
 ·exact oi [14,18] fun Y=>QbP (h':=!(QbQ o.dot)) rfl rfl rfl (Zz Y)
 ·exact oi [19] fun Y=>Qaf (.bool ((((decide (n<1))||(decide (16<n)))||(decide (n<=o.dot.rep)))||(!(QbQ o.dot)))) (Zz Y)
 ·exact ogi [20] fun hG Y=>Qac QcG rfl (Zz Y)
 ·exact oyi [20,21] [21] fun hG Y=>QbT (vs:=vc o.ctx) QbC Y 0 rfl rfl rfl rfl (Zz Y)
 ·exact ogi [20] fun hG Y=>Qaf (.int .i64 n) (Zz Y)
 ·exact oyi [20,22,23] [22,23] fun hG Y=>Qas (vs:=[.agg (vc o.ctx).toArray,.int .i64 n]) (V:=.bool (QaQ o.ctx n)) Qvu rfl rfl (Qjg _ o.ctx n (by first|assumption|exact Qch)) Y fun _ Y=>Zz Y
 ·exact oyi [20,24] [24] fun hG Y=>QbB rfl (Zz Y)
 ·exact oi [20,25] fun Y=>QbP (h':=!(QaQ o.ctx n)) rfl rfl rfl (Zz Y)
 rintro J1 w5 J2 hJ Y
 replace hJ:J2=upd (mix (sq 5 27) J1 _) 31 (.bool (((((decide (n<1))||(decide (16<n)))||(decide (n<=o.dot.rep)))||(!(QbQ o.dot)))||(!(QaQ o.ctx n)))):=hJ
 subst hJ
 refine Qak (t:=((((decide (n<1))||(decide (16<n)))||(decide (n<=o.dot.rep)))||(!(QbQ o.dot)))||(!(QaQ o.ctx n))) rfl (fun c6=>?_) (fun c6=>?_)
 ·
  refine Qae (Qab (Qaa (Qam (.bool false) (Qad (Qav ?_)))))
  refine ⟨_,Qan (V:=.bool false) results105 rfl,(Zr Y ?_)⟩
  exact congrArg Value.bool (Qnu c6).symm
 have c6r:=Qfa c6
 replace c6:=Qe8 c6
 have c6rr:=Qfa c6
 replace c6:=Qe8 c6
 have c6rrr:=Qfa c6
 replace c6:=Qe8 c6
 have c6rrrr:=Qfa c6
 replace c6:=Qe8 c6
 replace c6:=QQ2 c6
 replace c6rrrr:=QQ2 c6rrrr
 replace c6rrr:=QQ2 c6rrr
 replace c6rr:=Qbd c6rr
 replace c6r:=Qbd c6r
 refine Qap (Qae ?_)
 have hnn:=Qii c6r
 have hdd:=QaS c6rr
 refine QaH HM (so 32 20++[some 4]) [] [0,1,3,0,15,31,0,64,192,448,1023,2047,4095,8191,16383,32767,65535,131071,262143,524287,1048575] [pv (Pq b1 (0+0)),pv (Pq b1 (0+0+0)),pv (.int .u8 o.dot.rep),pv (Pq b1 (0+7)),pv (.pointer (some ⟨b1,0+7+o.dot.rep.toNat,none⟩)),pv (.int .u32 (vat o.ctx o.dot.rep.toNat)),pv (Pq b1 (0+0)),pv (Pq b1 (0+0+1)),pv (.int .u32 o.dot.seq),pv (.int .u32 (o.dot.seq-1)),pv (.bool (decide (vat o.ctx o.dot.rep.toNat=o.dot.seq-1))),pv (.bool (decide (vat o.ctx o.dot.rep.toNat=o.dot.seq-1))),pg ((decide (vat o.ctx o.dot.rep.toNat=o.dot.seq-1)) == true) (Pq b1 (0+6)),pg ((decide (vat o.ctx o.dot.rep.toNat=o.dot.seq-1)) == true) (.int .u32 o.tick),pg ((decide (vat o.ctx o.dot.rep.toNat=o.dot.seq-1)) == true) (.bool (decide (o.tick<=1073741824))),pv (.bool ((decide (vat o.ctx o.dot.rep.toNat=o.dot.seq-1))&&(decide (o.tick<=1073741824)))),pv (.bool ((decide (vat o.ctx o.dot.rep.toNat=o.dot.seq-1))&&(decide (o.tick<=1073741824)))),pg (((decide (vat o.ctx o.dot.rep.toNat=o.dot.seq-1))&&(decide (o.tick<=1073741824))) == true) (.agg (oc o).toArray),pg (((decide (vat o.ctx o.dot.rep.toNat=o.dot.seq-1))&&(decide (o.tick<=1073741824))) == true) (.bool (Qci o)),pv (.bool (((decide (vat o.ctx o.dot.rep.toNat=o.dot.seq-1))&&(decide (o.tick<=1073741824)))&&(Qci o))),pv (.bool (((decide (vat o.ctx o.dot.rep.toNat=o.dot.seq-1))&&(decide (o.tick<=1073741824)))&&(Qci o)))] (fun _ _=>_) [20] (by kernel_rfl) Y ⟨?_,?_,?_,?_,?_,?_,?_,?_,?_,?_,?_,?_,?_,?_,?_,?_,?_,?_,?_,?_,?_,trivial⟩ ?_
 ·exact oi [] fun Y=>Qac Qa7 rfl (Zz Y)
 ·exact oi [0] fun Y=>Qac QbJ rfl (Zz Y)
 ·exact oi [1] fun Y=>QaN (.int .u8 o.dot.rep) QcI Y 0 (Zz Y)
 ·exact oi [] fun Y=>Qac QcG rfl (Zz Y)
 ·exact oi [2,3] fun Y=>Qb2 Qd0 QaU.1 rfl rfl (by omega) (by omega) (Zz Y)
 ·exact oi [4] fun Y=>Qmo (V:=.int .u32 (vat o.ctx o.dot.rep.toNat)) QaU Y 0 rfl rfl (Qrs (by omega) (by omega)) (Zz Y)
 ·exact oi [] fun Y=>Qac Qa7 rfl (Zz Y)
 ·exact oi [6] fun Y=>Qac QbN rfl (Zz Y)
 ·exact oi [7] fun Y=>QaN (.int .u32 o.dot.seq) QaU Y 0 (Zz Y)
 ·exact oi [8] fun Y=>Qbb (a:=o.dot.seq) (b:=1) (c:=o.dot.seq-1) rfl rfl (QeX (by omega) (by omega)) (Zz Y)
 ·exact oi [5,9] fun Y=>QaT rfl rfl (Zz Y)
 ·exact oi [10] fun Y=>Qaf (.bool (decide (vat o.ctx o.dot.rep.toNat=o.dot.seq-1))) (Zz Y)
 ·exact ogi [11] fun hG Y=>Qac Qf2 rfl (Zz Y)
 ·exact oyi [11,12] [12] fun hG Y=>QaN (.int .u32 o.tick) QaU Y 0 (Zz Y)
 ·exact oyi [11,13] [13] fun hG Y=>Qew rfl rfl (Zz Y)
 ·exact oi [11,14] fun Y=>Qbg (h':=decide (o.tick<=1073741824)) rfl rfl rfl (Zz Y)
 ·exact oi [15] fun Y=>Qaf (.bool ((decide (vat o.ctx o.dot.rep.toNat=o.dot.seq-1))&&(decide (o.tick<=1073741824)))) (Zz Y)
 ·exact ogi [16] fun hG Y=>QaK (cs:=oc o) Qa3 Y 0 rfl rfl rfl (Zz Y)
 ·exact oyi [16,17] [17] fun hG Y=>Qas (vs:=[.agg (oc o).toArray]) (V:=.bool (Qci o)) Qu4 rfl rfl (Qre _ o (by assumption)) Y fun _ Y=>Zz Y
 ·exact oi [16,18] fun Y=>Qbg (h':=Qci o) rfl rfl rfl (Zz Y)
 ·exact oi [19] fun Y=>Qam (.bool (((decide (vat o.ctx o.dot.rep.toNat=o.dot.seq-1))&&(decide (o.tick<=1073741824)))&&(Qci o))) (Zz Y)
 rintro J1 w8 J2 hJ Y
 replace hJ:J2=upd (mix (sq 32 20++[4]) J1 _) 4 (.bool (((decide (vat o.ctx o.dot.rep.toNat=o.dot.seq-1))&&(decide (o.tick<=1073741824)))&&(Qci o))):=hJ
 subst hJ
 refine Qav ?_
 refine ⟨_,Qan (V:=.bool (((decide (vat o.ctx o.dot.rep.toNat=o.dot.seq-1))&&(decide (o.tick<=1073741824)))&&(Qci o))) results105 rfl,(Zr Y ?_)⟩
 exact congrArg Value.bool (Qna c6rrr c6rr c6r).symm
theorem Qot (w:World) (known:Vec) (o:Opn) (hO:QbL o):Calls prog 115 #[.agg (vc known).toArray,.agg (oc o).toArray] w (fun e w'=>e = .returned (.int .i64 (QbM known o))/\Own w no w' []):=by
 refine Qah (n:=20) func115 rfl ntmps115 rfl ?_
 have Y:=Own.start w
 have hdo:=hO.1
 refine Qae (Qab (Qaa (QaY (V:=.agg (vc known).toArray) (cs:=vc known) rfl rfl Y fun b1 w2 Y=>(Qaa (QaY (V:=.agg (oc o).toArray) (cs:=oc o) rfl rfl Y fun b3 w4 Y=>(Qaa (Qam (I6 0) (Qad (Qae (Qal (Qae (Qab (Qaa (QaK (cs:=oc o) Qa3 Y 1 rfl rfl rfl (Qaa (Qas (vs:=[.agg (oc o).toArray,I6 16]) (V:=.bool (Qbh o 16)) Qr2 rfl rfl ?hc Y fun w5 Y=>?_))))))))))))))))
 case hc=>exact (QiQ _ o 16 (by assumption))
 refine Qaa (QbB rfl (Qaa (Qam (.bool (!(Qbh o 16))) (Qad (Qak (t:=!(Qbh o 16)) rfl (fun c6=>?_) (fun c6=>?_))))))
 ·
  replace c6:=QbE c6
  refine Qae (Qab (Qaa (Qam (I6 2) (Qad (Qav ?_)))))
  refine ⟨_,Qan (V:=I6 2) results115 rfl,(Zr Y (congrArg (Value.int IntKind.i64) ?_))⟩
  unfold QbM
  rw [← Qcc]
  simp_all
 replace c6:=Qbd c6
 refine Qae (Qab (Qaa (QaK (cs:=vc known) QbC Y 0 rfl rfl rfl (Qaa (Qac Qa7 rfl (Qaa (QbT (vs:=dc o.dot) QcV Y 1 rfl rfl rfl rfl (Qaa (Qas (vs:=[.agg (vc known).toArray,.agg (dc o.dot).toArray]) (V:=.bool (QbD known o.dot)) QoV rfl rfl ?hc Y fun w7 Y=>?_)))))))))
 case hc=>exact (Qgw _ known o.dot (by first|assumption|exact QcN (by omega) (by omega) (by omega) (by omega)))
 refine Qaa (Qam (.bool (QbD known o.dot)) (Qad (Qak (t:=QbD known o.dot) rfl (fun c8=>?_) (fun c8=>?_))))
 ·
  refine Qae (Qab (Qaa (Qam (I6 8) (Qad (Qav ?_)))))
  refine ⟨_,Qan (V:=I6 8) results115 rfl,(Zr Y (congrArg (Value.int IntKind.i64) ?_))⟩
  unfold QbM
  rw [← Qcc]
  simp_all
 refine Qae (Qab (Qaa (Qac QcG rfl (Qaa (QbT (vs:=vc o.ctx) QbC Y 1 rfl rfl rfl rfl (Qaa (QaK (cs:=vc known) QbC Y 0 rfl rfl rfl (Qaa (Qas (vs:=[.agg (vc o.ctx).toArray,.agg (vc known).toArray]) (V:=.bool (vle o.ctx known)) Qq5 rfl rfl ?hc Y fun w9 Y=>?_)))))))))
 case hc=>exact (Qfc _ o.ctx known)
 refine Qaa (QbB rfl (Qaa (Qam (.bool (!(vle o.ctx known))) (Qad (Qak (t:=!(vle o.ctx known)) rfl (fun c10=>?_) (fun c10=>?_))))))
 ·
  replace c10:=QbE c10
  refine Qae (Qab (Qaa (Qam (I6 9) (Qad (Qav ?_)))))
  refine ⟨_,Qan (V:=I6 9) results115 rfl,(Zr Y (congrArg (Value.int IntKind.i64) ?_))⟩
  unfold QbM
  rw [← Qcc]
  simp_all
 replace c10:=Qbd c10
 refine Qap (Qae (Qab (Qaa (Qam (I6 0) (Qad (Qav ?_))))))
 refine ⟨_,Qan (V:=I6 0) results115 rfl,(Zr Y (congrArg (Value.int IntKind.i64) ?_))⟩
 unfold QbM
 rw [← Qcc]
 simp_all
theorem Qow (w:World) (known:Vec) (o:Opn) (hO:QbL o):Calls prog 111 #[.agg (vc known).toArray,.agg (oc o).toArray] w (fun e w'=>e = .returned (.int .i64 (QbM known o))/\Own w no w' []):=by
 refine Qah (n:=20) func111 rfl ntmps111 rfl ?_
 have Y:=Own.start w
 have hdo:=hO.1
 refine Qae (Qab (Qaa (QaY (V:=.agg (vc known).toArray) (cs:=vc known) rfl rfl Y fun b1 w2 Y=>(Qaa (QaY (V:=.agg (oc o).toArray) (cs:=oc o) rfl rfl Y fun b3 w4 Y=>(Qaa (Qam (I6 0) (Qad (Qae (Qal (Qae (Qab (Qaa (QaK (cs:=oc o) Qa3 Y 1 rfl rfl rfl (Qaa (Qas (vs:=[.agg (oc o).toArray,I6 16]) (V:=.bool (Qbh o 16)) Qwj rfl rfl ?hc Y fun w5 Y=>?_))))))))))))))))
 case hc=>exact (Qmn _ o 16 (by assumption))
 refine Qaa (QbB rfl (Qaa (Qam (.bool (!(Qbh o 16))) (Qad (Qak (t:=!(Qbh o 16)) rfl (fun c6=>?_) (fun c6=>?_))))))
 ·
  replace c6:=QbE c6
  refine Qae (Qab (Qaa (Qam (I6 2) (Qad (Qav ?_)))))
  refine ⟨_,Qan (V:=I6 2) results111 rfl,(Zr Y (congrArg (Value.int IntKind.i64) ?_))⟩
  unfold QbM
  rw [← Qcc]
  simp_all
 replace c6:=Qbd c6
 refine Qae (Qab (Qaa (QaK (cs:=vc known) QbC Y 0 rfl rfl rfl (Qaa (Qac Qa7 rfl (Qaa (QbT (vs:=dc o.dot) QcV Y 1 rfl rfl rfl rfl (Qaa (Qas (vs:=[.agg (vc known).toArray,.agg (dc o.dot).toArray]) (V:=.bool (QbD known o.dot)) QlR rfl rfl ?hc Y fun w7 Y=>?_)))))))))
 case hc=>exact (QfP _ known o.dot (by first|assumption|exact QcN (by omega) (by omega) (by omega) (by omega)))
 refine Qaa (Qam (.bool (QbD known o.dot)) (Qad (Qak (t:=QbD known o.dot) rfl (fun c8=>?_) (fun c8=>?_))))
 ·
  refine Qae (Qab (Qaa (Qam (I6 8) (Qad (Qav ?_)))))
  refine ⟨_,Qan (V:=I6 8) results111 rfl,(Zr Y (congrArg (Value.int IntKind.i64) ?_))⟩
  unfold QbM
  rw [← Qcc]
  simp_all
 refine Qae (Qab (Qaa (Qac QcG rfl (Qaa (QbT (vs:=vc o.ctx) QbC Y 1 rfl rfl rfl rfl (Qaa (QaK (cs:=vc known) QbC Y 0 rfl rfl rfl (Qaa (Qas (vs:=[.agg (vc o.ctx).toArray,.agg (vc known).toArray]) (V:=.bool (vle o.ctx known)) Qps rfl rfl ?hc Y fun w9 Y=>?_)))))))))
 case hc=>exact (Qfj _ o.ctx known)
 refine Qaa (QbB rfl (Qaa (Qam (.bool (!(vle o.ctx known))) (Qad (Qak (t:=!(vle o.ctx known)) rfl (fun c10=>?_) (fun c10=>?_))))))
 ·
  replace c10:=QbE c10
  refine Qae (Qab (Qaa (Qam (I6 9) (Qad (Qav ?_)))))
  refine ⟨_,Qan (V:=I6 9) results111 rfl,(Zr Y (congrArg (Value.int IntKind.i64) ?_))⟩
  unfold QbM
  rw [← Qcc]
  simp_all
 replace c10:=Qbd c10
 refine Qap (Qae (Qab (Qaa (Qam (I6 0) (Qad (Qav ?_))))))
 refine ⟨_,Qan (V:=I6 0) results111 rfl,(Zr Y (congrArg (Value.int IntKind.i64) ?_))⟩
 unfold QbM
 rw [← Qcc]
 simp_all
end Tt
end Go.Proofs
namespace Go.Proofs
open Go Go.Vx Go.RowKit
open Tryz
namespace Tt
theorem QhT (w:World) (a:Option Addr) (c:Nat) (l:List Opn) (i:Nat) (hi:i<l.length) (hl:∀ o∈l,QbL o) (hlen:l.length<=1000) (hr:Rd w (.slice a l.length c) 23 (l.map oc)):Calls prog 79 #[.slice a l.length c,.int .i64 (i:Int)] w (fun e w'=>e = .returned (.bool (Qbm l (gd l i)))/\Own w no w' []):=by
 refine Qah (n:=26) func79 rfl ntmps79 rfl ?_
 have Y:=Own.start w
 have hn:=hr.sml
 refine Qae (Qab (Qaa (Qam (.bool false) (Qad (Qae (Qae (Qab (Qaa (Qam (I6 0) (Qad (Qal (QaE (fun J μ J' w'=>∃ (Jo:Env) (k:Nat),J'=upd (mix (sq 4 17) Jo J) 5 (I6 (k:Int))/\(k<=l.length)/\(∀ j:Nat,j<k->Qay (gd l j) (gd l i)=false)/\μ=l.length-k/\Own w no w' []) ?_ ?_))))))))))))
 ·exact ⟨_,_,0,Qai (Qao (ds:=(sq 4 17)) (Agr.refl _ _)) rfl,(by omega),(fun j hj=>absurd hj (Nat.not_lt_zero j)),rfl,Y⟩
 rintro μ J' w1 ⟨Jo,k,rfl,hk,hno,rfl,Y⟩
 refine Qae (Qae (Qab (Qaa (Qaf (I6 (k:Int)) (Qaa (Qaf (.slice a l.length c) (Qaa (Qa5 (n:=l.length) QbG (Rd.own' hr Y) (by simp) rfl (Qaa (Qa0 rfl rfl (Qad (Qak (t:=decide ((k:Int)<((l.length:Nat):Int))) rfl (fun c2=>?_) (fun c2=>?_)))))))))))))
 ·
  replace c2:=QQ1 c2
  refine Qap (Qae (Qal (Qae (QaH HM (so 12 9) [] [0,0,3,7,0,0,48,112,255] [pv (.slice a l.length c),pv (I6 (k:Int)),pv (.pointer (some ⟨bkS (.slice a l.length c),ofS (.slice a l.length c)+(k:Int).toNat*23,none⟩)),pv (.agg (oc (gd l k)).toArray),pv (.slice a l.length c),pv (I6 (i:Int)),pv (.pointer (some ⟨bkS (.slice a l.length c),ofS (.slice a l.length c)+(i:Int).toNat*23,none⟩)),pv (.agg (oc (gd l i)).toArray),pv (.bool (Qay (gd l k) (gd l i)))] (fun _ _=>_) [8] (by kernel_rfl) Y ⟨?_,?_,?_,?_,?_,?_,?_,?_,?_,trivial⟩ ?_))))
  ·exact oi [] fun Y=>Qaf (.slice a l.length c) (Zz Y)
  ·exact oi [] fun Y=>Qaf (.int .i64 (k:Int)) (Zz Y)
  ·exact oi [0,1] fun Y=>Qax QbG Qa3.1 (Rd.own' hr Y) rfl rfl (by omega) (by rw [QQ6];omega) (Zz Y)
  ·exact oi [2] fun Y=>Qa9 (j:=0) (vs:=oc (gd l k)) k Qa3 (Rd.own' hr Y) (Qa4 (by omega)) rfl rfl rfl (by omega) (Zz Y)
  ·exact oi [] fun Y=>Qaf (.slice a l.length c) (Zz Y)
  ·exact oi [] fun Y=>Qaf (.int .i64 (i:Int)) (Zz Y)
  ·exact oi [4,5] fun Y=>Qax QbG Qa3.1 (Rd.own' hr Y) rfl rfl (by omega) (by rw [QQ6];omega) (Zz Y)
  ·exact oi [6] fun Y=>Qa9 (j:=0) (vs:=oc (gd l i)) i Qa3 (Rd.own' hr Y) (Qa4 (by omega)) rfl rfl rfl (by omega) (Zz Y)
  ·exact oi [3,7] fun Y=>Qas (vs:=[.agg (oc (gd l k)).toArray,.agg (oc (gd l i)).toArray]) (V:=.bool (Qay (gd l k) (gd l i))) QwS rfl rfl (Qqc _ (gd l k) (gd l i) (hl _ (Qbo (by omega))).1) Y fun _ Y=>Zz Y
  rintro J1 w4 J2 hJ Y
  replace hJ:J2=upd (mix (sq 12 9) J1 _) 20 (.bool (Qay (gd l k) (gd l i))):=hJ
  subst hJ
  refine Qak (t:=Qay (gd l k) (gd l i)) rfl (fun c5=>?_) (fun c5=>?_)
  ·
   refine Qae (Qab (Qaa (Qam (.bool false) (Qad (Qav ?_)))))
   refine ⟨_,Qan (V:=.bool false) results79 rfl,(Zr Y ?_)⟩
   exact congrArg Value.bool (Qtg (k:=k) (by omega) c5).symm
  refine Qap (Qab (Qaa (Qaf (I6 (k:Int)) (Qaa (QaB (a:=(k:Int)) (b:=1) (c:=((k+1:Nat):Int)) rfl rfl (Qaj (by omega) (by omega)) (Qaa (Qam (I6 ((k+1:Nat):Int)) (Qad ?_))))))))
  refine ⟨_,?_,_,k+1,Qai (Qao (ds:=(sq 4 17)) (by repeat (first|exact Agr.refl _ _|refine Agr.upd ?_ rfl|refine Agr.mix ?_ rfl))) rfl,(by omega),(Qdo hno c5),rfl,Y.take 0⟩
  omega
 replace c2:=QQ2 c2
 refine QaI (Qae (Qab (Qaa (Qaf (.slice a l.length c) (Qaa (Qaf (I6 (i:Int)) (Qaa (Qax QbG Qa3.1 (Rd.own' hr Y) rfl rfl (by omega) (by rw [QQ6];omega) (Qaa (Qa9 (j:=0) (vs:=oc (gd l i)) i Qa3 (Rd.own' hr Y) (Qa4 (by omega)) rfl rfl rfl (by omega) (Qaa (Qas (vs:=[.agg (oc (gd l i)).toArray]) (V:=.bool (QaX (gd l i))) QvT rfl rfl ?hc Y fun w6 Y=>?_))))))))))))
 case hc=>exact (QkT _ (gd l i))
 refine Qaa (Qam (.bool (QaX (gd l i))) (Qad (Qav ?_)))
 refine ⟨_,Qan (V:=.bool (QaX (gd l i))) results79 rfl,(Zr Y ?_)⟩
 exact congrArg Value.bool (Qp6 fun j hj=>hno j (by omega)).symm
end Tt
end Go.Proofs
namespace Go.Proofs
open Go Go.Vx Go.RowKit
open Tryz
namespace Tt
theorem QmQ (w:World) (a b:Opn) (ha:QbH a.ctx) (hb:QbH b.ctx):Calls prog 129 #[.agg (oc a).toArray,.agg (oc b).toArray] w (fun e w'=>e = .returned (.bool (Qc7 a b))/\Own w no w' []):=by
 refine Qah (n:=38) func129 rfl ntmps129 rfl ?_
 have Y:=Own.start w
 refine Qae (Qab (Qaa (QaY (V:=.agg (oc a).toArray) (cs:=oc a) rfl rfl Y fun b1 w2 Y=>(Qaa (QaY (V:=.agg (oc b).toArray) (cs:=oc b) rfl rfl Y fun b3 w4 Y=>(Qaa (Qam (.bool false) (Qad (Qae (QaH HM (so 7 4++[some 5,some 6]) [] [0,1,0,7,15,31] [pv (.agg (oc a).toArray),pv (.int .u64 (Qba a)),pv (.agg (oc b).toArray),pv (.int .u64 (Qba b)),pv (.int .u64 (Qba a)),pv (.int .u64 (Qba b))] (fun _ _=>_) [5,4] (by kernel_rfl) Y ⟨?_,?_,?_,?_,?_,?_,trivial⟩ ?_))))))))))
 ·exact oi [] fun Y=>QaK (cs:=oc a) Qa3 Y 0 rfl rfl rfl (Zz Y)
 ·exact oi [0] fun Y=>Qas (vs:=[.agg (oc a).toArray]) (V:=.int .u64 (Qba a)) Qvq rfl rfl (QhE _ a (by assumption)) Y fun _ Y=>Zz Y
 ·exact oi [] fun Y=>QaK (cs:=oc b) Qa3 Y 1 rfl rfl rfl (Zz Y)
 ·exact oi [2] fun Y=>Qas (vs:=[.agg (oc b).toArray]) (V:=.int .u64 (Qba b)) Qvq rfl rfl (QhE _ b (by assumption)) Y fun _ Y=>Zz Y
 ·exact oi [1] fun Y=>Qam (.int .u64 (Qba a)) (Zz Y)
 ·exact oi [3] fun Y=>Qam (.int .u64 (Qba b)) (Zz Y)
 rintro J1 w7 J2 hJ Y
 replace hJ:J2=upd (upd (mix [7,8,9,10,5,6] J1 _) 5 (.int .u64 (Qba a))) 6 (.int .u64 (Qba b)):=hJ
 subst hJ
 refine Qae (Qae (Qab (Qaa (Qaf (.int .u64 (Qba a)) (Qaa (Qaf (.int .u64 (Qba b)) (Qaa (Qck rfl rfl (Qad (Qak (t:=!decide (Qba a=Qba b)) rfl (fun c8=>?_) (fun c8=>?_)))))))))))
 ·
  replace c8:=QbE c8
  replace c8:=QQ2 c8
  refine Qae (Qab (Qaa (Qaf (.int .u64 (Qba a)) (Qaa (Qaf (.int .u64 (Qba b)) (Qaa (Qa0 rfl rfl (Qaa (Qam (.bool (decide (Qba a<Qba b))) (Qad (Qav ?_)))))))))))
  refine ⟨_,Qan (V:=.bool (decide (Qba a<Qba b))) results129 rfl,(Zr Y (congrArg Value.bool ?_))⟩
  rw [Bool.eq_iff_iff,Qfp]
  simp_all
  try omega
 replace c8:=Qbd c8
 replace c8:=QQ1 c8
 refine Qap (Qae (Qae (Qab (Qaa (Qac Qa7 rfl (Qaa (Qac QbJ rfl (Qaa (QaN (.int .u8 a.dot.rep) QcI Y 0 (Qaa (Qac Qa7 rfl (Qaa (Qac QbJ rfl (Qaa (QaN (.int .u8 b.dot.rep) QcI Y 1 (Qaa (Qck rfl rfl (Qad (Qak (t:=!decide (a.dot.rep=b.dot.rep)) rfl (fun c9=>?_) (fun c9=>?_))))))))))))))))))))
 ·
  replace c9:=QbE c9
  replace c9:=QQ2 c9
  refine Qae (Qab (Qaa (Qac Qa7 rfl (Qaa (Qac QbJ rfl (Qaa (QaN (.int .u8 a.dot.rep) QcI Y 0 (Qaa (Qac Qa7 rfl (Qaa (Qac QbJ rfl (Qaa (QaN (.int .u8 b.dot.rep) QcI Y 1 (Qaa (Qa0 rfl rfl (Qaa (Qam (.bool (decide (a.dot.rep<b.dot.rep))) (Qad (Qav ?_)))))))))))))))))))
  refine ⟨_,Qan (V:=.bool (decide (a.dot.rep<b.dot.rep))) results129 rfl,(Zr Y (congrArg Value.bool ?_))⟩
  rw [Bool.eq_iff_iff,Qfp]
  simp_all
  try omega
 replace c9:=Qbd c9
 replace c9:=QQ1 c9
 refine Qap (Qae (Qab (Qaa (Qac Qa7 rfl (Qaa (Qac QbN rfl (Qaa (QaN (.int .u32 a.dot.seq) QaU Y 0 (Qaa (Qac Qa7 rfl (Qaa (Qac QbN rfl (Qaa (QaN (.int .u32 b.dot.seq) QaU Y 1 (Qaa (Qa0 rfl rfl (Qaa (Qam (.bool (decide (a.dot.seq<b.dot.seq))) (Qad (Qav ?_))))))))))))))))))))
 refine ⟨_,Qan (V:=.bool (decide (a.dot.seq<b.dot.seq))) results129 rfl,(Zr Y (congrArg Value.bool ?_))⟩
 rw [Bool.eq_iff_iff,Qfp]
 simp_all
 try omega
end Tt
end Go.Proofs
namespace Go.Proofs
open Go Go.Vx Go.RowKit
open Tryz
namespace Tt
theorem Qlt (w:World) (a:Option Addr) (ca:Nat) (l:List Opn) (c last:Int) (hla:-1<=last) (hl:∀ o∈l,QbL o) (hlen:l.length<=1000) (hr:Rd w (.slice a l.length ca) 23 (l.map oc)):Calls prog 80 #[.slice a l.length ca,.int .u16 c,.int .i64 last] w (fun e w'=>e = .returned (.int .i64 (Qd2 l c last))/\Own w no w' []):=by
 refine Qah (n:=58) func80 rfl ntmps80 rfl ?_
 have Y:=Own.start w
 have hn:=hr.sml
 refine Qae (Qab (Qaa (Qam (I6 0) (Qad (Qae (Qab (Qaa (Qam (I6 (-1)) (Qad (Qae (Qae (Qab (Qaa (Qam (I6 0) (Qad (Qal (QaE (fun J μ J' w'=>∃ (Jo:Env) (k:Nat) (nx:Int),J'=upd (upd (mix (sq 7 50) Jo J) 8 (I6 (k:Int))) 7 (I6 nx)/\(k<=l.length)/\(nx=Qc6 last (QdA l c k))/\(-1<=nx/\nx<65536)/\μ=l.length-k/\Own w no w' []) ?_ ?_)))))))))))))))))
 ·exact ⟨_,_,0,-1,Qai (Qai (Qao (ds:=(sq 7 50)) (Agr.refl _ _)) rfl) rfl,(by omega),rfl,(by omega),rfl,Y⟩
 rintro μ J' w1 ⟨Jo,k,nx,rfl,hk,hmin,hnx,rfl,Y⟩
 refine Qae (Qae (Qab (Qaa (Qaf (I6 (k:Int)) (Qaa (Qaf (.slice a l.length ca) (Qaa (Qa5 (n:=l.length) QbG (Rd.own' hr Y) (by simp) rfl (Qaa (Qa0 rfl rfl (Qad (Qak (t:=decide ((k:Int)<((l.length:Nat):Int))) rfl (fun c2=>?_) (fun c2=>?_)))))))))))))
 ·
  replace c2:=QQ1 c2
  refine Qap (Qae (Qal (Qae ?_)))
  have ⟨_,_,_,⟨hi1,hi2⟩,⟨hq1,hq2⟩,_⟩:=hl _ (Qbo (l:=l) (i:=k) (by omega))
  refine Qab (Qaa (Qaf (.slice a l.length ca) (Qaa (Qaf (I6 (k:Int)) (Qaa (Qax QbG Qa3.1 (Rd.own' hr Y) rfl rfl (by omega) (by rw [QQ6];omega) (Qaa (Qac Qcq rfl (Qaa (QaV (j:=4) (V:=I7 ((gd l k).item)) k Qar (Rd.own' hr Y) (Qa4 (by omega)) rfl rfl (by omega) (Qaa (QbV QiB Qhk rfl (Qbx (by omega) (by omega)) (Qaa (Qam (I6 ((gd l k).item)) (Qad (Qae (Qbv (so 22 34) [] [0,0,3,7,15,0,63,127,255,255,1023,2047,4095,8191,16383,32767,65535,65535,262143,524287,1048575,2097151,4194303,8388607,16777215,16777215,67108863,134217727,268435455,536870911,1073741823,1073741823,4294967295,8589934591] [pv (.slice a l.length ca),pv (I6 (k:Int)),pv (.pointer (some ⟨bkS (.slice a l.length ca),ofS (.slice a l.length ca)+(k:Int).toNat*23,none⟩)),pv (.pointer (some ⟨bkS (.slice a l.length ca),ofS (.slice a l.length ca)+(k:Int).toNat*23+3,none⟩)),pv (I7 ((gd l k).cart)),pv (I7 c),pv (.bool (decide ((gd l k).cart=c))),pv (.bool (decide ((gd l k).cart=c))),pg ((decide ((gd l k).cart=c)) == true) (.slice a l.length ca),pg ((decide ((gd l k).cart=c)) == true) (I6 (k:Int)),pg ((decide ((gd l k).cart=c)) == true) (.pointer (some ⟨bkS (.slice a l.length ca),ofS (.slice a l.length ca)+(k:Int).toNat*23,none⟩)),pg ((decide ((gd l k).cart=c)) == true) (.pointer (some ⟨bkS (.slice a l.length ca),ofS (.slice a l.length ca)+(k:Int).toNat*23+2,none⟩)),pg ((decide ((gd l k).cart=c)) == true) (.int .u8 ((gd l k).kind)),pg ((decide ((gd l k).cart=c)) == true) (.bool (!decide ((gd l k).kind=4))),pv (.bool ((decide ((gd l k).cart=c))&&(!decide ((gd l k).kind=4)))),pv (.bool ((decide ((gd l k).cart=c))&&(!decide ((gd l k).kind=4)))),pg (((decide ((gd l k).cart=c))&&(!decide ((gd l k).kind=4))) == true) (I6 ((gd l k).item)),pg (((decide ((gd l k).cart=c))&&(!decide ((gd l k).kind=4))) == true) (I6 last),pg (((decide ((gd l k).cart=c))&&(!decide ((gd l k).kind=4))) == true) (.bool (decide (last<(gd l k).item))),pv (.bool (((decide ((gd l k).cart=c))&&(!decide ((gd l k).kind=4)))&&(decide (last<(gd l k).item)))),pv (.bool (((decide ((gd l k).cart=c))&&(!decide ((gd l k).kind=4)))&&(decide (last<(gd l k).item)))),pg ((((decide ((gd l k).cart=c))&&(!decide ((gd l k).kind=4)))&&(decide (last<(gd l k).item))) == true) (I6 nx),pg ((((decide ((gd l k).cart=c))&&(!decide ((gd l k).kind=4)))&&(decide (last<(gd l k).item))) == true) (.bool (decide (nx<0))),pg ((((decide ((gd l k).cart=c))&&(!decide ((gd l k).kind=4)))&&(decide (last<(gd l k).item))) == true) (.bool (decide (nx<0))),pg (((((decide ((gd l k).cart=c))&&(!decide ((gd l k).kind=4)))&&(decide (last<(gd l k).item))) == true)&&((decide (nx<0)) == false)) (I6 ((gd l k).item)),pg (((((decide ((gd l k).cart=c))&&(!decide ((gd l k).kind=4)))&&(decide (last<(gd l k).item))) == true)&&((decide (nx<0)) == false)) (I6 nx),pg (((((decide ((gd l k).cart=c))&&(!decide ((gd l k).kind=4)))&&(decide (last<(gd l k).item))) == true)&&((decide (nx<0)) == false)) (.bool (decide ((gd l k).item<nx))),pg ((((decide ((gd l k).cart=c))&&(!decide ((gd l k).kind=4)))&&(decide (last<(gd l k).item))) == true) (.bool ((decide (nx<0))||(decide ((gd l k).item<nx)))),pv (.bool ((((decide ((gd l k).cart=c))&&(!decide ((gd l k).kind=4)))&&(decide (last<(gd l k).item)))&&((decide (nx<0))||(decide ((gd l k).item<nx))))),pv (.bool ((((decide ((gd l k).cart=c))&&(!decide ((gd l k).kind=4)))&&(decide (last<(gd l k).item)))&&((decide (nx<0))||(decide ((gd l k).item<nx))))),pg (((((decide ((gd l k).cart=c))&&(!decide ((gd l k).kind=4)))&&(decide (last<(gd l k).item)))&&((decide (nx<0))||(decide ((gd l k).item<nx)))) == true) (.slice a l.length ca),pg (((((decide ((gd l k).cart=c))&&(!decide ((gd l k).kind=4)))&&(decide (last<(gd l k).item)))&&((decide (nx<0))||(decide ((gd l k).item<nx)))) == true) (I6 (k:Int)),pg (((((decide ((gd l k).cart=c))&&(!decide ((gd l k).kind=4)))&&(decide (last<(gd l k).item)))&&((decide (nx<0))||(decide ((gd l k).item<nx)))) == true) (.bool (Qbm l (gd l k))),pv (.bool (((((decide ((gd l k).cart=c))&&(!decide ((gd l k).kind=4)))&&(decide (last<(gd l k).item)))&&((decide (nx<0))||(decide ((gd l k).item<nx))))&&(Qbm l (gd l k))))] (fun _ _=>_) [33] (by kernel_rfl) Y ⟨?_,?_,?_,?_,?_,?_,?_,?_,?_,?_,?_,?_,?_,?_,?_,?_,?_,?_,?_,?_,?_,?_,?_,?_,?_,?_,?_,?_,?_,?_,?_,?_,?_,?_,trivial⟩ ?_)))))))))))))))))
  ·exact oi [] fun Y=>Qaf (.slice a l.length ca) (Zz Y)
  ·exact oi [] fun Y=>Qaf (.int .i64 (k:Int)) (Zz Y)
  ·exact oi [0,1] fun Y=>Qax QbG Qa3.1 (Rd.own' hr Y) rfl rfl (by omega) (by rw [QQ6];omega) (Zz Y)
  ·exact oi [2] fun Y=>Qac Qc4 rfl (Zz Y)
  ·exact oi [3] fun Y=>QaV (j:=3) (V:=.int .u16 ((gd l k).cart)) k Qar (Rd.own' hr Y) (Qa4 (by omega)) rfl rfl (by omega) (Zz Y)
  ·exact oi [] fun Y=>Qaf (.int .u16 c) (Zz Y)
  ·exact oi [4,5] fun Y=>QaT rfl rfl (Zz Y)
  ·exact oi [6] fun Y=>Qaf (.bool (decide ((gd l k).cart=c))) (Zz Y)
  ·exact ogi [7] fun hG Y=>Qaf (.slice a l.length ca) (Zz Y)
  ·exact ogi [7] fun hG Y=>Qaf (.int .i64 (k:Int)) (Zz Y)
  ·refine oyi [7,8,9] [8,9] fun hG Y=>?_
   have hgd:=QQ1 (eq_of_beq (hG))
   exact Qax QbG Qa3.1 (Rd.own' hr Y) rfl rfl (by omega) (by rw [QQ6];omega) (Zz Y)
  ·exact oyi [7,10] [10] fun hG Y=>Qac Qbz rfl (Zz Y)
  ·refine oyi [7,11] [11] fun hG Y=>?_
   have hgd:=QQ1 (eq_of_beq (hG))
   exact QaV (j:=2) (V:=.int .u8 ((gd l k).kind)) k QcI (Rd.own' hr Y) (Qa4 (by omega)) rfl rfl (by omega) (Zz Y)
  ·exact oyi [7,12] [12] fun hG Y=>Qck rfl rfl (Zz Y)
  ·exact oi [7,13] fun Y=>Qbg (h':=!decide ((gd l k).kind=4)) rfl rfl rfl (Zz Y)
  ·exact oi [14] fun Y=>Qaf (.bool ((decide ((gd l k).cart=c))&&(!decide ((gd l k).kind=4)))) (Zz Y)
  ·exact ogi [15] fun hG Y=>Qaf (.int .i64 ((gd l k).item)) (Zz Y)
  ·exact ogi [15] fun hG Y=>Qaf (.int .i64 last) (Zz Y)
  ·exact oyi [15,16,17] [16,17] fun hG Y=>Qca rfl rfl (Zz Y)
  ·exact oi [15,18] fun Y=>Qbg (h':=decide (last<(gd l k).item)) rfl rfl rfl (Zz Y)
  ·exact oi [19] fun Y=>Qaf (.bool (((decide ((gd l k).cart=c))&&(!decide ((gd l k).kind=4)))&&(decide (last<(gd l k).item)))) (Zz Y)
  ·exact ogi [20] fun hG Y=>Qaf (.int .i64 nx) (Zz Y)
  ·exact oyi [20,21] [21] fun hG Y=>Qa0 rfl rfl (Zz Y)
  ·exact oyi [20,22] [22] fun hG Y=>Qaf (.bool (decide (nx<0))) (Zz Y)
  ·exact ogi [23] fun hG Y=>Qaf (.int .i64 ((gd l k).item)) (Zz Y)
  ·exact ogi [23] fun hG Y=>Qaf (.int .i64 nx) (Zz Y)
  ·exact oyi [23,24,25] [24,25] fun hG Y=>Qa0 rfl rfl (Zz Y)
  ·exact oyi [20,23,26] [23] fun hG Y=>QxY (h':=decide ((gd l k).item<nx)) (G:=((((decide ((gd l k).cart=c))&&(!decide ((gd l k).kind=4)))&&(decide (last<(gd l k).item))) == true)) hG rfl rfl rfl (Zz Y)
  ·exact oi [20,27] fun Y=>Qbg (h':=(decide (nx<0))||(decide ((gd l k).item<nx))) rfl rfl rfl (Zz Y)
  ·exact oi [28] fun Y=>Qaf (.bool ((((decide ((gd l k).cart=c))&&(!decide ((gd l k).kind=4)))&&(decide (last<(gd l k).item)))&&((decide (nx<0))||(decide ((gd l k).item<nx))))) (Zz Y)
  ·exact ogi [29] fun hG Y=>Qaf (.slice a l.length ca) (Zz Y)
  ·exact ogi [29] fun hG Y=>Qaf (.int .i64 (k:Int)) (Zz Y)
  ·exact oyi [29,30,31] [30,31] fun hG Y=>Qas (vs:=[.slice a l.length ca,.int .i64 (k:Int)]) (V:=.bool (Qbm l (gd l k))) Qsd rfl rfl (QhT _ a ca l k (by omega) hl hlen (Rd.own' hr Y)) Y fun _ Y=>Zz Y
  ·exact oi [29,32] fun Y=>Qbg (h':=Qbm l (gd l k)) rfl rfl rfl (Zz Y)
  rintro J1 w4 J2 hJ Y
  replace hJ:J2=upd (mix (sq 22 34) J1 _) 55 (.bool (((((decide ((gd l k).cart=c))&&(!decide ((gd l k).kind=4)))&&(decide (last<(gd l k).item)))&&((decide (nx<0))||(decide ((gd l k).item<nx))))&&(Qbm l (gd l k)))):=hJ
  subst hJ
  refine Qak (t:=((((decide ((gd l k).cart=c))&&(!decide ((gd l k).kind=4)))&&(decide (last<(gd l k).item)))&&((decide (nx<0))||(decide ((gd l k).item<nx))))&&(Qbm l (gd l k))) rfl (fun c5=>?_) (fun c5=>?_)
  ·
   have c5r:=Qcl c5
   replace c5:=QbZ c5
   have c5rr:=Qcl c5
   replace c5:=QbZ c5
   have c5rrr:=Qcl c5
   replace c5:=QbZ c5
   have c5rrrr:=Qcl c5
   replace c5:=QbZ c5
   replace c5:=QQ1 c5
   replace c5rrrr:=QbE c5rrrr
   replace c5rrrr:=QQ2 c5rrrr
   replace c5rrr:=QQ1 c5rrr
   refine Qab (Qaa (Qaf (I6 ((gd l k).item)) (Qaa (Qam (I6 ((gd l k).item)) (Qad (Qab (Qaa (Qaf (I6 (k:Int)) (Qaa (QaB (a:=(k:Int)) (b:=1) (c:=((k+1:Nat):Int)) rfl rfl (Qaj (by omega) (by omega)) (Qaa (Qam (I6 ((k+1:Nat):Int)) (Qad ?_)))))))))))))
   refine ⟨_,?_,_,k+1,(gd l k).item,Qai (Qai (Qao (ds:=(sq 7 50)) (by repeat (first|exact Agr.refl _ _|refine Agr.upd ?_ rfl|refine Agr.mix ?_ rfl))) rfl) rfl,(by omega),(QoK hmin (by omega) (Qvb c5 c5rrrr c5r) c5rrr (by have:=c5rr;simp at this;omega)),(by omega),rfl,Y.take 0⟩
   omega
  refine Qap (Qab (Qaa (Qaf (I6 (k:Int)) (Qaa (QaB (a:=(k:Int)) (b:=1) (c:=((k+1:Nat):Int)) rfl rfl (Qaj (by omega) (by omega)) (Qaa (Qam (I6 ((k+1:Nat):Int)) (Qad ?_))))))))
  refine ⟨_,?_,_,k+1,nx,Qai (Qai (Qao (ds:=(sq 7 50)) (by repeat (first|exact Agr.refl _ _|refine Agr.upd ?_ rfl|refine Agr.mix ?_ rfl))) rfl) rfl,(by omega),(QqK hmin (by omega) (by
 intro ⟨h0,h1,h2⟩
 have hz:=c5
 unfold QrT at h0
 simp only [Bool.and_eq_true,decide_eq_true_eq] at h0
 have h3:¬(gd l k).kind=4:=by have:=h0.2.1;simpa using this
 simp [h0.1,h0.2.2,h1,h3] at hz
 omega)),(by omega),rfl,Y.take 0⟩
  omega
 replace c2:=QQ2 c2
 refine QaI (Qae (Qab (Qaa (Qaf (I6 nx) (Qaa (Qam (I6 nx) (Qad (Qav ?_))))))))
 refine ⟨_,Qan (V:=I6 nx) results80 rfl,(Zr Y ?_)⟩
 rw [hmin,Qmw (by omega)];rfl
theorem Qsw (w:World) (a:Option Addr) (ca:Nat) (l:List Opn) (c n:Int) (hl:∀ o∈l,QbL o) (hlen:l.length<=1000) (hr:Rd w (.slice a l.length ca) 23 (l.map oc)):Calls prog 81 #[.slice a l.length ca,.int .u16 c,.int .i64 n] w (fun e w'=>e = .returned (.int .u32 (QhW l c n))/\Own w no w' []):=by
 refine Qah (n:=81) func81 rfl ntmps81 rfl ?_
 have Y:=Own.start w
 have hn:=hr.sml
 refine Qae (Qab (Qaa (Qam (.int .u32 0) (Qad (Qae (Qab (Qaa (Qam (.int .u32 0) (Qaa (Qam (I6 (-1)) (Qad (Qae (Qae (Qab (Qaa (Qam (I6 0) (Qad (Qal (QaE (fun J μ J' w'=>∃ (Jo:Env) (k:Nat) (sm:Int) (bi:Int),J'=upd (upd (upd (mix (sq 7 63) Jo J) 9 (I6 (k:Int))) 7 (.int .u32 sm)) 8 (I6 bi)/\(k<=l.length)/\(sm=Qfy (ofO l c n k))/\(Qfr l c n k bi)/\μ=l.length-k/\Own w no w' []) ?_ ?_)))))))))))))))))))
 ·exact ⟨_,_,0,0,-1,Qai (Qai (Qai (Qao (ds:=(sq 7 63)) (Agr.refl _ _)) rfl) rfl) rfl,(by omega),rfl,(.inl ⟨rfl,rfl⟩),rfl,Y⟩
 rintro μ J' w1 ⟨Jo,k,sm,bi,rfl,hk,hsm,hbi,rfl,Y⟩
 have hbb:=QnC hbi hk
 refine Qae (Qae (Qab (Qaa (Qaf (I6 (k:Int)) (Qaa (Qaf (.slice a l.length ca) (Qaa (Qa5 (n:=l.length) QbG (Rd.own' hr Y) (by simp) rfl (Qaa (Qa0 rfl rfl (Qad (Qak (t:=decide ((k:Int)<((l.length:Nat):Int))) rfl (fun c2=>?_) (fun c2=>?_)))))))))))))
 ·
  replace c2:=QQ1 c2
  refine Qap (Qae (Qal (Qae (Qae ?_))))
  have ⟨_,_,_,⟨hi1,hi2⟩,⟨hq1,hq2⟩,_⟩:=hl _ (Qbo (l:=l) (i:=k) (by omega))
  refine Qbv (so 16 23) [] [0,0,3,7,15,0,63,127,255,255,1023,2047,4095,8191,255,32767,65535,131071,262143,262143,1048575,2097151,4194303] [pv (.slice a l.length ca),pv (I6 (k:Int)),pv (.pointer (some ⟨bkS (.slice a l.length ca),ofS (.slice a l.length ca)+(k:Int).toNat*23,none⟩)),pv (.pointer (some ⟨bkS (.slice a l.length ca),ofS (.slice a l.length ca)+(k:Int).toNat*23+3,none⟩)),pv (I7 ((gd l k).cart)),pv (I7 c),pv (.bool (!decide ((gd l k).cart=c))),pv (.bool (!decide ((gd l k).cart=c))),pg ((!decide ((gd l k).cart=c)) == false) (.slice a l.length ca),pg ((!decide ((gd l k).cart=c)) == false) (I6 (k:Int)),pg ((!decide ((gd l k).cart=c)) == false) (.pointer (some ⟨bkS (.slice a l.length ca),ofS (.slice a l.length ca)+(k:Int).toNat*23,none⟩)),pg ((!decide ((gd l k).cart=c)) == false) (.pointer (some ⟨bkS (.slice a l.length ca),ofS (.slice a l.length ca)+(k:Int).toNat*23+4,none⟩)),pg ((!decide ((gd l k).cart=c)) == false) (I7 ((gd l k).item)),pg ((!decide ((gd l k).cart=c)) == false) (I6 ((gd l k).item)),pg ((!decide ((gd l k).cart=c)) == false) (I6 n),pg ((!decide ((gd l k).cart=c)) == false) (.bool (!decide ((gd l k).item=n))),pv (.bool ((!decide ((gd l k).cart=c))||(!decide ((gd l k).item=n)))),pv (.bool ((!decide ((gd l k).cart=c))||(!decide ((gd l k).item=n)))),pg (((!decide ((gd l k).cart=c))||(!decide ((gd l k).item=n))) == false) (.slice a l.length ca),pg (((!decide ((gd l k).cart=c))||(!decide ((gd l k).item=n))) == false) (I6 (k:Int)),pg (((!decide ((gd l k).cart=c))||(!decide ((gd l k).item=n))) == false) (.bool (Qbm l (gd l k))),pg (((!decide ((gd l k).cart=c))||(!decide ((gd l k).item=n))) == false) (.bool (!(Qbm l (gd l k)))),pv (.bool (((!decide ((gd l k).cart=c))||(!decide ((gd l k).item=n)))||(!(Qbm l (gd l k)))))] (fun _ _=>_) [22] (by kernel_rfl) Y ⟨?_,?_,?_,?_,?_,?_,?_,?_,?_,?_,?_,?_,?_,?_,?_,?_,?_,?_,?_,?_,?_,?_,?_,trivial⟩ ?_
  ·exact oi [] fun Y=>Qaf (.slice a l.length ca) (Zz Y)
  ·exact oi [] fun Y=>Qaf (.int .i64 (k:Int)) (Zz Y)
  ·exact oi [0,1] fun Y=>Qax QbG Qa3.1 (Rd.own' hr Y) rfl rfl (by omega) (by rw [QQ6];omega) (Zz Y)
  ·exact oi [2] fun Y=>Qac Qc4 rfl (Zz Y)
  ·exact oi [3] fun Y=>QaV (j:=3) (V:=.int .u16 ((gd l k).cart)) k Qar (Rd.own' hr Y) (Qa4 (by omega)) rfl rfl (by omega) (Zz Y)
  ·exact oi [] fun Y=>Qaf (.int .u16 c) (Zz Y)
  ·exact oi [4,5] fun Y=>Qck rfl rfl (Zz Y)
  ·exact oi [6] fun Y=>Qaf (.bool (!decide ((gd l k).cart=c))) (Zz Y)
  ·exact ogi [7] fun hG Y=>Qaf (.slice a l.length ca) (Zz Y)
  ·exact ogi [7] fun hG Y=>Qaf (.int .i64 (k:Int)) (Zz Y)
  ·exact oyi [7,8,9] [8,9] fun hG Y=>Qax QbG Qa3.1 (Rd.own' hr Y) rfl rfl (by omega) (by rw [QQ6];omega) (Zz Y)
  ·exact oyi [7,10] [10] fun hG Y=>Qac Qcq rfl (Zz Y)
  ·exact oyi [7,11] [11] fun hG Y=>QaV (j:=4) (V:=.int .u16 ((gd l k).item)) k Qar (Rd.own' hr Y) (Qa4 (by omega)) rfl rfl (by omega) (Zz Y)
  ·exact oyi [7,12] [12] fun hG Y=>QbV QiB Qhk rfl (Qbx (by omega) (by omega)) (Zz Y)
  ·exact ogi [7] fun hG Y=>Qaf (.int .i64 n) (Zz Y)
  ·exact oyi [7,13,14] [13,14] fun hG Y=>Qck rfl rfl (Zz Y)
  ·exact oi [7,15] fun Y=>QbP (h':=!decide ((gd l k).item=n)) rfl rfl rfl (Zz Y)
  ·exact oi [16] fun Y=>Qaf (.bool ((!decide ((gd l k).cart=c))||(!decide ((gd l k).item=n)))) (Zz Y)
  ·exact ogi [17] fun hG Y=>Qaf (.slice a l.length ca) (Zz Y)
  ·exact ogi [17] fun hG Y=>Qaf (.int .i64 (k:Int)) (Zz Y)
  ·exact oyi [17,18,19] [18,19] fun hG Y=>Qas (vs:=[.slice a l.length ca,.int .i64 (k:Int)]) (V:=.bool (Qbm l (gd l k))) Qsd rfl rfl (QhT _ a ca l k (by omega) hl hlen (Rd.own' hr Y)) Y fun _ Y=>Zz Y
  ·exact oyi [17,20] [20] fun hG Y=>QbB rfl (Zz Y)
  ·exact oi [17,21] fun Y=>QbP (h':=!(Qbm l (gd l k))) rfl rfl rfl (Zz Y)
  rintro J1 w4 J2 hJ Y
  replace hJ:J2=upd (mix (sq 16 23) J1 _) 38 (.bool (((!decide ((gd l k).cart=c))||(!decide ((gd l k).item=n)))||(!(Qbm l (gd l k))))):=hJ
  subst hJ
  refine Qak (t:=((!decide ((gd l k).cart=c))||(!decide ((gd l k).item=n)))||(!(Qbm l (gd l k)))) rfl (fun c5=>?_) (fun c5=>?_)
  ·
   refine QaI (Qab (Qaa (Qaf (I6 (k:Int)) (Qaa (QaB (a:=(k:Int)) (b:=1) (c:=((k+1:Nat):Int)) rfl rfl (Qaj (by omega) (by omega)) (Qaa (Qam (I6 ((k+1:Nat):Int)) (Qad ?_))))))))
   have hit:opP l c n (gd l k)=false:=Qsq c5
   refine ⟨_,?_,_,k+1,sm,bi,Qai (Qai (Qai (Qao (ds:=(sq 7 63)) (by repeat (first|exact Agr.refl _ _|refine Agr.upd ?_ rfl|refine Agr.mix ?_ rfl))) rfl) rfl) rfl,(by omega),(by rw [Qoi (by omega) hit];exact hsm),(QhM hbi (by omega) hit),rfl,Y.take 0⟩
   omega
  have c5r:=Qfa c5
  replace c5:=Qe8 c5
  have c5rr:=Qfa c5
  replace c5:=Qe8 c5
  replace c5:=Qbd c5
  replace c5:=QQ1 c5
  replace c5rr:=Qbd c5rr
  replace c5rr:=QQ1 c5rr
  replace c5r:=Qbd c5r
  refine Qap (Qae (Qab (Qaa (Qaf (.slice a l.length ca) (Qaa (Qaf (I6 (k:Int)) (Qaa (Qax QbG Qa3.1 (Rd.own' hr Y) rfl rfl (by omega) (by rw [QQ6];omega) (Qaa (Qac Qbz rfl (Qaa (QaV (j:=2) (V:=.int .u8 ((gd l k).kind)) k QcI (Rd.own' hr Y) (Qa4 (by omega)) rfl rfl (by omega) (Qad (Qal (Qae (Qab (Qaa (QaT rfl rfl (Qaa (Qam (.bool (decide ((gd l k).kind=1))) (Qad (Qak (t:=decide ((gd l k).kind=1)) rfl (fun c6=>?_) (fun c6=>?_)))))))))))))))))))))))
  ·
   replace c6:=QQ1 c6
   refine Qab (Qaa (Qaf (.int .u32 sm) (Qaa (Qaf (.slice a l.length ca) (Qaa (Qaf (I6 (k:Int)) (Qaa (Qax QbG Qa3.1 (Rd.own' hr Y) rfl rfl (by omega) (by rw [QQ6];omega) (Qaa (Qac QcP rfl (Qaa (QaV (j:=5) (V:=I7 ((gd l k).qty)) k Qar (Rd.own' hr Y) (Qa4 (by omega)) rfl rfl (by omega) (Qaa (QbV QiB QiZ rfl (QeX (by omega) (by omega)) (Qaa (QaB (a:=sm) (b:=(gd l k).qty) (c:=(sm+((gd l k).qty))%4294967296) rfl rfl (Qhy _) (Qaa (Qam (.int .u32 ((sm+((gd l k).qty))%4294967296)) (Qad (Qab (Qaa (Qaf (I6 (k:Int)) (Qaa (QaB (a:=(k:Int)) (b:=1) (c:=((k+1:Nat):Int)) rfl rfl (Qaj (by omega) (by omega)) (Qaa (Qam (I6 ((k+1:Nat):Int)) (Qad ?_)))))))))))))))))))))))))))
   have hit:opP l c n (gd l k)=true:=Qtq c5 c5rr c5r (by omega)
   refine ⟨_,?_,_,k+1,(sm+((gd l k).qty))%4294967296,bi,Qai (Qai (Qai (Qao (ds:=(sq 7 63)) (by repeat (first|exact Agr.refl _ _|refine Agr.upd ?_ rfl|refine Agr.mix ?_ rfl))) rfl) rfl) rfl,(by omega),(Qq7 hsm (by omega) hit c6),(Qoe hbi (by omega) hit c6),rfl,Y.take 0⟩
   omega
  replace c6:=QQ2 c6
  refine Qae (Qab (Qaa (QaT rfl rfl (Qaa (Qam (.bool (decide ((gd l k).kind=2))) (Qad (Qak (t:=decide ((gd l k).kind=2)) rfl (fun c7=>?_) (fun c7=>?_))))))))
  ·
   replace c7:=QQ1 c7
   refine Qae (QaH HM (so 56 13) [] [0,1,3,7,7,31,63,7,7,391,903,2047,4095] [pv (I6 bi),pv (.bool (decide (bi<0))),pv (.bool (decide (bi<0))),pg ((decide (bi<0)) == false) (.slice a l.length ca),pg ((decide (bi<0)) == false) (I6 bi),pg ((decide (bi<0)) == false) (.pointer (some ⟨bkS (.slice a l.length ca),ofS (.slice a l.length ca)+bi.toNat*23,none⟩)),pg ((decide (bi<0)) == false) (.agg (oc (gd l bi.toNat)).toArray),pg ((decide (bi<0)) == false) (.slice a l.length ca),pg ((decide (bi<0)) == false) (I6 (k:Int)),pg ((decide (bi<0)) == false) (.pointer (some ⟨bkS (.slice a l.length ca),ofS (.slice a l.length ca)+(k:Int).toNat*23,none⟩)),pg ((decide (bi<0)) == false) (.agg (oc (gd l k)).toArray),pg ((decide (bi<0)) == false) (.bool (Qc7 (gd l bi.toNat) (gd l k))),pv (.bool ((decide (bi<0))||(Qc7 (gd l bi.toNat) (gd l k))))] (fun _ _=>_) [12] (by kernel_rfl) Y ⟨?_,?_,?_,?_,?_,?_,?_,?_,?_,?_,?_,?_,?_,trivial⟩ ?_)
   ·exact oi [] fun Y=>Qaf (.int .i64 bi) (Zz Y)
   ·exact oi [0] fun Y=>Qa0 rfl rfl (Zz Y)
   ·exact oi [1] fun Y=>Qaf (.bool (decide (bi<0))) (Zz Y)
   ·exact ogi [2] fun hG Y=>Qaf (.slice a l.length ca) (Zz Y)
   ·exact ogi [2] fun hG Y=>Qaf (.int .i64 bi) (Zz Y)
   ·refine oyi [2,3,4] [3,4] fun hG Y=>?_
    have hgd:=QQ2 (eq_of_beq (hG))
    exact Qax QbG Qa3.1 (Rd.own' hr Y) rfl rfl (by omega) (by rw [QQ6];omega) (Zz Y)
   ·refine oyi [2,5] [5] fun hG Y=>?_
    have hgd:=QQ2 (eq_of_beq (hG))
    exact Qa9 (j:=0) (vs:=oc (gd l bi.toNat)) bi.toNat Qa3 (Rd.own' hr Y) (Qa4 (by omega)) rfl rfl rfl (by omega) (Zz Y)
   ·exact ogi [2] fun hG Y=>Qaf (.slice a l.length ca) (Zz Y)
   ·exact ogi [2] fun hG Y=>Qaf (.int .i64 (k:Int)) (Zz Y)
   ·refine oyi [2,7,8] [7,8] fun hG Y=>?_
    have hgd:=QQ2 (eq_of_beq (hG))
    exact Qax QbG Qa3.1 (Rd.own' hr Y) rfl rfl (by omega) (by rw [QQ6];omega) (Zz Y)
   ·refine oyi [2,9] [9] fun hG Y=>?_
    have hgd:=QQ2 (eq_of_beq (hG))
    exact Qa9 (j:=0) (vs:=oc (gd l k)) k Qa3 (Rd.own' hr Y) (Qa4 (by omega)) rfl rfl rfl (by omega) (Zz Y)
   ·refine oyi [2,6,10] [6,10] fun hG Y=>?_
    have hgd:=QQ2 (eq_of_beq (hG))
    exact Qas (vs:=[.agg (oc (gd l bi.toNat)).toArray,.agg (oc (gd l k)).toArray]) (V:=.bool (Qc7 (gd l bi.toNat) (gd l k))) Qv3 rfl rfl (QmQ _ (gd l bi.toNat) (gd l k) (hl _ (Qbo (by omega))).2.2.2.2.2.2 (hl _ (Qbo (by omega))).2.2.2.2.2.2) Y fun _ Y=>Zz Y
   ·exact oi [2,11] fun Y=>QbP (h':=Qc7 (gd l bi.toNat) (gd l k)) rfl rfl rfl (Zz Y)
   rintro J1 w9 J2 hJ Y
   replace hJ:J2=upd (mix (sq 56 13) J1 _) 68 (.bool ((decide (bi<0))||(Qc7 (gd l bi.toNat) (gd l k)))):=hJ
   subst hJ
   refine Qak (t:=(decide (bi<0))||(Qc7 (gd l bi.toNat) (gd l k))) rfl (fun c10=>?_) (fun c10=>?_)
   ·
    refine Qab (Qaa (Qaf (I6 (k:Int)) (Qaa (Qam (I6 (k:Int)) (Qad (Qab (Qaa (Qaf (I6 (k:Int)) (Qaa (QaB (a:=(k:Int)) (b:=1) (c:=((k+1:Nat):Int)) rfl rfl (Qaj (by omega) (by omega)) (Qaa (Qam (I6 ((k+1:Nat):Int)) (Qad ?_)))))))))))))
    have hit:opP l c n (gd l k)=true:=Qtq c5 c5rr c5r (by omega)
    refine ⟨_,?_,_,k+1,sm,(k:Int),Qai (Qai (Qai (Qao (ds:=(sq 7 63)) (by repeat (first|exact Agr.refl _ _|refine Agr.upd ?_ rfl|refine Agr.mix ?_ rfl))) rfl) rfl) rfl,(by omega),(QoU hsm (by omega) hit c6),(Ql8 hbi (by omega) hit c6 c10),rfl,Y.take 0⟩
    omega
   have c10r:=Qfa c10
   replace c10:=Qe8 c10
   replace c10:=QQ2 c10
   refine Qap (Qab (Qaa (Qaf (I6 (k:Int)) (Qaa (QaB (a:=(k:Int)) (b:=1) (c:=((k+1:Nat):Int)) rfl rfl (Qaj (by omega) (by omega)) (Qaa (Qam (I6 ((k+1:Nat):Int)) (Qad ?_))))))))
   have hit:opP l c n (gd l k)=true:=Qtq c5 c5rr c5r (by omega)
   refine ⟨_,?_,_,k+1,sm,bi,Qai (Qai (Qai (Qao (ds:=(sq 7 63)) (by repeat (first|exact Agr.refl _ _|refine Agr.upd ?_ rfl|refine Agr.mix ?_ rfl))) rfl) rfl) rfl,(by omega),(QoU hsm (by omega) hit c6),(Ql9 hbi (by omega) hit c6 (by rw [QQ4 c10,c10r];rfl)),rfl,Y.take 0⟩
   omega
  replace c7:=QQ2 c7
  refine Qap (Qab (Qaa (Qaf (I6 (k:Int)) (Qaa (QaB (a:=(k:Int)) (b:=1) (c:=((k+1:Nat):Int)) rfl rfl (Qaj (by omega) (by omega)) (Qaa (Qam (I6 ((k+1:Nat):Int)) (Qad ?_))))))))
  have hit:opP l c n (gd l k)=false:=QtN c5r c6 c7
  refine ⟨_,?_,_,k+1,sm,bi,Qai (Qai (Qai (Qao (ds:=(sq 7 63)) (by repeat (first|exact Agr.refl _ _|refine Agr.upd ?_ rfl|refine Agr.mix ?_ rfl))) rfl) rfl) rfl,(by omega),(by rw [Qoi (by omega) hit];exact hsm),(QhM hbi (by omega) hit),rfl,Y.take 0⟩
  omega
 replace c2:=QQ2 c2
 refine QaI (Qae (Qae ?_))
 have hbb:=QnC hbi hk
 refine Qab (Qaa (Qaf (I6 bi) (Qaa (QcZ rfl rfl (Qad (Qak (t:=decide (0<=bi)) rfl (fun c11=>?_) (fun c11=>?_)))))))
 ·
  replace c11:=QQ1 c11
  have ⟨hq1,hq2⟩:=(hl _ (Qbo (l:=l) (i:=bi.toNat) (by omega))).2.2.2.2.1
  refine Qab (Qaa (Qaf (.int .u32 sm) (Qaa (Qaf (.slice a l.length ca) (Qaa (Qaf (I6 bi) (Qaa (Qax QbG Qa3.1 (Rd.own' hr Y) rfl rfl (by omega) (by rw [QQ6];omega) (Qaa (Qac QcP rfl (Qaa (QaV (j:=5) (V:=I7 ((gd l bi.toNat).qty)) bi.toNat Qar (Rd.own' hr Y) (Qa4 (by omega)) rfl rfl (by omega) (Qaa (QbV QiB QiZ rfl (QeX (by omega) (by omega)) (Qaa (QaB (a:=sm) (b:=(gd l bi.toNat).qty) (c:=(sm+((gd l bi.toNat).qty))%4294967296) rfl rfl (Qhy _) (Qaa (Qam (.int .u32 ((sm+((gd l bi.toNat).qty))%4294967296)) (Qad (Qae (Qab (Qaa (Qaf (.int .u32 ((sm+((gd l bi.toNat).qty))%4294967296)) (Qaa (Qam (.int .u32 ((sm+((gd l bi.toNat).qty))%4294967296)) (Qad (Qav ?_)))))))))))))))))))))))))))
  refine ⟨_,Qan (V:=.int .u32 ((sm+((gd l bi.toNat).qty))%4294967296)) results81 rfl,(Zr Y ?_)⟩
  rw [QoX hsm hbi (by omega) c11]
 replace c11:=QQ2 c11
 refine Qap (Qae (Qab (Qaa (Qaf (.int .u32 sm) (Qaa (Qam (.int .u32 sm) (Qad (Qav ?_))))))))
 refine ⟨_,Qan (V:=.int .u32 sm) results81 rfl,(Zr Y ?_)⟩
 rw [Qn2 hl hsm hbi (by omega) c11]
end Tt
end Go.Proofs
namespace Go.Proofs
open Go Go.Vx Go.RowKit
open Tryz
namespace Tt
theorem QmF (w:World) (a:Option Addr) (ca:Nat) (l:List Opn) (c:Int) (hl:∀ o∈l,QbL o) (hlen:l.length<=1000) (hr:Rd w (.slice a l.length ca) 23 (l.map oc)):Calls prog 36 #[.slice a l.length ca,.int .u16 c] w (fun e w'=>∃ x:Option Addr × Nat,e = .returned (.agg [.int .u16 (Qcd l c).cart,.slice x.1 (Qcd l c).lines.length x.2,.bool (Qcd l c).out,.int .u32 (Qcd l c).tick].toArray)/\Own w no w' [row (.slice x.1 (Qcd l c).lines.length x.2) ((Qcd l c).lines.map lc) 127 2]/\True):=by
 refine Qah (n:=71) func36 rfl ntmps36 rfl ?_
 have Y:=Own.start w
 have hn:=hr.sml
 refine Qae (Qab (Qaa (QaJ (cs:=[I7 0,.slice none 0 0,.bool false,.int .u32 0]) Qhe rfl Y fun b1 w2 Y=>(Qad (Qae (Qab (Qaa (Qaf (I7 c) (Qaa (QbI (vs:=[(0,I7 c)]) (cs:=[I7 c,.slice none 0 0,.bool false,.int .u32 0]) Qpp (rfl) rfl (Qaa (QaJ (cs:=[I7 0,.slice none 0 0,.bool false,.int .u32 0]) Qhe rfl Y fun b3 w4 Y=>(Qaa (Qcz (V:=.agg #[I7 c,.slice none 0 0,.bool false,.int .u32 0]) (vs:=[I7 c,.slice none 0 0,.bool false,.int .u32 0]) (cs':=[I7 c,.slice none 0 0,.bool false,.int .u32 0]) Qdc.1 Y 1 rfl rfl rfl rfl rfl (QQ8 rfl) (Qat rfl (Qat rfl (Qat rfl (Qat rfl Qa2)))) (Qaz rfl) fun w5 Y=>(Qad (Qae (Qae (Qab (Qaa (Qam (I6 0) (Qad (Qal (QaE (fun J μ J' w'=>∃ (Jo:Env) (k:Nat) (ou:Bool) (tk:Int),J'=upd (mix ([6]++sq 11 38) Jo J) 6 (I6 (k:Int))/\(k<=l.length)/\(ou=(l.take k).any (QqP l c))/\(tk=tkO (l.take k) c)/\μ=l.length-k/\Own w no w' [blk b1 [I7 0,.slice none 0 0,.bool false,.int .u32 0] 49,blk b3 [I7 c,.slice none 0 0,.bool ou,.int .u32 tk] 49]) ?_ ?_)))))))))))))))))))))))
 ·exact ⟨_,_,0,false,0,Qai (Qao (ds:=([6]++sq 11 38)) (Agr.refl _ _)) rfl,(by omega),rfl,rfl,rfl,Y⟩
 rintro μ J' w6 ⟨Jo,k,ou,tk,rfl,hk,hob,htk,rfl,Y⟩
 refine Qae (Qae (Qab (Qaa (Qaf (I6 (k:Int)) (Qaa (Qaf (.slice a l.length ca) (Qaa (Qa5 (n:=l.length) QbG (Rd.own' hr Y) (by simp) rfl (Qaa (Qa0 rfl rfl (Qad (Qak (t:=decide ((k:Int)<((l.length:Nat):Int))) rfl (fun c7=>?_) (fun c7=>?_)))))))))))))
 ·
  replace c7:=QQ1 c7
  refine Qap (Qae (Qal (Qae (Qab (Qaa (Qaf (.slice a l.length ca) (Qaa (Qaf (I6 (k:Int)) (Qaa (Qax QbG Qa3.1 (Rd.own' hr Y) rfl rfl (by omega) (by rw [QQ6];omega) (Qaa (Qac Qc4 rfl (Qaa (QaV (j:=3) (V:=I7 ((gd l k).cart)) k Qar (Rd.own' hr Y) (Qa4 (by omega)) rfl rfl (by omega) (Qaa (Qaf (I7 c) (Qaa (QaT rfl rfl (Qad (Qak (t:=decide ((gd l k).cart=c)) rfl (fun c8=>?_) (fun c8=>?_)))))))))))))))))))))
  ·
   replace c8:=QQ1 c8
   refine Qae (QaH HM (so 24 9++[none]) [] [0,1,0,0,12,28,60,127,255,511] [pv (Pq b3 (0+3)),pv (.int .u32 tk),pv (.slice a l.length ca),pv (I6 (k:Int)),pv (.pointer (some ⟨bkS (.slice a l.length ca),ofS (.slice a l.length ca)+(k:Int).toNat*23,none⟩)),pv (.pointer (some ⟨bkS (.slice a l.length ca),ofS (.slice a l.length ca)+(k:Int).toNat*23+6,none⟩)),pv (.int .u32 ((gd l k).tick)),pv (.int .u32 (max tk ((gd l k).tick))),pv (Pq b3 (0+3)),pn] (fun D J=>[blk b1 [I7 0,.slice none 0 0,.bool false,.int .u32 0] 49,cond (D 9) (blk b3 [I7 c,.slice none 0 0,.bool ou,.int .u32 (max tk ((gd l k).tick))] 49) (blk b3 [I7 c,.slice none 0 0,.bool ou,.int .u32 tk] 49)]) [] (by kernel_rfl) Y ⟨?_,?_,?_,?_,?_,?_,?_,?_,?_,?_,trivial⟩ ?_)
   ·exact oi [] fun Y=>Qac Qeu rfl (Zz Y)
   ·exact ob [0] [9] rfl rfl fun D J w Y=>QaN (.int .u32 tk) QaU Y 1 (Zz Y)
   ·exact oi [] fun Y=>Qaf (.slice a l.length ca) (Zz Y)
   ·exact oi [] fun Y=>Qaf (.int .i64 (k:Int)) (Zz Y)
   ·exact oi [2,3] fun Y=>Qax QbG Qa3.1 (Rd.own' hr Y) rfl rfl (by omega) (by rw [QQ6];omega) (Zz Y)
   ·exact oi [4] fun Y=>Qac Qf2 rfl (Zz Y)
   ·exact oi [5] fun Y=>QaV (j:=6) (V:=.int .u32 ((gd l k).tick)) k QaU (Rd.own' hr Y) (Qa4 (by omega)) rfl rfl (by omega) (Zz Y)
   ·exact oi [1,6] fun Y=>Qmi rfl rfl (Zz Y)
   ·exact oi [] fun Y=>Qac Qeu rfl (Zz Y)
   ·exact oi [7,8] fun Y=>Qcs (V:=.int .u32 (max tk ((gd l k).tick))) (cs':=[.int .u16 c,.slice none 0 0,.bool ou,.int .u32 (max tk ((gd l k).tick))]) QaU Y 1 rfl rfl rfl rfl (QQ8 rfl) rfl fun _ Y=>⟨trivial,Y⟩
   rintro J1 w10 J2 hJ Y
   replace hJ:J2=mix (sq 24 9) J1 _:=hJ
   replace Y:Own w no w10 [blk b1 [I7 0,.slice none 0 0,.bool false,.int .u32 0] 49,blk b3 [I7 c,.slice none 0 0,.bool ou,.int .u32 (max tk ((gd l k).tick))] 49]:=Y
   subst hJ
   refine Qbv (so 33 16++[none]) [] [0,1,3,7,7,31,63,127,255,511,1023,1023,4095,8191,16383,32767,65535] [pv (Pq b3 (0+2)),pv (.bool ou),pv (.bool ou),pg (ou == false) (.slice a l.length ca),pg (ou == false) (I6 (k:Int)),pg (ou == false) (.pointer (some ⟨bkS (.slice a l.length ca),ofS (.slice a l.length ca)+(k:Int).toNat*23,none⟩)),pg (ou == false) (.pointer (some ⟨bkS (.slice a l.length ca),ofS (.slice a l.length ca)+(k:Int).toNat*23+2,none⟩)),pg (ou == false) (.int .u8 ((gd l k).kind)),pg (ou == false) (.bool (decide ((gd l k).kind=4))),pg (ou == false) (.bool (decide ((gd l k).kind=4))),pg ((ou == false)&&((decide ((gd l k).kind=4)) == true)) (.slice a l.length ca),pg ((ou == false)&&((decide ((gd l k).kind=4)) == true)) (I6 (k:Int)),pg ((ou == false)&&((decide ((gd l k).kind=4)) == true)) (.bool (Qbm l (gd l k))),pg (ou == false) (.bool ((decide ((gd l k).kind=4))&&(Qbm l (gd l k)))),pv (.bool (ou||((decide ((gd l k).kind=4))&&(Qbm l (gd l k))))),pv (Pq b3 (0+2)),pn] (fun D J=>[blk b1 [I7 0,.slice none 0 0,.bool false,.int .u32 0] 49,cond (D 16) (blk b3 [I7 c,.slice none 0 0,.bool (ou||((decide ((gd l k).kind=4))&&(Qbm l (gd l k)))),.int .u32 (max tk ((gd l k).tick))] 49) (blk b3 [I7 c,.slice none 0 0,.bool ou,.int .u32 (max tk ((gd l k).tick))] 49)]) [] (by kernel_rfl) Y ⟨?_,?_,?_,?_,?_,?_,?_,?_,?_,?_,?_,?_,?_,?_,?_,?_,?_,trivial⟩ ?_
   ·exact oi [] fun Y=>Qac Qdv rfl (Zz Y)
   ·exact ob [0] [16] rfl rfl fun D J w Y=>QaN (.bool ou) QlF Y 1 (Zz Y)
   ·exact oi [1] fun Y=>Qaf (.bool ou) (Zz Y)
   ·exact ogi [2] fun hG Y=>Qaf (.slice a l.length ca) (Zz Y)
   ·exact ogi [2] fun hG Y=>Qaf (.int .i64 (k:Int)) (Zz Y)
   ·exact oyi [2,3,4] [3,4] fun hG Y=>Qax QbG Qa3.1 (Rd.own' hr Y) rfl rfl (by omega) (by rw [QQ6];omega) (Zz Y)
   ·exact oyi [2,5] [5] fun hG Y=>Qac Qbz rfl (Zz Y)
   ·exact oyi [2,6] [6] fun hG Y=>QaV (j:=2) (V:=.int .u8 ((gd l k).kind)) k QcI (Rd.own' hr Y) (Qa4 (by omega)) rfl rfl (by omega) (Zz Y)
   ·exact oyi [2,7] [7] fun hG Y=>QaT rfl rfl (Zz Y)
   ·exact oyi [2,8] [8] fun hG Y=>Qaf (.bool (decide ((gd l k).kind=4))) (Zz Y)
   ·exact ogi [9] fun hG Y=>Qaf (.slice a l.length ca) (Zz Y)
   ·exact ogi [9] fun hG Y=>Qaf (.int .i64 (k:Int)) (Zz Y)
   ·refine oyi [9,10,11] [10,11] fun hG Y=>?_
    have hgd1:=QQ1 (eq_of_beq (Qcl (hG)))
    exact Qas (vs:=[.slice a l.length ca,.int .i64 (k:Int)]) (V:=.bool (Qbm l (gd l k))) Qsd rfl rfl (QhT _ a ca l k (by omega) hl hlen (Rd.own' hr Y)) Y fun _ Y=>Zz Y
   ·exact oyi [2,9,12] [9] fun hG Y=>Qi4 (h':=Qbm l (gd l k)) (G:=(ou == false)) hG rfl rfl rfl (Zz Y)
   ·exact oi [2,13] fun Y=>QbP (h':=(decide ((gd l k).kind=4))&&(Qbm l (gd l k))) rfl rfl rfl (Zz Y)
   ·exact oi [] fun Y=>Qac Qdv rfl (Zz Y)
   ·exact oi [14,15] fun Y=>Qcs (V:=.bool (ou||((decide ((gd l k).kind=4))&&(Qbm l (gd l k))))) (cs':=[.int .u16 c,.slice none 0 0,.bool (ou||((decide ((gd l k).kind=4))&&(Qbm l (gd l k)))),.int .u32 (max tk ((gd l k).tick))]) QlF Y 1 rfl rfl rfl rfl (QQ8 rfl) rfl fun _ Y=>⟨trivial,Y⟩
   rintro J1 w13 J2 hJ Y
   replace hJ:J2=mix (sq 33 16) J1 _:=hJ
   replace Y:Own w no w13 [blk b1 [I7 0,.slice none 0 0,.bool false,.int .u32 0] 49,blk b3 [I7 c,.slice none 0 0,.bool (ou||((decide ((gd l k).kind=4))&&(Qbm l (gd l k)))),.int .u32 (max tk ((gd l k).tick))] 49]:=Y
   subst hJ
   refine Qab (Qaa (Qaf (I6 (k:Int)) (Qaa (QaB (a:=(k:Int)) (b:=1) (c:=((k+1:Nat):Int)) rfl rfl (Qaj (by omega) (by omega)) (Qaa (Qam (I6 ((k+1:Nat):Int)) (Qad ?_)))))))
   refine ⟨_,?_,_,k+1,ou||((decide ((gd l k).kind=4))&&(Qbm l (gd l k))),max tk ((gd l k).tick),Qai (Qao (ds:=([6]++sq 11 38)) (by repeat (first|exact Agr.refl _ _|refine Agr.upd ?_ rfl|refine Agr.mix ?_ rfl))) rfl,(by omega),(by rw [← Qey (p:=QqP l c) hob (by omega)];unfold QqP;rw [QQ3 c8,Bool.true_and]),(by rw [Qs5 hl (by omega) c8,← htk]),rfl,Y.take 2⟩
   omega
  replace c8:=QQ2 c8
  refine Qap (Qab (Qaa (Qaf (I6 (k:Int)) (Qaa (QaB (a:=(k:Int)) (b:=1) (c:=((k+1:Nat):Int)) rfl rfl (Qaj (by omega) (by omega)) (Qaa (Qam (I6 ((k+1:Nat):Int)) (Qad ?_))))))))
  refine ⟨_,?_,_,k+1,ou,tk,Qai (Qao (ds:=([6]++sq 11 38)) (by repeat (first|exact Agr.refl _ _|refine Agr.upd ?_ rfl|refine Agr.mix ?_ rfl))) rfl,(by omega),(by rw [← Qey (p:=QqP l c) hob (by omega)];unfold QqP;rw [QQ4 c8];simp),(by rw [Qvk (by omega) c8,← htk]),rfl,Y.take 2⟩
  omega
 replace c7:=QQ2 c7
 refine QaI (Qae (Qab (Qaa (Qam (.slice none 0 0) (Qad (Qae (Qae (Qab (Qaa (Qaf (.slice a l.length ca) (Qaa (Qaf (I7 c) (Qaa (Qas (vs:=[.slice a l.length ca,I7 c,I6 (-1)]) (V:=I6 (Qd2 l c (-1))) QwG rfl rfl ?hc Y fun w14 Y=>?_))))))))))))))
 case hc=>exact (Qlt _ a ca l c (-1) (by omega) hl hlen (Rd.own' hr Y))
 refine Qaa (Qam (I6 (Qd2 l c (-1))) (Qad (Qal ?_)))
 replace Y:=Y.more (row (.slice none 0 0) (List.map lc []) 127 2) (Qbi _ _ _ _)
 have hc0:∀ x∈QdA l c l.length,0<=x:=fun x hx=>(Qih hl x hx).1
 refine QaE (fun J μ J' w'=>∃ (Jo:Env) (last:Int) (nx:Int) (I:List Int) (an6:Option Addr) (cn6:Nat) (ol:List Line),J'=upd (upd (mix ([7,8]++sq 52 16) Jo J) 8 (I6 nx)) 7 (.slice an6 ol.length cn6)/\(-1<=last/\last<65536)/\(nx=Qd2 l c last)/\(((ol.length:Nat):Int)<=last+1)/\(UpTo (QdA l c l.length) last I)/\(ol=I.map (QqB l c))/\μ=(65536-last).toNat/\Own w no w' [blk b1 [I7 0,.slice none 0 0,.bool false,.int .u32 0] 49,blk b3 [I7 c,.slice none 0 0,.bool ou,.int .u32 tk] 49,row (.slice an6 ol.length cn6) (ol.map lc) 127 2]) ?_ ?_
 ·exact ⟨_,_,-1,Qd2 l c (-1),[],none,0,[],Qai (Qai (Qao (ds:=([7,8]++sq 52 16)) (Agr.refl _ _)) rfl) rfl,(by omega),rfl,(by simp),(Qqy hc0),rfl,rfl,Y⟩
 rintro μ J' w15 ⟨Jo,last,nx,I,an6,cn6,ol,rfl,hla,hnx,hll,hup,hol,rfl,Y⟩
 have hib:=Qs8 (c:=c) hl hla.1
 rw [← hnx] at hib
 refine Qae (Qae (Qab (Qaa (Qaf (I6 nx) (Qaa (QcZ rfl rfl (Qad (Qak (t:=decide (0<=nx)) rfl (fun c16=>?_) (fun c16=>?_)))))))))
 ·
  replace c16:=QQ1 c16
  refine Qap (Qae (Qal (Qab (Qaa (Qaf (.slice an6 ol.length cn6) (Qaa (Qaf (I6 nx) (Qaa (QbV Qhk QiB rfl (QvI (by omega) (by omega)) (Qaa (Qaf (.slice a l.length ca) (Qaa (Qaf (I7 c) (Qaa (Qaf (I6 nx) (Qaa (Qas (vs:=[.slice a l.length ca,I7 c,I6 nx]) (V:=.int .u32 (QhW l c nx)) Qw9 rfl rfl ?hc Y fun w17 Y=>?_)))))))))))))))))
  case hc=>exact (Qsw _ a ca l c nx hl hlen (Rd.own' hr Y))
  refine Qaa (QbI (vs:=[(0,I7 nx),(1,.int .u32 (QhW l c nx))]) (cs:=lc (⟨nx,QhW l c nx⟩:Line)) QnF (rfl) rfl (Qaa (Qho (vals:=[.agg (lc (⟨nx,QhW l c nx⟩:Line)).toArray]) (ls:=List.map lc ([(⟨nx,QhW l c nx⟩:Line)]:List Line)) QlL rfl rfl rfl (Qbn (enc:=lc) (fun _=>rfl) _) (QaW QgQ _) (QQ8 rfl) Y fun b18 w19 Y=>?_)))
  replace Y:=Ow [blk b1 [I7 0,.slice none 0 0,.bool false,.int .u32 0] 49,blk b3 [I7 c,.slice none 0 0,.bool ou,.int .u32 tk] 49,row (.slice an6 ol.length cn6) (ol.map lc) 127 2,row (.slice (some ⟨b18,0,none⟩) 1 1) ([(⟨nx,QhW l c nx⟩:Line)].map lc) 127 2] Y
  refine Qaa (Qdj (ls':=(ol++[(⟨nx,QhW l c nx⟩:Line)]).map lc) (n:=(ol++[(⟨nx,QhW l c nx⟩:Line)]).length) QlL Y 2 rfl rfl rfl (Y.rd 3 rfl) (QaW QgQ _) (by simp only [QQ6,QQ7,List.length_cons,List.length_nil];omega) (by simp) (by simp) fun a20 c20 w21 Y=>(Qaa (Qam (.slice a20 ((ol++[(⟨nx,QhW l c nx⟩:Line)]).length) c20) (Qad (Qab (Qaa (Qaf (.slice a l.length ca) (Qaa (Qaf (I7 c) (Qaa (Qaf (I6 nx) (Qaa (Qas (vs:=[.slice a l.length ca,I7 c,I6 nx]) (V:=I6 (Qd2 l c nx)) QwG rfl rfl ?hc Y fun w22 Y=>?_)))))))))))))
  case hc=>exact (Qlt _ a ca l c nx (by omega) hl hlen (Rd.own' hr Y))
  refine Qaa (Qam (I6 (Qd2 l c nx)) (Qad ?_))
  refine ⟨_,?_,_,nx,Qd2 l c nx,I++[nx],a20,c20,ol++[(⟨nx,QhW l c nx⟩:Line)],Qai (Qai (Qao (ds:=([7,8]++sq 52 16)) (by repeat (first|exact Agr.refl _ _|refine Agr.upd ?_ rfl|refine Agr.mix ?_ rfl))) rfl) rfl,(by omega),rfl,(by simp only [QQ7,List.length_singleton];omega),(by rw [hnx];exact QlN hl hup hla.1 (by omega)),(QlG hol),rfl,Y.take 3⟩
  omega
 replace c16:=QQ2 c16
 refine QaI (Qae (Qab (Qaa (Qaf (.slice an6 ol.length cn6) (Qaa (Qac QcR rfl (Qaa (Qcs (V:=.slice an6 ol.length cn6) (cs':=[I7 c,.slice an6 ol.length cn6,.bool ou,.int .u32 tk]) Qfl Y 1 rfl rfl rfl rfl (QQ8 rfl) rfl fun w23 Y=>?_))))))))
 replace Y:=Ow [blk b1 [I7 0,.slice none 0 0,.bool false,.int .u32 0] 49,blk b3 [I7 c,.slice an6 ol.length cn6,.bool ou,.int .u32 tk] 49,row (.slice an6 ol.length cn6) (ol.map lc) 127 2] Y
 refine Qad (Qae (Qab (Qaa (QaK (cs:=[I7 c,.slice an6 ol.length cn6,.bool ou,.int .u32 tk]) Qdc Y 1 rfl rfl rfl (Qaa (Qcz (V:=.agg #[I7 c,.slice an6 ol.length cn6,.bool ou,.int .u32 tk]) (vs:=[I7 c,.slice an6 ol.length cn6,.bool ou,.int .u32 tk]) (cs':=[I7 c,.slice an6 ol.length cn6,.bool ou,.int .u32 tk]) Qdc.1 Y 0 rfl rfl rfl rfl rfl (QQ8 rfl) (Qat rfl (Qat rfl (Qat rfl (Qat rfl Qa2)))) (Qaz rfl) fun w24 Y=>(Qad (Qav ?_))))))))
 refine ⟨_,QcA (cs:=[I7 c,.slice an6 ol.length cn6,.bool ou,.int .u32 tk]) results36 Qdc Y 0 rfl rfl rfl,?_⟩
 have hV:=QqI hl (by omega) hob htk hup hla.1 hnx c16 hol
 rw [hV]
 exact ⟨(an6,cn6),rfl,Y.only 2 rfl,trivial⟩
end Tt
end Go.Proofs
namespace Go.Proofs
open Go Go.Vx Go.RowKit
open Tryz
namespace Tt
theorem QiH (w:World) (a:Option Addr) (c:Nat) (l:List Cen) (hN:l.length*25<=140737488355328) (hr:Rd w (.slice a l.length c) 7 (l.map cec)):Calls prog 39 #[.slice a l.length c] w (fun e w'=>∃ x:Option Addr × Nat,e = .returned (.slice x.1 (l).length x.2)/\Own w no w' [row (.slice x.1 (l).length x.2) ((l).map cec) 106 7]/\True):=by
 refine Qah (n:=8) func39 rfl ntmps39 rfl ?_
 have Y:=Own.start w
 have hn:=hr.sml
 refine Qae (Qab (Qaa (Qam (.slice none 0 0) (Qad (Qae (Qae (Qab (Qaa (Qaf (.slice a l.length c) (Qaa (Qwi Qdi rfl rfl (Qad (Qak (t:=a.isNone) rfl (fun c1=>?_) (fun c1=>?_))))))))))))))
 ·
  refine Qae (Qab (Qaa (Qam (.slice none 0 0) (Qad (Qav ?_)))))
  refine ⟨_,Qan (V:=.slice none 0 0) results39 rfl,?_⟩
  have hl0:=hr.isN c1
  subst hl0
  exact ⟨(none,0),rfl,(Y.take 0).more _ (Qbi _ _ _ _),trivial⟩
 refine Qap (Qae (Qab (Qaa (Qho (vals:=[]) (ls:=List.map cec ([]:List Cen)) QfD rfl rfl rfl (Qbn (enc:=cec) (fun _=>rfl) _) (QaW Qby _) (QQ8 rfl) Y fun b2 w3 Y=>(Qaa (Qaf (.slice a l.length c) (Qaa (Qdj (ls':=l.map cec) (n:=l.length) QfD Y 0 rfl rfl rfl (Rd.own' hr Y) (QaW Qby _) (by simp only [QQ6,QQ7,List.length_cons,List.length_nil];omega) (by simp) (by simp) fun a4 c4 w5 Y=>(Qaa (Qam (.slice a4 l.length c4) (Qad (Qav ?_))))))))))))
 refine ⟨_,Qan (V:=.slice a4 l.length c4) results39 rfl,?_⟩
 exact ⟨(a4,c4),rfl,Y.only 0 rfl,trivial⟩
theorem Qni (w:World) (a:Option Addr) (c:Nat) (l:List Lst) (hN:l.length*9<=140737488355328) (hr:Rd w (.slice a l.length c) 2 (l.map lsc)):Calls prog 153 #[.slice a l.length c] w (fun e w'=>∃ x:Option Addr × Nat,e = .returned (.slice x.1 (l).length x.2)/\Own w no w' [row (.slice x.1 (l).length x.2) ((l).map lsc) 102 2]/\True):=by
 refine Qah (n:=8) func153 rfl ntmps153 rfl ?_
 have Y:=Own.start w
 have hn:=hr.sml
 refine Qae (Qab (Qaa (Qam (.slice none 0 0) (Qad (Qae (Qae (Qab (Qaa (Qaf (.slice a l.length c) (Qaa (Qwi Qea rfl rfl (Qad (Qak (t:=a.isNone) rfl (fun c1=>?_) (fun c1=>?_))))))))))))))
 ·
  refine Qae (Qab (Qaa (Qam (.slice none 0 0) (Qad (Qav ?_)))))
  refine ⟨_,Qan (V:=.slice none 0 0) results153 rfl,?_⟩
  have hl0:=hr.isN c1
  subst hl0
  exact ⟨(none,0),rfl,(Y.take 0).more _ (Qbi _ _ _ _),trivial⟩
 refine Qap (Qae (Qab (Qaa (Qho (vals:=[]) (ls:=List.map lsc ([]:List Lst)) Qgx rfl rfl rfl (Qbn (enc:=lsc) (fun _=>rfl) _) (QaW Qcp _) (QQ8 rfl) Y fun b2 w3 Y=>(Qaa (Qaf (.slice a l.length c) (Qaa (Qdj (ls':=l.map lsc) (n:=l.length) Qgx Y 0 rfl rfl rfl (Rd.own' hr Y) (QaW Qcp _) (by simp only [QQ6,QQ7,List.length_cons,List.length_nil];omega) (by simp) (by simp) fun a4 c4 w5 Y=>(Qaa (Qam (.slice a4 l.length c4) (Qad (Qav ?_))))))))))))
 refine ⟨_,Qan (V:=.slice a4 l.length c4) results153 rfl,?_⟩
 exact ⟨(a4,c4),rfl,Y.only 0 rfl,trivial⟩
theorem Qnz (w:World) (a:Option Addr) (c:Nat) (l:List Cen) (t:Cen) (hsmall:l.length<=4611686018427387904) (g:Nat) (hg:En prog g) (cf:Cen->Int) (hcmp:∀ (w:World) (x:Cen),Calls prog g #[.agg (cec x).toArray,.agg (cec t).toArray] w (fun e w'=>e = .returned (.int .i64 (cf x))/\Own w no w' [])) (hm:Qnv (fun x=>decide (cf x<0)) l) (hr:Rd w (.slice a l.length c) 7 (l.map cec)):Calls prog 119 #[.slice a l.length c,.agg (cec t).toArray,.func (.func g) #[] #[]] w (fun e w'=>e = .returned (.tuple #[.int .i64 ((Qcx (fun x=>decide (cf x<0)) l:Nat):Int),.bool (decide (Qcx (fun x=>decide (cf x<0)) l<l.length)&&decide (cf (gd l (Qcx (fun x=>decide (cf x<0)) l))=0))])/\Own w no w' []):=by
 refine Qah (n:=49) func119 rfl ntmps119 rfl ?_
 have Y:=Own.start w
 have hn:=hr.sml
 have hn2:l.length<=4611686018427387904:=hsmall
 refine Qae (Qab (Qaa (QaY (V:=.agg (cec t).toArray) (cs:=cec t) rfl rfl Y fun b1 w2 Y=>(Qaa (Qam (I6 0) (Qaa (Qam (.bool false) (Qad (Qae (Qab (Qaa (Qaf (.slice a l.length c) (Qaa (Qa5 (n:=l.length) QbK (Rd.own' hr Y) (by simp) rfl (Qaa (Qam (I6 ((l.length:Nat):Int)) (Qad (Qae (Qab (Qaa (Qaf (I6 ((l.length:Nat):Int)) (Qaa (Qam (I6 0) (Qaa (Qam (I6 ((l.length:Nat):Int)) (Qad (Qae (Qal (QaE (fun J μ J' w'=>∃ (Jo:Env) (i:Nat) (j:Nat),J'=upd (upd (mix ([9,10,11]++sq 15 20) Jo J) 9 (I6 (i:Int))) 10 (I6 (j:Int))/\(i<=Qcx (fun x=>decide (cf x<0)) l)/\(Qcx (fun x=>decide (cf x<0)) l<=j)/\(j<=l.length)/\μ=j-i/\Own w no w' [blk b1 (cec t) 106]) ?_ ?_)))))))))))))))))))))))))))))
 ·exact ⟨_,_,0,l.length,Qai (Qai (Qao (ds:=([9,10,11]++sq 15 20)) (Agr.refl _ _)) rfl) rfl,(Nat.zero_le _),Qgl,(Nat.le_refl _),rfl,Y⟩
 rintro μ J' w3 ⟨Jo,i,j,rfl,hip,hpj,hjl,rfl,Y⟩
 refine Qae (Qae (Qab (Qaa (Qaf (I6 (i:Int)) (Qaa (Qaf (I6 (j:Int)) (Qaa (Qa0 rfl rfl (Qad (Qak (t:=decide ((i:Int)<(j:Int))) rfl (fun c4=>?_) (fun c4=>?_)))))))))))
 ·
  replace c4:=QQ1 c4
  refine Qap (Qal (Qae (Qab (Qaa (Qaf (I6 (i:Int)) (Qaa (Qaf (I6 (j:Int)) (Qaa (QaB (a:=(i:Int)) (b:=(j:Int)) (c:=((i+j:Nat):Int)) rfl rfl (Qaj (by omega) (by omega)) (Qaa (QbV Qhk QdH rfl (Qdu (by omega) (by omega)) (Qaa (QhD rfl rfl (Qaa (QbV QdH Qhk rfl (Qbx (by omega) (by omega)) (Qaa (Qam (I6 (((i+j)/2:Nat):Int)) (Qad (Qae (QaH HM (so 24 8) [] [0,0,0,6,14,0,63,127] [pv (.func (.func g) #[] #[]),pv (.slice a l.length c),pv (I6 (((i+j)/2:Nat):Int)),pv (.pointer (some ⟨bkS (.slice a l.length c),ofS (.slice a l.length c)+(((i+j)/2:Nat):Int).toNat*7,none⟩)),pv (.agg (cec (gd l ((i+j)/2))).toArray),pv (.agg (cec t).toArray),pv (I6 (cf (gd l ((i+j)/2)))),pv (.bool (decide (cf (gd l ((i+j)/2))<0)))] (fun _ _=>_) [7] (by kernel_rfl) Y ⟨?_,?_,?_,?_,?_,?_,?_,?_,trivial⟩ ?_))))))))))))))))))))
  ·exact oi [] fun Y=>Qaf (.func (.func g) #[] #[]) (Zz Y)
  ·exact oi [] fun Y=>Qaf (.slice a l.length c) (Zz Y)
  ·exact oi [] fun Y=>Qaf (.int .i64 (((i+j)/2:Nat):Int)) (Zz Y)
  ·exact oi [1,2] fun Y=>Qax QbK QaF.1 (Rd.own' hr Y) rfl rfl (by omega) (by rw [QQ6];omega) (Zz Y)
  ·exact oi [3] fun Y=>Qa9 (j:=0) (vs:=cec (gd l ((i+j)/2))) ((i+j)/2) QaF (Rd.own' hr Y) (Qa4 (by omega)) rfl rfl rfl (by omega) (Zz Y)
  ·exact oi [] fun Y=>QaK (cs:=cec t) QaF Y 0 rfl rfl rfl (Zz Y)
  ·exact oi [0,4,5] fun Y=>Qfu (vs:=[.agg (cec (gd l ((i+j)/2))).toArray,.agg (cec t).toArray]) (cs:=[]) (V:=.int .i64 (cf (gd l ((i+j)/2)))) hg rfl rfl (hcmp _ (gd l ((i+j)/2))) Y fun _ Y=>Zz Y
  ·exact oi [6] fun Y=>Qa0 rfl rfl (Zz Y)
  rintro J1 w6 J2 hJ Y
  replace hJ:J2=upd (mix (sq 24 8) J1 _) 31 (.bool (decide (cf (gd l ((i+j)/2))<0))):=hJ
  subst hJ
  refine Qak (t:=decide (cf (gd l ((i+j)/2))<0)) rfl (fun c7=>?_) (fun c7=>?_)
  ·
   replace c7:=QQ1 c7
   refine Qab (Qaa (Qaf (I6 (((i+j)/2:Nat):Int)) (Qaa (QaB (a:=(((i+j)/2:Nat):Int)) (b:=1) (c:=((((i+j)/2)+1:Nat):Int)) rfl rfl (Qaj (by omega) (by omega)) (Qaa (Qam (I6 ((((i+j)/2)+1:Nat):Int)) (Qad ?_)))))))
   refine ⟨_,?_,_,((i+j)/2)+1,j,Qai (Qai (Qao (ds:=([9,10,11]++sq 15 20)) (by repeat (first|exact Agr.refl _ _|refine Agr.upd ?_ rfl|refine Agr.mix ?_ rfl))) rfl) rfl,(by have:=QoQ (f:=(fun x=>decide (cf x<0))) hm (by omega) (QQ3 c7);omega),(by omega),(by omega),rfl,Y.take 1⟩
   omega
  replace c7:=QQ2 c7
  refine Qab (Qaa (Qaf (I6 (((i+j)/2:Nat):Int)) (Qaa (Qam (I6 (((i+j)/2:Nat):Int)) (Qad ?_)))))
  refine ⟨_,?_,_,i,(i+j)/2,Qai (Qai (Qao (ds:=([9,10,11]++sq 15 20)) (by repeat (first|exact Agr.refl _ _|refine Agr.upd ?_ rfl|refine Agr.mix ?_ rfl))) rfl) rfl,(by omega),(by have:=Qin (f:=(fun x=>decide (cf x<0))) (l:=l) (QQ4 c7);omega),(by omega),rfl,Y.take 1⟩
  omega
 replace c4:=QQ2 c4
 refine QaI (Qae ?_)
 have hij:i=j:=by omega
 refine QaH HM (so 35 14++[some 6,some 7]) [] [0,0,0,6,14,30,30,30,222,478,30,2046,4094,8190,4095,32767] [pv (I6 (i:Int)),pv (I6 (i:Int)),pv (I6 ((l.length:Nat):Int)),pv (.bool (decide ((i:Int)<((l.length:Nat):Int)))),pv (.bool (decide ((i:Int)<((l.length:Nat):Int)))),pg ((decide ((i:Int)<((l.length:Nat):Int))) == true) (.func (.func g) #[] #[]),pg ((decide ((i:Int)<((l.length:Nat):Int))) == true) (.slice a l.length c),pg ((decide ((i:Int)<((l.length:Nat):Int))) == true) (I6 (i:Int)),pg ((decide ((i:Int)<((l.length:Nat):Int))) == true) (.pointer (some ⟨bkS (.slice a l.length c),ofS (.slice a l.length c)+(i:Int).toNat*7,none⟩)),pg ((decide ((i:Int)<((l.length:Nat):Int))) == true) (.agg (cec (gd l i)).toArray),pg ((decide ((i:Int)<((l.length:Nat):Int))) == true) (.agg (cec t).toArray),pg ((decide ((i:Int)<((l.length:Nat):Int))) == true) (I6 (cf (gd l i))),pg ((decide ((i:Int)<((l.length:Nat):Int))) == true) (.bool (decide (cf (gd l i)=0))),pv (.bool ((decide ((i:Int)<((l.length:Nat):Int)))&&(decide (cf (gd l i)=0)))),pv (I6 (i:Int)),pv (.bool ((decide ((i:Int)<((l.length:Nat):Int)))&&(decide (cf (gd l i)=0))))] (fun _ _=>_) [15,14] (by kernel_rfl) Y ⟨?_,?_,?_,?_,?_,?_,?_,?_,?_,?_,?_,?_,?_,?_,?_,?_,trivial⟩ ?_
 ·exact oi [] fun Y=>Qaf (.int .i64 (i:Int)) (Zz Y)
 ·exact oi [] fun Y=>Qaf (.int .i64 (i:Int)) (Zz Y)
 ·exact oi [] fun Y=>Qaf (.int .i64 ((l.length:Nat):Int)) (Zz Y)
 ·exact oi [1,2] fun Y=>Qa0 rfl rfl (Zz Y)
 ·exact oi [3] fun Y=>Qaf (.bool (decide ((i:Int)<((l.length:Nat):Int)))) (Zz Y)
 ·exact ogi [4] fun hG Y=>Qaf (.func (.func g) #[] #[]) (Zz Y)
 ·exact ogi [4] fun hG Y=>Qaf (.slice a l.length c) (Zz Y)
 ·exact ogi [4] fun hG Y=>Qaf (.int .i64 (i:Int)) (Zz Y)
 ·refine oyi [4,6,7] [6,7] fun hG Y=>?_
  have hgd:=QQ1 (eq_of_beq (hG))
  exact Qax QbK QaF.1 (Rd.own' hr Y) rfl rfl (by omega) (by rw [QQ6];omega) (Zz Y)
 ·refine oyi [4,8] [8] fun hG Y=>?_
  have hgd:=QQ1 (eq_of_beq (hG))
  exact Qa9 (j:=0) (vs:=cec (gd l i)) i QaF (Rd.own' hr Y) (Qa4 (by omega)) rfl rfl rfl (by omega) (Zz Y)
 ·exact ogi [4] fun hG Y=>QaK (cs:=cec t) QaF Y 0 rfl rfl rfl (Zz Y)
 ·exact oyi [4,5,9,10] [5,9,10] fun hG Y=>Qfu (vs:=[.agg (cec (gd l i)).toArray,.agg (cec t).toArray]) (cs:=[]) (V:=.int .i64 (cf (gd l i))) hg rfl rfl (hcmp _ (gd l i)) Y fun _ Y=>Zz Y
 ·exact oyi [4,11] [11] fun hG Y=>QaT rfl rfl (Zz Y)
 ·exact oi [4,12] fun Y=>Qbg (h':=decide (cf (gd l i)=0)) rfl rfl rfl (Zz Y)
 ·exact oi [0] fun Y=>Qam (.int .i64 (i:Int)) (Zz Y)
 ·exact oi [13] fun Y=>Qam (.bool ((decide ((i:Int)<((l.length:Nat):Int)))&&(decide (cf (gd l i)=0)))) (Zz Y)
 rintro J1 w9 J2 hJ Y
 replace hJ:J2=upd (upd (mix (sq 35 14++[6,7]) J1 _) 6 (I6 (i:Int))) 7 (.bool ((decide ((i:Int)<((l.length:Nat):Int)))&&(decide (cf (gd l i)=0)))):=hJ
 subst hJ
 refine Qav ?_
 refine ⟨_,QbO (U:=I6 (i:Int)) (V:=.bool ((decide ((i:Int)<((l.length:Nat):Int)))&&(decide (cf (gd l i)=0)))) results119 rfl rfl,(Zr Y ?_)⟩
 have hip2:i=Qcx (fun x=>decide (cf x<0)) l:=by omega
 rw [← hip2]
 congr 3
 by_cases h:i<l.length<;>simp [h]
theorem QmC (w:World) (a:Option Addr) (c:Nat) (l:List Lst) (t:Int) (hsmall:l.length<=4611686018427387904) (g:Nat) (hg:En prog g) (cf:Lst->Int) (hcmp:∀ (w:World) (x:Lst),Calls prog g #[.agg (lsc x).toArray,.int .u16 t] w (fun e w'=>e = .returned (.int .i64 (cf x))/\Own w no w' [])) (hm:Qnv (fun x=>decide (cf x<0)) l) (hr:Rd w (.slice a l.length c) 2 (l.map lsc)):Calls prog 124 #[.slice a l.length c,.int .u16 t,.func (.func g) #[] #[]] w (fun e w'=>e = .returned (.tuple #[.int .i64 ((Qcx (fun x=>decide (cf x<0)) l:Nat):Int),.bool (decide (Qcx (fun x=>decide (cf x<0)) l<l.length)&&decide (cf (gd l (Qcx (fun x=>decide (cf x<0)) l))=0))])/\Own w no w' []):=by
 refine Qah (n:=49) func124 rfl ntmps124 rfl ?_
 have Y:=Own.start w
 have hn:=hr.sml
 have hn2:l.length<=4611686018427387904:=hsmall
 refine Qae (Qab (Qaa (Qam (I6 0) (Qaa (Qam (.bool false) (Qad (Qae (Qab (Qaa (Qaf (.slice a l.length c) (Qaa (Qa5 (n:=l.length) QeS (Rd.own' hr Y) (by simp) rfl (Qaa (Qam (I6 ((l.length:Nat):Int)) (Qad (Qae (Qab (Qaa (Qaf (I6 ((l.length:Nat):Int)) (Qaa (Qam (I6 0) (Qaa (Qam (I6 ((l.length:Nat):Int)) (Qad (Qae (Qal (QaE (fun J μ J' w'=>∃ (Jo:Env) (i:Nat) (j:Nat),J'=upd (upd (mix ([9,10,11]++sq 15 20) Jo J) 9 (I6 (i:Int))) 10 (I6 (j:Int))/\(i<=Qcx (fun x=>decide (cf x<0)) l)/\(Qcx (fun x=>decide (cf x<0)) l<=j)/\(j<=l.length)/\μ=j-i/\Own w no w' []) ?_ ?_)))))))))))))))))))))))))))
 ·exact ⟨_,_,0,l.length,Qai (Qai (Qao (ds:=([9,10,11]++sq 15 20)) (Agr.refl _ _)) rfl) rfl,(Nat.zero_le _),Qgl,(Nat.le_refl _),rfl,Y⟩
 rintro μ J' w1 ⟨Jo,i,j,rfl,hip,hpj,hjl,rfl,Y⟩
 refine Qae (Qae (Qab (Qaa (Qaf (I6 (i:Int)) (Qaa (Qaf (I6 (j:Int)) (Qaa (Qa0 rfl rfl (Qad (Qak (t:=decide ((i:Int)<(j:Int))) rfl (fun c2=>?_) (fun c2=>?_)))))))))))
 ·
  replace c2:=QQ1 c2
  refine Qap (Qal (Qae (Qab (Qaa (Qaf (I6 (i:Int)) (Qaa (Qaf (I6 (j:Int)) (Qaa (QaB (a:=(i:Int)) (b:=(j:Int)) (c:=((i+j:Nat):Int)) rfl rfl (Qaj (by omega) (by omega)) (Qaa (QbV Qhk QdH rfl (Qdu (by omega) (by omega)) (Qaa (QhD rfl rfl (Qaa (QbV QdH Qhk rfl (Qbx (by omega) (by omega)) (Qaa (Qam (I6 (((i+j)/2:Nat):Int)) (Qad (Qae (Qab (Qaa (Qaf (.func (.func g) #[] #[]) (Qaa (Qaf (.slice a l.length c) (Qaa (Qaf (I6 (((i+j)/2:Nat):Int)) (Qaa (Qax QeS QbS.1 (Rd.own' hr Y) rfl rfl (by omega) (by rw [QQ6];omega) (Qaa (Qa9 (j:=0) (vs:=lsc (gd l ((i+j)/2))) ((i+j)/2) QbS (Rd.own' hr Y) (Qa4 (by omega)) rfl rfl rfl (by omega) (Qaa (Qaf (I7 t) (Qaa (Qfu (vs:=[.agg (lsc (gd l ((i+j)/2))).toArray,I7 t]) (cs:=[]) (V:=I6 (cf (gd l ((i+j)/2)))) hg rfl rfl (hcmp _ (gd l ((i+j)/2))) Y fun w3 Y=>(Qaa (Qa0 rfl rfl (Qad (Qak (t:=decide (cf (gd l ((i+j)/2))<0)) rfl (fun c4=>?_) (fun c4=>?_)))))))))))))))))))))))))))))))))))))))
  ·
   replace c4:=QQ1 c4
   refine Qab (Qaa (Qaf (I6 (((i+j)/2:Nat):Int)) (Qaa (QaB (a:=(((i+j)/2:Nat):Int)) (b:=1) (c:=((((i+j)/2)+1:Nat):Int)) rfl rfl (Qaj (by omega) (by omega)) (Qaa (Qam (I6 ((((i+j)/2)+1:Nat):Int)) (Qad ?_)))))))
   refine ⟨_,?_,_,((i+j)/2)+1,j,Qai (Qai (Qao (ds:=([9,10,11]++sq 15 20)) (by repeat (first|exact Agr.refl _ _|refine Agr.upd ?_ rfl|refine Agr.mix ?_ rfl))) rfl) rfl,(by have:=QoQ (f:=(fun x=>decide (cf x<0))) hm (by omega) (QQ3 c4);omega),(by omega),(by omega),rfl,Y.take 0⟩
   omega
  replace c4:=QQ2 c4
  refine Qab (Qaa (Qaf (I6 (((i+j)/2:Nat):Int)) (Qaa (Qam (I6 (((i+j)/2:Nat):Int)) (Qad ?_)))))
  refine ⟨_,?_,_,i,(i+j)/2,Qai (Qai (Qao (ds:=([9,10,11]++sq 15 20)) (by repeat (first|exact Agr.refl _ _|refine Agr.upd ?_ rfl|refine Agr.mix ?_ rfl))) rfl) rfl,(by omega),(by have:=Qin (f:=(fun x=>decide (cf x<0))) (l:=l) (QQ4 c4);omega),(by omega),rfl,Y.take 0⟩
  omega
 replace c2:=QQ2 c2
 refine QaI (Qae ?_)
 have hij:i=j:=by omega
 refine Qbv (so 35 14++[some 6,some 7]) [] [0,0,0,6,14,30,30,30,222,478,30,2046,4094,8190,4095,32767] [pv (I6 (i:Int)),pv (I6 (i:Int)),pv (I6 ((l.length:Nat):Int)),pv (.bool (decide ((i:Int)<((l.length:Nat):Int)))),pv (.bool (decide ((i:Int)<((l.length:Nat):Int)))),pg ((decide ((i:Int)<((l.length:Nat):Int))) == true) (.func (.func g) #[] #[]),pg ((decide ((i:Int)<((l.length:Nat):Int))) == true) (.slice a l.length c),pg ((decide ((i:Int)<((l.length:Nat):Int))) == true) (I6 (i:Int)),pg ((decide ((i:Int)<((l.length:Nat):Int))) == true) (.pointer (some ⟨bkS (.slice a l.length c),ofS (.slice a l.length c)+(i:Int).toNat*2,none⟩)),pg ((decide ((i:Int)<((l.length:Nat):Int))) == true) (.agg (lsc (gd l i)).toArray),pg ((decide ((i:Int)<((l.length:Nat):Int))) == true) (I7 t),pg ((decide ((i:Int)<((l.length:Nat):Int))) == true) (I6 (cf (gd l i))),pg ((decide ((i:Int)<((l.length:Nat):Int))) == true) (.bool (decide (cf (gd l i)=0))),pv (.bool ((decide ((i:Int)<((l.length:Nat):Int)))&&(decide (cf (gd l i)=0)))),pv (I6 (i:Int)),pv (.bool ((decide ((i:Int)<((l.length:Nat):Int)))&&(decide (cf (gd l i)=0))))] (fun _ _=>_) [15,14] (by kernel_rfl) Y ⟨?_,?_,?_,?_,?_,?_,?_,?_,?_,?_,?_,?_,?_,?_,?_,?_,trivial⟩ ?_
 ·exact oi [] fun Y=>Qaf (.int .i64 (i:Int)) (Zz Y)
 ·exact oi [] fun Y=>Qaf (.int .i64 (i:Int)) (Zz Y)
 ·exact oi [] fun Y=>Qaf (.int .i64 ((l.length:Nat):Int)) (Zz Y)
 ·exact oi [1,2] fun Y=>Qa0 rfl rfl (Zz Y)
 ·exact oi [3] fun Y=>Qaf (.bool (decide ((i:Int)<((l.length:Nat):Int)))) (Zz Y)
 ·exact ogi [4] fun hG Y=>Qaf (.func (.func g) #[] #[]) (Zz Y)
 ·exact ogi [4] fun hG Y=>Qaf (.slice a l.length c) (Zz Y)
 ·exact ogi [4] fun hG Y=>Qaf (.int .i64 (i:Int)) (Zz Y)
 ·refine oyi [4,6,7] [6,7] fun hG Y=>?_
  have hgd:=QQ1 (eq_of_beq (hG))
  exact Qax QeS QbS.1 (Rd.own' hr Y) rfl rfl (by omega) (by rw [QQ6];omega) (Zz Y)
 ·refine oyi [4,8] [8] fun hG Y=>?_
  have hgd:=QQ1 (eq_of_beq (hG))
  exact Qa9 (j:=0) (vs:=lsc (gd l i)) i QbS (Rd.own' hr Y) (Qa4 (by omega)) rfl rfl rfl (by omega) (Zz Y)
 ·exact ogi [4] fun hG Y=>Qaf (.int .u16 t) (Zz Y)
 ·exact oyi [4,5,9,10] [5,9,10] fun hG Y=>Qfu (vs:=[.agg (lsc (gd l i)).toArray,.int .u16 t]) (cs:=[]) (V:=.int .i64 (cf (gd l i))) hg rfl rfl (hcmp _ (gd l i)) Y fun _ Y=>Zz Y
 ·exact oyi [4,11] [11] fun hG Y=>QaT rfl rfl (Zz Y)
 ·exact oi [4,12] fun Y=>Qbg (h':=decide (cf (gd l i)=0)) rfl rfl rfl (Zz Y)
 ·exact oi [0] fun Y=>Qam (.int .i64 (i:Int)) (Zz Y)
 ·exact oi [13] fun Y=>Qam (.bool ((decide ((i:Int)<((l.length:Nat):Int)))&&(decide (cf (gd l i)=0)))) (Zz Y)
 rintro J1 w6 J2 hJ Y
 replace hJ:J2=upd (upd (mix (sq 35 14++[6,7]) J1 _) 6 (I6 (i:Int))) 7 (.bool ((decide ((i:Int)<((l.length:Nat):Int)))&&(decide (cf (gd l i)=0)))):=hJ
 subst hJ
 refine Qav ?_
 refine ⟨_,QbO (U:=I6 (i:Int)) (V:=.bool ((decide ((i:Int)<((l.length:Nat):Int)))&&(decide (cf (gd l i)=0)))) results124 rfl rfl,(Zr Y ?_)⟩
 have hip2:i=Qcx (fun x=>decide (cf x<0)) l:=by omega
 rw [← hip2]
 congr 3
 by_cases h:i<l.length<;>simp [h]
end Tt
end Go.Proofs
namespace Go.Proofs
open Go Go.Vx Go.RowKit
open Tryz
namespace Tt
theorem Qll (w:World) (x y:Cen):Calls prog 120 #[.agg (cec x).toArray,.agg (cec y).toArray] w (fun e w'=>e = .returned (.int .i64 (Qb1 x y))/\Own w no w' []):=by
 refine Qah (n:=26) func120 rfl ntmps120 rfl ?_
 have Y:=Own.start w
 refine Qae (Qab (Qaa (QaY (V:=.agg (cec x).toArray) (cs:=cec x) rfl rfl Y fun b1 w2 Y=>(Qaa (QaY (V:=.agg (cec y).toArray) (cs:=cec y) rfl rfl Y fun b3 w4 Y=>(Qaa (Qam (I6 0) (Qad (Qae ?_)))))))))
 replace Y:=Y.more emp trivial
 refine QaH HM (so 5 21++[some 4]) [[],[],[],[],[],[],[],[],[],[],[],[],[],[],[],[],[],[],[],[24]] [0,1,0,4,15,0,32,96,0,256,768,2047,0,4096,12288,0,32768,98304,262143,524287,1048575,2097151] [pv (Pq b1 (0+0)),pv (I7 x.cart),pv (Pq b3 (0+0)),pv (I7 y.cart),pv (I6 (QaR x.cart y.cart)),pv (Pq b1 (0+4)),pv (Pq b1 (0+4+0)),pv (.int .u8 x.dot.rep),pv (Pq b3 (0+4)),pv (Pq b3 (0+4+0)),pv (.int .u8 y.dot.rep),pv (I6 (QaR x.dot.rep y.dot.rep)),pv (Pq b1 (0+4)),pv (Pq b1 (0+4+1)),pv (.int .u32 x.dot.seq),pv (Pq b3 (0+4)),pv (Pq b3 (0+4+1)),pv (.int .u32 y.dot.seq),pv (I6 (QaR x.dot.seq y.dot.seq)),(true,fun J=>.slice (some ⟨(bOf (J 24)),0,none⟩) 3 3),pv (I6 (orI [QaR x.cart y.cart,QaR x.dot.rep y.dot.rep,QaR x.dot.seq y.dot.seq])),pv (I6 (orI [QaR x.cart y.cart,QaR x.dot.rep y.dot.rep,QaR x.dot.seq y.dot.seq]))] (fun D J=>[blk b1 (cec x) 106,blk b3 (cec y) 106,cond (D 19) (row (.slice (some ⟨(bOf (J 24)),0,none⟩) 3 3) ([QaR x.cart y.cart,QaR x.dot.rep y.dot.rep,QaR x.dot.seq y.dot.seq].map (ic .i64)) 3 1) (emp)]) [21] (by kernel_rfl) Y ⟨?_,?_,?_,?_,?_,?_,?_,?_,?_,?_,?_,?_,?_,?_,?_,?_,?_,?_,?_,?_,?_,?_,trivial⟩ ?_
 ·exact oi [] fun Y=>Qac QdE rfl (Zz Y)
 ·exact oi [0] fun Y=>QaN (.int .u16 x.cart) Qar Y 0 (Zz Y)
 ·exact oi [] fun Y=>Qac QdE rfl (Zz Y)
 ·exact oi [2] fun Y=>QaN (.int .u16 y.cart) Qar Y 1 (Zz Y)
 ·exact oi [1,3] fun Y=>Qas (vs:=[.int .u16 x.cart,.int .u16 y.cart]) (V:=.int .i64 (QaR x.cart y.cart)) Qqr rfl rfl (Qdm _ x.cart y.cart) Y fun _ Y=>Zz Y
 ·exact oi [] fun Y=>Qac QbX rfl (Zz Y)
 ·exact oi [5] fun Y=>Qac QbJ rfl (Zz Y)
 ·exact oi [6] fun Y=>QaN (.int .u8 x.dot.rep) QcI Y 0 (Zz Y)
 ·exact oi [] fun Y=>Qac QbX rfl (Zz Y)
 ·exact oi [8] fun Y=>Qac QbJ rfl (Zz Y)
 ·exact oi [9] fun Y=>QaN (.int .u8 y.dot.rep) QcI Y 1 (Zz Y)
 ·exact oi [7,10] fun Y=>Qas (vs:=[.int .u8 x.dot.rep,.int .u8 y.dot.rep]) (V:=.int .i64 (QaR x.dot.rep y.dot.rep)) Qrh rfl rfl (QdG _ x.dot.rep y.dot.rep) Y fun _ Y=>Zz Y
 ·exact oi [] fun Y=>Qac QbX rfl (Zz Y)
 ·exact oi [12] fun Y=>Qac QbN rfl (Zz Y)
 ·exact oi [13] fun Y=>QaN (.int .u32 x.dot.seq) QaU Y 0 (Zz Y)
 ·exact oi [] fun Y=>Qac QbX rfl (Zz Y)
 ·exact oi [15] fun Y=>Qac QbN rfl (Zz Y)
 ·exact oi [16] fun Y=>QaN (.int .u32 y.dot.seq) QaU Y 1 (Zz Y)
 ·exact oi [14,17] fun Y=>Qas (vs:=[.int .u32 x.dot.seq,.int .u32 y.dot.seq]) (V:=.int .i64 (QaR x.dot.seq y.dot.seq)) Qql rfl rfl (Qdk _ x.dot.seq y.dot.seq) Y fun _ Y=>Zz Y
 ·exact oi [4,11,18] fun Y=>Qho (vals:=[.int .i64 (QaR x.cart y.cart),.int .i64 (QaR x.dot.rep y.dot.rep),.int .i64 (QaR x.dot.seq y.dot.seq)]) (ls:=List.map (ic .i64) ([QaR x.cart y.cart,QaR x.dot.rep y.dot.rep,QaR x.dot.seq y.dot.seq]:List Int)) QkI rfl rfl rfl (Qbn (enc:=(ic .i64)) (fun _=>rfl) _) (QaW (QfB .i64) _) (QQ8 rfl) Y fun _ _ Y=>⟨rfl,Y.put 2 (QQ8 rfl)⟩
 ·exact oa [19] fun D J w Y=>Qas (vs:=[.slice (some ⟨(bOf (J 24)),0,none⟩) 3 3]) (V:=.int .i64 (orI [QaR x.cart y.cart,QaR x.dot.rep y.dot.rep,QaR x.dot.seq y.dot.seq])) Qpg rfl rfl (Qpr _ (some ⟨(bOf (J 24)),0,none⟩) 3 [QaR x.cart y.cart,QaR x.dot.rep y.dot.rep,QaR x.dot.seq y.dot.seq] (Y.rd 2 rfl)) Y fun _ Y=>Zz Y
 ·exact oi [20] fun Y=>Qam (.int .i64 (orI [QaR x.cart y.cart,QaR x.dot.rep y.dot.rep,QaR x.dot.seq y.dot.seq])) (Zz Y)
 rintro J1 w10 J2 hJ Y
 replace hJ:J2=upd (mix (sq 5 21++[4]) J1 _) 4 (I6 (orI [QaR x.cart y.cart,QaR x.dot.rep y.dot.rep,QaR x.dot.seq y.dot.seq])):=hJ
 replace Y:Own w no w10 [blk b1 (cec x) 106,blk b3 (cec y) 106,row (.slice (some ⟨(bOf (J1 24)),0,none⟩) 3 3) ([QaR x.cart y.cart,QaR x.dot.rep y.dot.rep,QaR x.dot.seq y.dot.seq].map (ic .i64)) 3 1]:=Y
 generalize (bOf (J1 24))=b11 at Y
 subst hJ
 refine Qav ?_
 refine ⟨_,Qan (V:=I6 (orI [QaR x.cart y.cart,QaR x.dot.rep y.dot.rep,QaR x.dot.seq y.dot.seq])) results120 rfl,(Zr Y ?_)⟩
 rfl
theorem Ql2 (w:World) (x:Cen) (hx:Qj2 x):Calls prog 123 #[.agg (cec x).toArray] w (fun e w'=>e = .returned (.bool (Qdg x))/\Own w no w' []):=by
 refine Qah (n:=25) func123 rfl ntmps123 rfl ?_
 have Y:=Own.start w
 refine Qae (Qab (Qaa (QaY (V:=.agg (cec x).toArray) (cs:=cec x) rfl rfl Y fun b1 w2 Y=>(Qaa (Qam (.bool false) (Qad (Qae (Qae (Qab (Qaa (Qac QeR rfl (Qaa (QaN (.int .u8 x.kind) QcI Y 0 (Qad (Qal (Qae (Qab (Qaa (QaT rfl rfl (Qaa (Qam (.bool (decide (x.kind=1))) (Qad (Qak (t:=decide (x.kind=1)) rfl (fun c3=>?_) (fun c3=>?_))))))))))))))))))))))))
 ·
  replace c3:=QQ1 c3
  refine Qae (Qab (Qaa (Qac QeC rfl (Qaa (QaN (I7 x.qty) Qar Y 0 (Qaa (Qca rfl rfl (Qaa (Qam (.bool (decide (0<x.qty))) (Qad (Qav ?_)))))))))))
  refine ⟨_,Qan (V:=.bool (decide (0<x.qty))) results123 rfl,(Zr Y (congrArg Value.bool ?_))⟩
  unfold Qdg
  have ⟨_,_,⟨hq1,hq2⟩,_,_,_⟩:=hx
  simp_all [Bool.and_assoc]
  try omega
 replace c3:=QQ2 c3
 refine Qae (Qab (Qaa (QaT rfl rfl (Qaa (Qam (.bool (decide (x.kind=2))) (Qad (Qak (t:=decide (x.kind=2)) rfl (fun c4=>?_) (fun c4=>?_))))))))
 ·
  replace c4:=QQ1 c4
  refine Qae (Qab (Qaa (Qam (.bool true) (Qad (Qav ?_)))))
  refine ⟨_,Qan (V:=.bool true) results123 rfl,(Zr Y (congrArg Value.bool ?_))⟩
  unfold Qdg
  have ⟨_,_,⟨hq1,hq2⟩,_,_,_⟩:=hx
  simp_all [Bool.and_assoc]
  try omega
 replace c4:=QQ2 c4
 refine Qap (Qae (Qbv (so 12 13++[some 2]) [] [0,1,3,7,15,31,63,127,255,511,1023,2047,4095,8191] [pv (Pq b1 (0+3)),pv (.int .u8 x.kind),pv (.bool (decide (x.kind=4))),pv (.bool (decide (x.kind=4))),pg ((decide (x.kind=4)) == true) (Pq b1 (0+1)),pg ((decide (x.kind=4)) == true) (I7 x.item),pg ((decide (x.kind=4)) == true) (.bool (decide (x.item=0))),pv (.bool ((decide (x.kind=4))&&(decide (x.item=0)))),pv (.bool ((decide (x.kind=4))&&(decide (x.item=0)))),pg (((decide (x.kind=4))&&(decide (x.item=0))) == true) (Pq b1 (0+2)),pg (((decide (x.kind=4))&&(decide (x.item=0))) == true) (I7 x.qty),pg (((decide (x.kind=4))&&(decide (x.item=0))) == true) (.bool (decide (x.qty=0))),pv (.bool (((decide (x.kind=4))&&(decide (x.item=0)))&&(decide (x.qty=0)))),pv (.bool (((decide (x.kind=4))&&(decide (x.item=0)))&&(decide (x.qty=0))))] (fun _ _=>_) [13] (by kernel_rfl) Y ⟨?_,?_,?_,?_,?_,?_,?_,?_,?_,?_,?_,?_,?_,?_,trivial⟩ ?_))
 ·exact oi [] fun Y=>Qac QeR rfl (Zz Y)
 ·exact oi [0] fun Y=>QaN (.int .u8 x.kind) QcI Y 0 (Zz Y)
 ·exact oi [1] fun Y=>QaT rfl rfl (Zz Y)
 ·exact oi [2] fun Y=>Qaf (.bool (decide (x.kind=4))) (Zz Y)
 ·exact ogi [3] fun hG Y=>Qac QdJ rfl (Zz Y)
 ·exact oyi [3,4] [4] fun hG Y=>QaN (.int .u16 x.item) Qar Y 0 (Zz Y)
 ·exact oyi [3,5] [5] fun hG Y=>QaT rfl rfl (Zz Y)
 ·exact oi [3,6] fun Y=>Qbg (h':=decide (x.item=0)) rfl rfl rfl (Zz Y)
 ·exact oi [7] fun Y=>Qaf (.bool ((decide (x.kind=4))&&(decide (x.item=0)))) (Zz Y)
 ·exact ogi [8] fun hG Y=>Qac QeC rfl (Zz Y)
 ·exact oyi [8,9] [9] fun hG Y=>QaN (.int .u16 x.qty) Qar Y 0 (Zz Y)
 ·exact oyi [8,10] [10] fun hG Y=>QaT rfl rfl (Zz Y)
 ·exact oi [8,11] fun Y=>Qbg (h':=decide (x.qty=0)) rfl rfl rfl (Zz Y)
 ·exact oi [12] fun Y=>Qam (.bool (((decide (x.kind=4))&&(decide (x.item=0)))&&(decide (x.qty=0)))) (Zz Y)
 rintro J1 w5 J2 hJ Y
 replace hJ:J2=upd (mix (sq 12 13++[2]) J1 _) 2 (.bool (((decide (x.kind=4))&&(decide (x.item=0)))&&(decide (x.qty=0)))):=hJ
 subst hJ
 refine Qav ?_
 refine ⟨_,Qan (V:=.bool (((decide (x.kind=4))&&(decide (x.item=0)))&&(decide (x.qty=0)))) results123 rfl,(Zr Y (congrArg Value.bool ?_))⟩
 unfold Qdg
 have ⟨_,_,⟨hq1,hq2⟩,_,_,_⟩:=hx
 simp_all [Bool.and_assoc]
 try omega
theorem Qpv (w:World) (x:Lst) (c:Int):Calls prog 125 #[.agg (lsc x).toArray,.int .u16 c] w (fun e w'=>e = .returned (.int .i64 (QaR x.cart c))/\Own w no w' []):=by
 refine Qah (n:=9) func125 rfl ntmps125 rfl ?_
 have Y:=Own.start w
 refine Qae (Qab (Qaa (QaY (V:=.agg (lsc x).toArray) (cs:=lsc x) rfl rfl Y fun b1 w2 Y=>(Qaa (Qam (I6 0) (Qad (Qae (Qab (Qaa (Qac QeP rfl (Qaa (QaN (I7 x.cart) Qar Y 0 (Qaa (Qaf (I7 c) (Qaa (Qas (vs:=[I7 x.cart,I7 c]) (V:=I6 (QaR x.cart c)) Qqr rfl rfl ?hc Y fun w3 Y=>?_))))))))))))))))
 case hc=>exact (Qdm _ x.cart c)
 refine Qaa (Qam (I6 (QaR x.cart c)) (Qad (Qav ?_)))
 refine ⟨_,Qan (V:=I6 (QaR x.cart c)) results125 rfl,(Zr Y ?_)⟩
 rfl
theorem Qh4 (w:World) (kn:Vec) (v1:Value) (a2:Option Addr) (c2:Nat) (ts:List Lst) (c:Int) (hlt:ts.length<=100000) (hT:QdQ ts) (hr2:Rd w (.slice a2 ts.length c2) 2 (ts.map lsc)):Calls prog 74 #[.agg ((vc kn)++[(v1:Value),(.slice a2 ts.length c2:Value) ]).toArray,.int .u16 c] w (fun e w'=>e = .returned (.tuple #[.int .i64 ((QbR ts c:Nat):Int),.bool (QaL ts c).isSome])/\Own w no w' []):=by
 refine Qah (n:=12) func74 rfl ntmps74 rfl ?_
 have Y:=Own.start w
 refine Qae (Qab (Qaa (QaY (V:=.agg ((vc kn)++[(v1:Value),(.slice a2 ts.length c2:Value) ]).toArray) (cs:=(vc kn)++[(v1:Value),(.slice a2 ts.length c2:Value) ]) rfl rfl Y fun b1 w2 Y=>(Qaa (Qam (I6 0) (Qaa (Qam (.bool false) (Qad (Qae (Qab (Qaa (Qac Qc0 rfl (Qaa (QaN (.slice a2 ts.length c2) Qf5 Y 0 (Qaa (Qaf (I7 c) (Qaa (Qgq (vs:=[.slice a2 ts.length c2,I7 c,.func (.func 125) #[] #[]]) (V:=.tuple #[I6 ((Qcx (fun x=>decide ((fun x:Lst=>QaR x.cart c) x<0)) ts:Nat):Int),.bool (decide (Qcx (fun x=>decide ((fun x:Lst=>QaR x.cart c) x<0)) ts<ts.length)&&decide ((fun x:Lst=>QaR x.cart c) (gd ts (Qcx (fun x=>decide ((fun x:Lst=>QaR x.cart c) x<0)) ts))=0))]) (V':=.tuple #[I6 ((QbR ts c:Nat):Int),.bool ((QaL ts c).isSome)]) (by rw [← Qmg hT c];rfl) QvH rfl rfl (QmC _ a2 c2 ts c (by omega) 125 Qwb (fun x:Lst=>QaR x.cart c) (fun w x=>Qpv w x c) (Qom hT c) (Rd.own' hr2 Y)) Y fun w3 Y=>(Qaa (QaC (V:=I6 ((QbR ts c:Nat):Int)) rfl rfl (Qaa (QaC (V:=.bool ((QaL ts c).isSome)) rfl rfl (Qaa (Qam (I6 ((QbR ts c:Nat):Int)) (Qaa (Qam (.bool ((QaL ts c).isSome)) (Qad (Qav ?_))))))))))))))))))))))))))))
 refine ⟨_,QbO (U:=I6 ((QbR ts c:Nat):Int)) (V:=.bool ((QaL ts c).isSome)) results74 rfl rfl,(Zr Y ?_)⟩
 rfl
end Tt
end Go.Proofs
namespace Go.Proofs
open Go Go.Vx Go.RowKit
open Tryz
namespace Tt
theorem Qfb (w:World) (s:Sta) (a1:Option Addr) (c1:Nat) (a2:Option Addr) (c2:Nat) (hok:QdV s) (hle:s.ents.length<=1000) (hlt:s.ticks.length<=1000) (hr1:Rd w (.slice a1 s.ents.length c1) 7 (s.ents.map cec)) (hr2:Rd w (.slice a2 s.ticks.length c2) 2 (s.ticks.map lsc)):Calls prog 73 #[.agg ((vc s.known)++[(.slice a1 s.ents.length c1:Value),(.slice a2 s.ticks.length c2:Value) ]).toArray] w (fun e w'=>e = .returned (.bool (Qaw s))/\Own w no w' []):=by
 refine Qah (n:=107) func73 rfl ntmps73 rfl ?_
 have Y:=Own.start w
 have ⟨hv0,hE0,hT0⟩:=hok
 have hn1:=hr1.sml
 have hn2:=hr2.sml
 refine Qae (Qab (Qaa (QaY (V:=.agg ((vc s.known)++[(.slice a1 s.ents.length c1:Value),(.slice a2 s.ticks.length c2:Value) ]).toArray) (cs:=(vc s.known)++[(.slice a1 s.ents.length c1:Value),(.slice a2 s.ticks.length c2:Value) ]) rfl rfl Y fun b1 w2 Y=>(Qaa (Qam (.bool false) (Qad (Qae (Qae (Qab (Qaa (Qac Qeo rfl (Qaa (QbT (vs:=vc s.known) QbC Y 0 rfl rfl rfl rfl (Qaa (Qas (vs:=[.agg (vc s.known).toArray,I6 16]) (V:=.bool (QaQ s.known 16)) QtF rfl rfl ?hc Y fun w3 Y=>?_)))))))))))))))
 case hc=>exact (QgW _ s.known 16 (by first|assumption|exact Qch))
 refine Qaa (QbB rfl (Qad (Qak (t:=!(QaQ s.known 16)) rfl (fun c4=>?_) (fun c4=>?_))))
 ·
  replace c4:=QbE c4
  refine Qae (Qab (Qaa (Qam (.bool false) (Qad (Qav ?_)))))
  refine ⟨_,Qan (V:=.bool false) results73 rfl,(Zr Y ?_)⟩
  exact congrArg Value.bool (Qml c4).symm
 replace c4:=Qbd c4
 refine Qap (Qae (Qae (Qab (Qaa (Qac Qc0 rfl (Qaa (QaN (.slice a2 s.ticks.length c2) Qf5 Y 0 (Qaa (Qa5 (n:=s.ticks.length) QeS (Rd.own' hr2 Y) (by simp) rfl (Qaa (Qaf (I6 0) (Qad (Qal (QaE (fun J μ J' w'=>∃ (Jo:Env) (k:Nat),J'=upd (mix ([2,3,4]++sq 19 25) Jo J) 19 (I6 (k:Int))/\(k<=s.ticks.length)/\(∀ j:Nat,j<k->Qpe s.ticks j=false)/\μ=s.ticks.length-k/\Own w no w' [blk b1 ((vc s.known)++[(.slice a1 s.ents.length c1:Value),(.slice a2 s.ticks.length c2:Value) ]) 38]) ?_ ?_))))))))))))))
 ·exact ⟨_,_,0,Qai (Qao (ds:=([2,3,4]++sq 19 25)) (Agr.refl _ _)) rfl,(by omega),(fun j hj=>absurd hj (Nat.not_lt_zero j)),rfl,Y⟩
 rintro μ J' w5 ⟨Jo,k,rfl,hk,hbt,rfl,Y⟩
 refine Qae (Qab (Qaa (Qa0 rfl rfl (Qad (Qae (Qak (t:=decide ((k:Int)<((s.ticks.length:Nat):Int))) rfl (fun c6=>?_) (fun c6=>?_)))))))
 ·
  replace c6:=QQ1 c6
  refine Qap (Qae (Qal (Qae (Qab (Qaa (Qaf (I6 (k:Int)) (Qaa (Qax QeS QbS.1 (Rd.own' hr2 Y) rfl rfl (by omega) (by rw [QQ6];omega) (Qaa (Qa9 (j:=0) (vs:=lsc (gd s.ticks k)) k QbS (Rd.own' hr2 Y) (Qa4 (by omega)) rfl rfl rfl (by omega) (Qaa (QaJ (cs:=lsc (⟨0,0⟩:Lst)) Qlm rfl Y fun b7 w8 Y=>(Qaa (Qam (I6 (k:Int)) (Qaa (Qcz (V:=.agg (lsc (gd s.ticks k)).toArray) (vs:=lsc (gd s.ticks k)) (cs':=lsc (gd s.ticks k)) QbS.1 Y 1 rfl rfl rfl rfl rfl (QQ8 rfl) (Qcp _) (Qaz rfl) fun w9 Y=>(Qad (Qae (QaH HM (so 24 19) [] [0,1,3,7,15,31,63,127,255,127,639,2047,4095,8191,127,16511,65535,131071,262143] [pv (Pq b7 (0+1)),pv (.int .u32 ((gd s.ticks k).tick)),pv (.bool (decide (1073741824<(gd s.ticks k).tick))),pv (.bool (decide (1073741824<(gd s.ticks k).tick))),pg ((decide (1073741824<(gd s.ticks k).tick)) == false) (I6 (k:Int)),pg ((decide (1073741824<(gd s.ticks k).tick)) == false) (.bool (decide (0<(k:Int)))),pg ((decide (1073741824<(gd s.ticks k).tick)) == false) (.bool (decide (0<(k:Int)))),pg (((decide (1073741824<(gd s.ticks k).tick)) == false)&&((decide (0<(k:Int))) == true)) (Pq b1 (0+17)),pg (((decide (1073741824<(gd s.ticks k).tick)) == false)&&((decide (0<(k:Int))) == true)) (.slice a2 s.ticks.length c2),pg (((decide (1073741824<(gd s.ticks k).tick)) == false)&&((decide (0<(k:Int))) == true)) (I6 (k:Int)),pg (((decide (1073741824<(gd s.ticks k).tick)) == false)&&((decide (0<(k:Int))) == true)) (I6 ((k-1:Nat):Int)),pg (((decide (1073741824<(gd s.ticks k).tick)) == false)&&((decide (0<(k:Int))) == true)) (.pointer (some ⟨bkS (.slice a2 s.ticks.length c2),ofS (.slice a2 s.ticks.length c2)+((k-1:Nat):Int).toNat*2,none⟩)),pg (((decide (1073741824<(gd s.ticks k).tick)) == false)&&((decide (0<(k:Int))) == true)) (.pointer (some ⟨bkS (.slice a2 s.ticks.length c2),ofS (.slice a2 s.ticks.length c2)+((k-1:Nat):Int).toNat*2+0,none⟩)),pg (((decide (1073741824<(gd s.ticks k).tick)) == false)&&((decide (0<(k:Int))) == true)) (I7 ((gd s.ticks (k-1)).cart)),pg (((decide (1073741824<(gd s.ticks k).tick)) == false)&&((decide (0<(k:Int))) == true)) (Pq b7 (0+0)),pg (((decide (1073741824<(gd s.ticks k).tick)) == false)&&((decide (0<(k:Int))) == true)) (I7 ((gd s.ticks k).cart)),pg (((decide (1073741824<(gd s.ticks k).tick)) == false)&&((decide (0<(k:Int))) == true)) (.bool (decide ((gd s.ticks k).cart<=(gd s.ticks (k-1)).cart))),pg ((decide (1073741824<(gd s.ticks k).tick)) == false) (.bool ((decide (0<(k:Int)))&&(decide ((gd s.ticks k).cart<=(gd s.ticks (k-1)).cart)))),pv (.bool ((decide (1073741824<(gd s.ticks k).tick))||((decide (0<(k:Int)))&&(decide ((gd s.ticks k).cart<=(gd s.ticks (k-1)).cart)))))] (fun _ _=>_) [18] (by kernel_rfl) Y ⟨?_,?_,?_,?_,?_,?_,?_,?_,?_,?_,?_,?_,?_,?_,?_,?_,?_,?_,?_,trivial⟩ ?_)))))))))))))))))))
  ·exact oi [] fun Y=>Qac QeO rfl (Zz Y)
  ·exact oi [0] fun Y=>QaN (.int .u32 ((gd s.ticks k).tick)) QaU Y 1 (Zz Y)
  ·exact oi [1] fun Y=>Qca rfl rfl (Zz Y)
  ·exact oi [2] fun Y=>Qaf (.bool (decide (1073741824<(gd s.ticks k).tick))) (Zz Y)
  ·exact ogi [3] fun hG Y=>Qaf (.int .i64 (k:Int)) (Zz Y)
  ·exact oyi [3,4] [4] fun hG Y=>Qca rfl rfl (Zz Y)
  ·exact oyi [3,5] [5] fun hG Y=>Qaf (.bool (decide (0<(k:Int)))) (Zz Y)
  ·exact ogi [6] fun hG Y=>Qac Qc0 rfl (Zz Y)
  ·exact oyi [6,7] [7] fun hG Y=>QaN (.slice a2 s.ticks.length c2) Qf5 Y 0 (Zz Y)
  ·exact ogi [6] fun hG Y=>Qaf (.int .i64 (k:Int)) (Zz Y)
  ·refine oyi [6,9] [9] fun hG Y=>?_
   have hgd0:=QQ2 (eq_of_beq (QbZ (hG)))
   have hgd1:=QQ1 (eq_of_beq (Qcl (hG)))
   exact Qbb (a:=(k:Int)) (b:=1) (c:=((k-1:Nat):Int)) rfl rfl (Qaj (by omega) (by omega)) (Zz Y)
  ·refine oyi [6,8,10] [8,10] fun hG Y=>?_
   have hgd0:=QQ2 (eq_of_beq (QbZ (hG)))
   have hgd1:=QQ1 (eq_of_beq (Qcl (hG)))
   exact Qax QeS QbS.1 (Rd.own' hr2 Y) rfl rfl (by omega) (by rw [QQ6];omega) (Zz Y)
  ·exact oyi [6,11] [11] fun hG Y=>Qac QeP rfl (Zz Y)
  ·refine oyi [6,12] [12] fun hG Y=>?_
   have hgd0:=QQ2 (eq_of_beq (QbZ (hG)))
   have hgd1:=QQ1 (eq_of_beq (Qcl (hG)))
   exact QaV (j:=0) (V:=.int .u16 ((gd s.ticks (k-1)).cart)) (k-1) Qar (Rd.own' hr2 Y) (Qa4 (by omega)) rfl rfl (by omega) (Zz Y)
  ·exact ogi [6] fun hG Y=>Qac QeP rfl (Zz Y)
  ·exact oyi [6,14] [14] fun hG Y=>QaN (.int .u16 ((gd s.ticks k).cart)) Qar Y 1 (Zz Y)
  ·exact oyi [6,13,15] [13,15] fun hG Y=>QcZ rfl rfl (Zz Y)
  ·exact oyi [3,6,16] [6] fun hG Y=>Qi4 (h':=decide ((gd s.ticks k).cart<=(gd s.ticks (k-1)).cart)) (G:=((decide (1073741824<(gd s.ticks k).tick)) == false)) hG rfl rfl rfl (Zz Y)
  ·exact oi [3,17] fun Y=>QbP (h':=(decide (0<(k:Int)))&&(decide ((gd s.ticks k).cart<=(gd s.ticks (k-1)).cart))) rfl rfl rfl (Zz Y)
  rintro J1 w10 J2 hJ Y
  replace hJ:J2=upd (mix (sq 24 19) J1 _) 42 (.bool ((decide (1073741824<(gd s.ticks k).tick))||((decide (0<(k:Int)))&&(decide ((gd s.ticks k).cart<=(gd s.ticks (k-1)).cart))))):=hJ
  subst hJ
  refine Qak (t:=(decide (1073741824<(gd s.ticks k).tick))||((decide (0<(k:Int)))&&(decide ((gd s.ticks k).cart<=(gd s.ticks (k-1)).cart)))) rfl (fun c11=>?_) (fun c11=>?_)
  ·
   refine Qae (Qab (Qaa (Qam (.bool false) (Qad (Qav ?_)))))
   refine ⟨_,Qan (V:=.bool false) results73 rfl,(Zr Y ?_)⟩
   exact congrArg Value.bool (Qlx (i:=k) (by omega) (by unfold Qpe;have hq:=c11;simpa using hq)).symm
  have c11r:=Qfa c11
  replace c11:=Qe8 c11
  replace c11:=QQ2 c11
  refine Qap (Qab (Qaa (QaB (a:=(k:Int)) (b:=1) (c:=((k+1:Nat):Int)) rfl rfl (Qaj (by omega) (by omega)) (Qaa (Qaf (I6 ((k+1:Nat):Int)) (Qad ?_))))))
  refine ⟨_,?_,_,k+1,Qai (Qao (ds:=([2,3,4]++sq 19 25)) (by repeat (first|exact Agr.refl _ _|refine Agr.upd ?_ rfl|refine Agr.mix ?_ rfl))) rfl,(by omega),(Qdo hbt (by unfold Qpe;rw [QQ4 c11,Bool.false_or];have hq:=c11r;simpa using hq)),rfl,Y.take 1⟩
  omega
 replace c6:=QQ2 c6
 refine QaI (Qae (Qab (Qaa (QfJ rfl Y dv uv fun mr12 w13 Y=>(Qaa (Qam (.map (some mr12)) (Qad (Qae (Qae (Qab (Qaa (Qac Qdx rfl (Qaa (QaN (.slice a1 s.ents.length c1) QgK Y 0 (Qaa (Qa5 (n:=s.ents.length) QbK (Rd.own' hr1 Y) (by simp) rfl (Qaa (Qaf (I6 0) (Qad (Qal ?_))))))))))))))))))))
 have hbt2:=fun j (hj:j<s.ticks.length)=>hbt j (by omega)
 have hT:QdQ s.ticks:=by have:=QrC (Nat.le_refl _) hbt2;rwa [List.take_length] at this
 refine QaE (fun J μ J' w'=>∃ (Jo:Env) (k2:Nat) (sm:List (Dot × Unit)),J'=upd (mix ([2]++sq 6 6++sq 48 59) Jo J) 48 (I6 (k2:Int))/\(k2<=s.ents.length)/\(∀ j:Nat,j<k2->Qk1 s j=false)/\(sm=Qjc (s.ents.take k2))/\μ=s.ents.length-k2/\Own w no w' [blk b1 ((vc s.known)++[(.slice a1 s.ents.length c1:Value),(.slice a2 s.ticks.length c2:Value) ]) 38,QfC mr12 dv uv sm]) ?_ ?_
 ·exact ⟨_,_,0,[],Qai (Qao (ds:=([2]++sq 6 6++sq 48 59)) (Agr.refl _ _)) rfl,(by omega),(fun j hj=>absurd hj (Nat.not_lt_zero j)),rfl,rfl,Y⟩
 rintro μ J' w14 ⟨Jo,k2,sm,rfl,hk2,hbe,hsm,rfl,Y⟩
 refine Qae (Qab (Qaa (Qa0 rfl rfl (Qad (Qae (Qak (t:=decide ((k2:Int)<((s.ents.length:Nat):Int))) rfl (fun c15=>?_) (fun c15=>?_)))))))
 ·
  replace c15:=QQ1 c15
  refine Qap (Qae (Qal (Qae (Qab (Qaa (Qaf (I6 (k2:Int)) (Qaa (Qax QbK QaF.1 (Rd.own' hr1 Y) rfl rfl (by omega) (by rw [QQ6];omega) (Qaa (Qa9 (j:=0) (vs:=cec (gd s.ents k2)) k2 QaF (Rd.own' hr1 Y) (Qa4 (by omega)) rfl rfl rfl (by omega) (Qaa (QaJ (cs:=cec (⟨0,0,0,0,(⟨0,0⟩:Dot),0⟩:Cen)) Qgb rfl Y fun b16 w17 Y=>(Qaa (Qam (I6 (k2:Int)) (Qaa (Qcz (V:=.agg (cec (gd s.ents k2)).toArray) (vs:=cec (gd s.ents k2)) (cs':=cec (gd s.ents k2)) QaF.1 Y 2 rfl rfl rfl rfl rfl (QQ8 rfl) (Qby _) (Qaz rfl) fun w18 Y=>?_))))))))))))))))
  replace Y:=Ow [blk b1 ((vc s.known)++[(.slice a1 s.ents.length c1:Value),(.slice a2 s.ticks.length c2:Value) ]) 38,QfC mr12 dv uv sm,blk b16 (cec (gd s.ents k2)) 106] Y
  refine Qad (Qae ?_)
  have hce:=hE0 _ (Qbo (l:=s.ents) (i:=k2) (by omega))
  have ⟨_,_,_,_,hdk,_⟩:=hce
  refine Qab (Qaa (QaK (cs:=(vc s.known)++[(.slice a1 s.ents.length c1:Value),(.slice a2 s.ticks.length c2:Value) ]) Qb4 Y 0 rfl rfl rfl (Qaa (Qac QdE rfl (Qaa (QaN (I7 ((gd s.ents k2).cart)) Qar Y 2 (Qaa (Qas (vs:=[.agg ((vc s.known)++[(.slice a1 s.ents.length c1:Value),(.slice a2 s.ticks.length c2:Value) ]).toArray,I7 ((gd s.ents k2).cart)]) (V:=.tuple #[I6 ((QbR s.ticks ((gd s.ents k2).cart):Nat):Int),.bool ((QaL s.ticks ((gd s.ents k2).cart)).isSome)]) Qtb rfl rfl ?hc Y fun w19 Y=>?_))))))))
  case hc=>exact (Qh4 _ s.known (.slice a1 s.ents.length c1) a2 c2 s.ticks ((gd s.ents k2).cart) (by omega) hT (Rd.own' hr2 Y))
  refine Qaa (Qaf (.tuple #[I6 ((QbR s.ticks ((gd s.ents k2).cart):Nat):Int),.bool ((QaL s.ticks ((gd s.ents k2).cart)).isSome)]) (Qaa (QaC (V:=I6 ((QbR s.ticks ((gd s.ents k2).cart):Nat):Int)) rfl rfl (Qaa (QaC (V:=.bool ((QaL s.ticks ((gd s.ents k2).cart)).isSome)) rfl rfl (Qaa (Qam (I6 ((QbR s.ticks ((gd s.ents k2).cart):Nat):Int)) (Qaa (Qam (.bool ((QaL s.ticks ((gd s.ents k2).cart)).isSome)) (Qad (Qae (Qab (Qaa (Qaf (.map (some mr12)) (Qaa (Qac QbX rfl (Qaa (QbT (vs:=dc ((gd s.ents k2).dot)) QcV Y 2 rfl rfl rfl rfl (Qaa (QgU (k:=(gd s.ents k2).dot) QkR Qqf Qky (Y.mapf 1 rfl) rfl rfl (Qaa (Qaf (.tuple #[.agg #[],.bool ((mget ((gd s.ents k2).dot) sm).isSome)]) (Qaa (QaC (V:=.agg #[]) rfl rfl (Qaa (QaC (V:=.bool ((mget ((gd s.ents k2).dot) sm).isSome)) rfl rfl (Qaa (QaJ (cs:=[]) Qky rfl Y fun b20 w21 Y=>(Qaa (Qcz (V:=.agg #[]) (vs:=[]) (cs':=[]) Qrq.1 Y 3 rfl rfl rfl rfl rfl (QQ8 rfl) Qa2 (Qaz rfl) fun w22 Y=>(Qaa (Qam (.bool ((mget ((gd s.ents k2).dot) sm).isSome)) (Qad (Qae (Qal (Qae (Qae (Qab (Qaa (Qaf (.bool ((QaL s.ticks ((gd s.ents k2).cart)).isSome)) (Qaa (QbB rfl (Qaa (Qam (.bool (!((QaL s.ticks ((gd s.ents k2).cart)).isSome))) (Qad (Qak (t:=!((QaL s.ticks ((gd s.ents k2).cart)).isSome)) rfl (fun c23=>?_) (fun c23=>?_)))))))))))))))))))))))))))))))))))))))))))))))
  ·
   replace c23:=QbE c23
   refine Qap (QcO (congrArg Value.bool (by rw [c23];rfl)) ?_)
   refine Qae (Qab (Qaa (Qam (.bool false) (Qad (Qav ?_)))))
   refine ⟨_,Qan (V:=.bool false) results73 rfl,(Zr Y (congrArg Value.bool (Qdp (i:=k2) (by omega) ?_).symm))⟩
   unfold Qk1 Qlr;rw [c23];simp
  replace c23:=Qbd c23
  refine Qae (Qab (Qaa (Qaf (.bool ((mget ((gd s.ents k2).dot) sm).isSome)) (Qaa (Qam (.bool ((mget ((gd s.ents k2).dot) sm).isSome)) (Qad (Qak (t:=(mget ((gd s.ents k2).dot) sm).isSome) rfl (fun c24=>?_) (fun c24=>?_))))))))
  ·
   refine Qap (QcO (congrArg Value.bool c24) ?_)
   refine Qae (Qab (Qaa (Qam (.bool false) (Qad (Qav ?_)))))
   refine ⟨_,Qan (V:=.bool false) results73 rfl,(Zr Y (congrArg Value.bool (Qdp (i:=k2) (by omega) ?_).symm))⟩
   unfold Qk1;rw [← QiR,← hsm,c24];simp
  refine Qae (Qab (Qaa (QaK (cs:=cec (gd s.ents k2)) QaF Y 2 rfl rfl rfl (Qaa (Qas (vs:=[.agg (cec (gd s.ents k2)).toArray]) (V:=.bool (Qdg (gd s.ents k2))) QwB rfl rfl ?hc Y fun w25 Y=>?_)))))
  case hc=>exact (Ql2 _ (gd s.ents k2) (by assumption))
  refine Qaa (QbB rfl (Qaa (Qam (.bool (!(Qdg (gd s.ents k2)))) (Qad (Qak (t:=!(Qdg (gd s.ents k2))) rfl (fun c26=>?_) (fun c26=>?_))))))
  ·
   replace c26:=QbE c26
   refine Qap (QcO (congrArg Value.bool (by rw [c26];rfl)) ?_)
   refine Qae (Qab (Qaa (Qam (.bool false) (Qad (Qav ?_)))))
   refine ⟨_,Qan (V:=.bool false) results73 rfl,(Zr Y (congrArg Value.bool (Qdp (i:=k2) (by omega) ?_).symm))⟩
   unfold Qk1 Qlr;rw [c26];simp
  replace c26:=Qbd c26
  refine Qae (Qab (Qaa (Qac Qeo rfl (Qaa (QbT (vs:=vc s.known) QbC Y 0 rfl rfl rfl rfl (Qaa (Qac QbX rfl (Qaa (QbT (vs:=dc ((gd s.ents k2).dot)) QcV Y 2 rfl rfl rfl rfl (Qaa (Qas (vs:=[.agg (vc s.known).toArray,.agg (dc ((gd s.ents k2).dot)).toArray]) (V:=.bool (QbD s.known ((gd s.ents k2).dot))) QoV rfl rfl ?hc Y fun w27 Y=>?_)))))))))))
  case hc=>exact (Qgw _ s.known ((gd s.ents k2).dot) (by first|assumption|exact QcN (by omega) (by omega) (by omega) (by omega)))
  refine Qaa (QbB rfl (Qaa (Qam (.bool (!(QbD s.known ((gd s.ents k2).dot)))) (Qad (Qak (t:=!(QbD s.known ((gd s.ents k2).dot))) rfl (fun c28=>?_) (fun c28=>?_))))))
  ·
   replace c28:=QbE c28
   refine Qap (QcO (congrArg Value.bool (by rw [c28];rfl)) ?_)
   refine Qae (Qab (Qaa (Qam (.bool false) (Qad (Qav ?_)))))
   refine ⟨_,Qan (V:=.bool false) results73 rfl,(Zr Y (congrArg Value.bool (Qdp (i:=k2) (by omega) ?_).symm))⟩
   unfold Qk1 Qlr;rw [c28];simp
  replace c28:=Qbd c28
  refine Qbv (so 80 8++[some 67]) [] [0,1,3,7,15,31,63,127,255] [pv (Pq b16 (0+6)),pv (.int .u64 ((gd s.ents k2).count)),pv (.bool (decide ((gd s.ents k2).count<1))),pv (.bool (decide ((gd s.ents k2).count<1))),pg ((decide ((gd s.ents k2).count<1)) == false) (Pq b16 (0+6)),pg ((decide ((gd s.ents k2).count<1)) == false) (.int .u64 ((gd s.ents k2).count)),pg ((decide ((gd s.ents k2).count<1)) == false) (.bool (decide (16777217<(gd s.ents k2).count))),pv (.bool ((decide ((gd s.ents k2).count<1))||(decide (16777217<(gd s.ents k2).count)))),pv (.bool ((decide ((gd s.ents k2).count<1))||(decide (16777217<(gd s.ents k2).count))))] (fun _ _=>_) [8] (by kernel_rfl) Y ⟨?_,?_,?_,?_,?_,?_,?_,?_,?_,trivial⟩ ?_
  ·exact oi [] fun Y=>Qac Qgo rfl (Zz Y)
  ·exact oi [0] fun Y=>QaN (.int .u64 ((gd s.ents k2).count)) Qkm Y 2 (Zz Y)
  ·exact oi [1] fun Y=>Qa0 rfl rfl (Zz Y)
  ·exact oi [2] fun Y=>Qaf (.bool (decide ((gd s.ents k2).count<1))) (Zz Y)
  ·exact ogi [3] fun hG Y=>Qac Qgo rfl (Zz Y)
  ·exact oyi [3,4] [4] fun hG Y=>QaN (.int .u64 ((gd s.ents k2).count)) Qkm Y 2 (Zz Y)
  ·exact oyi [3,5] [5] fun hG Y=>Qca rfl rfl (Zz Y)
  ·exact oi [3,6] fun Y=>QbP (h':=decide (16777217<(gd s.ents k2).count)) rfl rfl rfl (Zz Y)
  ·exact oi [7] fun Y=>Qam (.bool ((decide ((gd s.ents k2).count<1))||(decide (16777217<(gd s.ents k2).count)))) (Zz Y)
  rintro J1 w29 J2 hJ Y
  replace hJ:J2=upd (mix (sq 80 8++[67]) J1 _) 67 (.bool ((decide ((gd s.ents k2).count<1))||(decide (16777217<(gd s.ents k2).count)))):=hJ
  subst hJ
  refine Qak (t:=(decide ((gd s.ents k2).count<1))||(decide (16777217<(gd s.ents k2).count))) rfl (fun c30=>?_) (fun c30=>?_)
  ·
   refine Qae (Qab (Qaa (Qam (.bool false) (Qad (Qav ?_)))))
   refine ⟨_,Qan (V:=.bool false) results73 rfl,(Zr Y (congrArg Value.bool (Qdp (i:=k2) (by omega) ?_).symm))⟩
   have hq:=c30
   unfold Qk1 Qlr
   rcases Int.lt_or_le (gd s.ents k2).count 1 with q|q
   ·rw [QQ4 (p:=1<=_) (by omega)];simp
   rw [QQ4 (p:=_<=16777217) (by simp at hq;omega)];simp
  have c30r:=Qfa c30
  replace c30:=Qe8 c30
  replace c30:=QQ2 c30
  replace c30r:=QQ2 c30r
  refine Qae (QaH HM (so 89 13++[some 88]) [] [0,1,3,7,15,7,39,127,255,7,1023,2047,4095,8191] [pv (I6 (k2:Int)),pv (.bool (decide (0<(k2:Int)))),pv (.bool (decide (0<(k2:Int)))),pg ((decide (0<(k2:Int))) == true) (Pq b1 (0+16)),pg ((decide (0<(k2:Int))) == true) (.slice a1 s.ents.length c1),pg ((decide (0<(k2:Int))) == true) (I6 (k2:Int)),pg ((decide (0<(k2:Int))) == true) (I6 ((k2-1:Nat):Int)),pg ((decide (0<(k2:Int))) == true) (.pointer (some ⟨bkS (.slice a1 s.ents.length c1),ofS (.slice a1 s.ents.length c1)+((k2-1:Nat):Int).toNat*7,none⟩)),pg ((decide (0<(k2:Int))) == true) (.agg (cec (gd s.ents (k2-1))).toArray),pg ((decide (0<(k2:Int))) == true) (.agg (cec (gd s.ents k2)).toArray),pg ((decide (0<(k2:Int))) == true) (I6 (Qb1 (gd s.ents (k2-1)) (gd s.ents k2))),pg ((decide (0<(k2:Int))) == true) (.bool (decide (0<=Qb1 (gd s.ents (k2-1)) (gd s.ents k2)))),pv (.bool ((decide (0<(k2:Int)))&&(decide (0<=Qb1 (gd s.ents (k2-1)) (gd s.ents k2))))),pv (.bool ((decide (0<(k2:Int)))&&(decide (0<=Qb1 (gd s.ents (k2-1)) (gd s.ents k2)))))] (fun _ _=>_) [13] (by kernel_rfl) Y ⟨?_,?_,?_,?_,?_,?_,?_,?_,?_,?_,?_,?_,?_,?_,trivial⟩ ?_)
  ·exact oi [] fun Y=>Qaf (.int .i64 (k2:Int)) (Zz Y)
  ·exact oi [0] fun Y=>Qca rfl rfl (Zz Y)
  ·exact oi [1] fun Y=>Qaf (.bool (decide (0<(k2:Int)))) (Zz Y)
  ·exact ogi [2] fun hG Y=>Qac Qdx rfl (Zz Y)
  ·exact oyi [2,3] [3] fun hG Y=>QaN (.slice a1 s.ents.length c1) QgK Y 0 (Zz Y)
  ·exact ogi [2] fun hG Y=>Qaf (.int .i64 (k2:Int)) (Zz Y)
  ·refine oyi [2,5] [5] fun hG Y=>?_
   have hgd:=QQ1 (eq_of_beq (hG))
   exact Qbb (a:=(k2:Int)) (b:=1) (c:=((k2-1:Nat):Int)) rfl rfl (Qaj (by omega) (by omega)) (Zz Y)
  ·refine oyi [2,4,6] [4,6] fun hG Y=>?_
   have hgd:=QQ1 (eq_of_beq (hG))
   exact Qax QbK QaF.1 (Rd.own' hr1 Y) rfl rfl (by omega) (by rw [QQ6];omega) (Zz Y)
  ·refine oyi [2,7] [7] fun hG Y=>?_
   have hgd:=QQ1 (eq_of_beq (hG))
   exact Qa9 (j:=0) (vs:=cec (gd s.ents (k2-1))) (k2-1) QaF (Rd.own' hr1 Y) (Qa4 (by omega)) rfl rfl rfl (by omega) (Zz Y)
  ·exact ogi [2] fun hG Y=>QaK (cs:=cec (gd s.ents k2)) QaF Y 2 rfl rfl rfl (Zz Y)
  ·exact oyi [2,8,9] [8,9] fun hG Y=>Qas (vs:=[.agg (cec (gd s.ents (k2-1))).toArray,.agg (cec (gd s.ents k2)).toArray]) (V:=.int .i64 (Qb1 (gd s.ents (k2-1)) (gd s.ents k2))) Qr1 rfl rfl (Qll _ (gd s.ents (k2-1)) (gd s.ents k2)) Y fun _ Y=>Zz Y
  ·exact oyi [2,10] [10] fun hG Y=>QcZ rfl rfl (Zz Y)
  ·exact oi [2,11] fun Y=>Qbg (h':=decide (0<=Qb1 (gd s.ents (k2-1)) (gd s.ents k2))) rfl rfl rfl (Zz Y)
  ·exact oi [12] fun Y=>Qam (.bool ((decide (0<(k2:Int)))&&(decide (0<=Qb1 (gd s.ents (k2-1)) (gd s.ents k2))))) (Zz Y)
  rintro J1 w32 J2 hJ Y
  replace hJ:J2=upd (mix (sq 89 13++[88]) J1 _) 88 (.bool ((decide (0<(k2:Int)))&&(decide (0<=Qb1 (gd s.ents (k2-1)) (gd s.ents k2))))):=hJ
  subst hJ
  refine Qak (t:=(decide (0<(k2:Int)))&&(decide (0<=Qb1 (gd s.ents (k2-1)) (gd s.ents k2)))) rfl (fun c33=>?_) (fun c33=>?_)
  ·
   have c33r:=Qcl c33
   replace c33:=QbZ c33
   replace c33:=QQ1 c33
   replace c33r:=QQ1 c33r
   refine Qae (Qab (Qaa (Qam (.bool false) (Qad (Qav ?_)))))
   refine ⟨_,Qan (V:=.bool false) results73 rfl,(Zr Y (congrArg Value.bool (Qdp (i:=k2) (by omega) ?_).symm))⟩
   have hq:=QQ3 c33r
   rw [QkL] at hq
   unfold Qk1
   rw [hq,QQ3 (by omega:0<k2)]
   simp
  refine Qap (Qab (Qaa (Qaf (.map (some mr12)) (Qaa (Qac QbX rfl (Qaa (QbT (vs:=dc ((gd s.ents k2).dot)) QcV Y 2 rfl rfl rfl rfl (Qaa (QbI (vs:=[]) (cs:=[]) QrI (rfl) rfl (Qaa (QfA (k:=(gd s.ents k2).dot) (v:=()) QkR Qqf Y 1 rfl rfl rfl rfl fun w34 Y=>(Qad (Qab (Qaa (QaB (a:=(k2:Int)) (b:=1) (c:=((k2+1:Nat):Int)) rfl rfl (Qaj (by omega) (by omega)) (Qaa (Qaf (I6 ((k2+1:Nat):Int)) (Qad ?_))))))))))))))))))
  have hbk:Qk1 s k2=false:=by
   unfold Qk1 Qlr
   rw [c23,c26,c28,QQ3 (p:=1<=_) (by omega),QQ3 (p:=_<=16777217) (by omega),← QiR,← hsm,c24]
   have hq:=c33
   rw [QkL] at hq
   simpa using hq
  refine ⟨_,?_,_,k2+1,mput ((gd s.ents k2).dot) () sm,Qai (Qao (ds:=([2]++sq 6 6++sq 48 59)) (by repeat (first|exact Agr.refl _ _|refine Agr.upd ?_ rfl|refine Agr.mix ?_ rfl))) rfl,(by omega),(Qdo hbe hbk),(by rw [QlT (by omega),← hsm]),rfl,Y.take 2⟩
  omega
 replace c15:=QQ2 c15
 refine QaI (Qae (Qab (Qaa (Qam (.bool true) (Qad (Qav ?_))))))
 refine ⟨_,Qan (V:=.bool true) results73 rfl,(Zr Y ?_)⟩
 exact congrArg Value.bool (Qc2.2 (Qjy c4 hbt2 fun j hj=>hbe j (by omega))).symm
end Tt
end Go.Proofs
