/- A part of a proof: what functions of the program compute, and plain facts on that. -/
import Derived.Test.YthbbcjimiemdgaaGreatCartFoldP3
set_option linter.unusedVariables false
set_option linter.unusedSimpArgs false
set_option maxHeartbeats 4000000
set_option maxRecDepth 100000
namespace Go.Proofs
open Go Go.Vx Go.RowKit
namespace Tt
theorem QoC (w:World) (o:Opn):Calls Tryz.prog 73 #[.agg (oc o).toArray] w (fun e w'=>e = .returned (.bool (QaF o))∧Own w no w' []):=by
 refine Qai (n:=16) Tryz.func73 rfl Tryz.ntmps73 rfl ?_
 have hs:=Own.start w
 refine Qag (Qab (Qaa (Qa9 (V:=.agg (oc o).toArray) (cs:=oc o) rfl rfl hs fun b1 w2 hs=>(Qaa (Qad (V:=.bool false) rfl (Qae (Qag (Qbi [some 3,some 4,some 5,some 6,some 7,some 8,some 9,some 10,some 11,some 12,some 13,some 14,some 15,some 2] [] [0,1,3,7,15,31,63,127,255,511,1023,2047,4095,8191] [pv (Pt b1 (0+2)),pv (.int .u8 o.kind),pv (.bool (decide (o.kind=1))),pv (.bool (decide (o.kind=1))),pg ((decide (o.kind=1)) == false) (Pt b1 (0+2)),pg ((decide (o.kind=1)) == false) (.int .u8 o.kind),pg ((decide (o.kind=1)) == false) (.bool (decide (o.kind=2))),pv (.bool ((decide (o.kind=1))||(decide (o.kind=2)))),pv (.bool ((decide (o.kind=1))||(decide (o.kind=2)))),pg (((decide (o.kind=1))||(decide (o.kind=2))) == false) (Pt b1 (0+2)),pg (((decide (o.kind=1))||(decide (o.kind=2))) == false) (.int .u8 o.kind),pg (((decide (o.kind=1))||(decide (o.kind=2))) == false) (.bool (decide (o.kind=4))),pv (.bool (((decide (o.kind=1))||(decide (o.kind=2)))||(decide (o.kind=4)))),pv (.bool (((decide (o.kind=1))||(decide (o.kind=2)))||(decide (o.kind=4))))] (fun _ _=>_) [13] (by kernel_rfl) hs ⟨?_,?_,?_,?_,?_,?_,?_,?_,?_,?_,?_,?_,?_,?_,trivial⟩ ?_))))))))
 ·exact ob [] [] rfl rfl fun D ρ w hs=>Qaf Qbt rfl ⟨rfl,hs⟩
 ·exact ob [0] [] rfl rfl fun D ρ w hs=>QaK (V:=.int .u8 o.kind) QcF hs 0 rfl rfl rfl ⟨rfl,hs⟩
 ·exact ob [1] [] rfl rfl fun D ρ w hs=>QaM rfl rfl ⟨rfl,hs⟩
 ·exact ob [2] [] rfl rfl fun D ρ w hs=>Qac (V:=.bool (decide (o.kind=1))) rfl ⟨rfl,hs⟩
 ·exact obg [3] [] (decide (o.kind=1)) rfl (fun _=>rfl) rfl (fun _ _ _ _ h=>h) fun D ρ w hG hs=>Qaf Qbt rfl ⟨rfl,hs⟩
 ·exact obgy [3,4] [] [4] (decide (o.kind=1)) rfl (fun _=>rfl) rfl (fun _ _ _ _ h=>h) (fun hG=>⟨hG,trivial⟩) fun D ρ w hG hs=>QaK (V:=.int .u8 o.kind) QcF hs 0 rfl rfl rfl ⟨rfl,hs⟩
 ·exact obgy [3,5] [] [5] (decide (o.kind=1)) rfl (fun _=>rfl) rfl (fun _ _ _ _ h=>h) (fun hG=>⟨hG,trivial⟩) fun D ρ w hG hs=>QaM rfl rfl ⟨rfl,hs⟩
 ·exact ob [3,6] [] rfl rfl fun D ρ w hs=>QbS (h':=decide (o.kind=2)) rfl rfl rfl ⟨rfl,hs⟩
 ·exact ob [7] [] rfl rfl fun D ρ w hs=>Qac (V:=.bool ((decide (o.kind=1))||(decide (o.kind=2)))) rfl ⟨rfl,hs⟩
 ·exact obg [8] [] ((decide (o.kind=1))||(decide (o.kind=2))) rfl (fun _=>rfl) rfl (fun _ _ _ _ h=>h) fun D ρ w hG hs=>Qaf Qbt rfl ⟨rfl,hs⟩
 ·exact obgy [8,9] [] [9] ((decide (o.kind=1))||(decide (o.kind=2))) rfl (fun _=>rfl) rfl (fun _ _ _ _ h=>h) (fun hG=>⟨hG,trivial⟩) fun D ρ w hG hs=>QaK (V:=.int .u8 o.kind) QcF hs 0 rfl rfl rfl ⟨rfl,hs⟩
 ·exact obgy [8,10] [] [10] ((decide (o.kind=1))||(decide (o.kind=2))) rfl (fun _=>rfl) rfl (fun _ _ _ _ h=>h) (fun hG=>⟨hG,trivial⟩) fun D ρ w hG hs=>QaM rfl rfl ⟨rfl,hs⟩
 ·exact ob [8,11] [] rfl rfl fun D ρ w hs=>QbS (h':=decide (o.kind=4)) rfl rfl rfl ⟨rfl,hs⟩
 ·exact ob [12] [] rfl rfl fun D ρ w hs=>Qad (V:=.bool (((decide (o.kind=1))||(decide (o.kind=2)))||(decide (o.kind=4)))) rfl ⟨rfl,hs⟩
 rintro ρ1 w3 ρ2 hρ hs
 replace hρ:ρ2=upd (mix [3,4,5,6,7,8,9,10,11,12,13,14,15,2] ρ1 _) 2 (.bool (((decide (o.kind=1))||(decide (o.kind=2)))||(decide (o.kind=4)))):=hρ
 subst hρ
 refine Qas ?_
 refine ⟨_,Qao (V:=.bool (((decide (o.kind=1))||(decide (o.kind=2)))||(decide (o.kind=4)))) Tryz.results73 rfl,?_⟩
 refine ⟨congrArg Ending.returned ?_,hs.take 0⟩
 rfl
theorem Qjo (w:World) (o:Opn):Calls Tryz.prog 41 #[.agg (oc o).toArray] w (fun e w'=>e = .returned (.bool (QaF o))∧Own w no w' []):=by
 refine Qai (n:=16) Tryz.func41 rfl Tryz.ntmps41 rfl ?_
 have hs:=Own.start w
 refine Qag (Qab (Qaa (Qa9 (V:=.agg (oc o).toArray) (cs:=oc o) rfl rfl hs fun b1 w2 hs=>(Qaa (Qad (V:=.bool false) rfl (Qae (Qag (Qbi [some 3,some 4,some 5,some 6,some 7,some 8,some 9,some 10,some 11,some 12,some 13,some 14,some 15,some 2] [] [0,1,3,7,15,31,63,127,255,511,1023,2047,4095,8191] [pv (Pt b1 (0+2)),pv (.int .u8 o.kind),pv (.bool (decide (o.kind=1))),pv (.bool (decide (o.kind=1))),pg ((decide (o.kind=1)) == false) (Pt b1 (0+2)),pg ((decide (o.kind=1)) == false) (.int .u8 o.kind),pg ((decide (o.kind=1)) == false) (.bool (decide (o.kind=2))),pv (.bool ((decide (o.kind=1))||(decide (o.kind=2)))),pv (.bool ((decide (o.kind=1))||(decide (o.kind=2)))),pg (((decide (o.kind=1))||(decide (o.kind=2))) == false) (Pt b1 (0+2)),pg (((decide (o.kind=1))||(decide (o.kind=2))) == false) (.int .u8 o.kind),pg (((decide (o.kind=1))||(decide (o.kind=2))) == false) (.bool (decide (o.kind=4))),pv (.bool (((decide (o.kind=1))||(decide (o.kind=2)))||(decide (o.kind=4)))),pv (.bool (((decide (o.kind=1))||(decide (o.kind=2)))||(decide (o.kind=4))))] (fun _ _=>_) [13] (by kernel_rfl) hs ⟨?_,?_,?_,?_,?_,?_,?_,?_,?_,?_,?_,?_,?_,?_,trivial⟩ ?_))))))))
 ·exact ob [] [] rfl rfl fun D ρ w hs=>Qaf Qbt rfl ⟨rfl,hs⟩
 ·exact ob [0] [] rfl rfl fun D ρ w hs=>QaK (V:=.int .u8 o.kind) QcF hs 0 rfl rfl rfl ⟨rfl,hs⟩
 ·exact ob [1] [] rfl rfl fun D ρ w hs=>QaM rfl rfl ⟨rfl,hs⟩
 ·exact ob [2] [] rfl rfl fun D ρ w hs=>Qac (V:=.bool (decide (o.kind=1))) rfl ⟨rfl,hs⟩
 ·exact obg [3] [] (decide (o.kind=1)) rfl (fun _=>rfl) rfl (fun _ _ _ _ h=>h) fun D ρ w hG hs=>Qaf Qbt rfl ⟨rfl,hs⟩
 ·exact obgy [3,4] [] [4] (decide (o.kind=1)) rfl (fun _=>rfl) rfl (fun _ _ _ _ h=>h) (fun hG=>⟨hG,trivial⟩) fun D ρ w hG hs=>QaK (V:=.int .u8 o.kind) QcF hs 0 rfl rfl rfl ⟨rfl,hs⟩
 ·exact obgy [3,5] [] [5] (decide (o.kind=1)) rfl (fun _=>rfl) rfl (fun _ _ _ _ h=>h) (fun hG=>⟨hG,trivial⟩) fun D ρ w hG hs=>QaM rfl rfl ⟨rfl,hs⟩
 ·exact ob [3,6] [] rfl rfl fun D ρ w hs=>QbS (h':=decide (o.kind=2)) rfl rfl rfl ⟨rfl,hs⟩
 ·exact ob [7] [] rfl rfl fun D ρ w hs=>Qac (V:=.bool ((decide (o.kind=1))||(decide (o.kind=2)))) rfl ⟨rfl,hs⟩
 ·exact obg [8] [] ((decide (o.kind=1))||(decide (o.kind=2))) rfl (fun _=>rfl) rfl (fun _ _ _ _ h=>h) fun D ρ w hG hs=>Qaf Qbt rfl ⟨rfl,hs⟩
 ·exact obgy [8,9] [] [9] ((decide (o.kind=1))||(decide (o.kind=2))) rfl (fun _=>rfl) rfl (fun _ _ _ _ h=>h) (fun hG=>⟨hG,trivial⟩) fun D ρ w hG hs=>QaK (V:=.int .u8 o.kind) QcF hs 0 rfl rfl rfl ⟨rfl,hs⟩
 ·exact obgy [8,10] [] [10] ((decide (o.kind=1))||(decide (o.kind=2))) rfl (fun _=>rfl) rfl (fun _ _ _ _ h=>h) (fun hG=>⟨hG,trivial⟩) fun D ρ w hG hs=>QaM rfl rfl ⟨rfl,hs⟩
 ·exact ob [8,11] [] rfl rfl fun D ρ w hs=>QbS (h':=decide (o.kind=4)) rfl rfl rfl ⟨rfl,hs⟩
 ·exact ob [12] [] rfl rfl fun D ρ w hs=>Qad (V:=.bool (((decide (o.kind=1))||(decide (o.kind=2)))||(decide (o.kind=4)))) rfl ⟨rfl,hs⟩
 rintro ρ1 w3 ρ2 hρ hs
 replace hρ:ρ2=upd (mix [3,4,5,6,7,8,9,10,11,12,13,14,15,2] ρ1 _) 2 (.bool (((decide (o.kind=1))||(decide (o.kind=2)))||(decide (o.kind=4)))):=hρ
 subst hρ
 refine Qas ?_
 refine ⟨_,Qao (V:=.bool (((decide (o.kind=1))||(decide (o.kind=2)))||(decide (o.kind=4)))) Tryz.results41 rfl,?_⟩
 refine ⟨congrArg Ending.returned ?_,hs.take 0⟩
 rfl
theorem QoH (w:World) (o:Opn):Calls Tryz.prog 93 #[.agg (oc o).toArray] w (fun e w'=>e = .returned (.bool (QaF o))∧Own w no w' []):=by
 refine Qai (n:=16) Tryz.func93 rfl Tryz.ntmps93 rfl ?_
 have hs:=Own.start w
 refine Qag (Qab (Qaa (Qa9 (V:=.agg (oc o).toArray) (cs:=oc o) rfl rfl hs fun b1 w2 hs=>(Qaa (Qad (V:=.bool false) rfl (Qae (Qag (Qbi [some 3,some 4,some 5,some 6,some 7,some 8,some 9,some 10,some 11,some 12,some 13,some 14,some 15,some 2] [] [0,1,3,7,15,31,63,127,255,511,1023,2047,4095,8191] [pv (Pt b1 (0+2)),pv (.int .u8 o.kind),pv (.bool (decide (o.kind=1))),pv (.bool (decide (o.kind=1))),pg ((decide (o.kind=1)) == false) (Pt b1 (0+2)),pg ((decide (o.kind=1)) == false) (.int .u8 o.kind),pg ((decide (o.kind=1)) == false) (.bool (decide (o.kind=2))),pv (.bool ((decide (o.kind=1))||(decide (o.kind=2)))),pv (.bool ((decide (o.kind=1))||(decide (o.kind=2)))),pg (((decide (o.kind=1))||(decide (o.kind=2))) == false) (Pt b1 (0+2)),pg (((decide (o.kind=1))||(decide (o.kind=2))) == false) (.int .u8 o.kind),pg (((decide (o.kind=1))||(decide (o.kind=2))) == false) (.bool (decide (o.kind=4))),pv (.bool (((decide (o.kind=1))||(decide (o.kind=2)))||(decide (o.kind=4)))),pv (.bool (((decide (o.kind=1))||(decide (o.kind=2)))||(decide (o.kind=4))))] (fun _ _=>_) [13] (by kernel_rfl) hs ⟨?_,?_,?_,?_,?_,?_,?_,?_,?_,?_,?_,?_,?_,?_,trivial⟩ ?_))))))))
 ·exact ob [] [] rfl rfl fun D ρ w hs=>Qaf Qbt rfl ⟨rfl,hs⟩
 ·exact ob [0] [] rfl rfl fun D ρ w hs=>QaK (V:=.int .u8 o.kind) QcF hs 0 rfl rfl rfl ⟨rfl,hs⟩
 ·exact ob [1] [] rfl rfl fun D ρ w hs=>QaM rfl rfl ⟨rfl,hs⟩
 ·exact ob [2] [] rfl rfl fun D ρ w hs=>Qac (V:=.bool (decide (o.kind=1))) rfl ⟨rfl,hs⟩
 ·exact obg [3] [] (decide (o.kind=1)) rfl (fun _=>rfl) rfl (fun _ _ _ _ h=>h) fun D ρ w hG hs=>Qaf Qbt rfl ⟨rfl,hs⟩
 ·exact obgy [3,4] [] [4] (decide (o.kind=1)) rfl (fun _=>rfl) rfl (fun _ _ _ _ h=>h) (fun hG=>⟨hG,trivial⟩) fun D ρ w hG hs=>QaK (V:=.int .u8 o.kind) QcF hs 0 rfl rfl rfl ⟨rfl,hs⟩
 ·exact obgy [3,5] [] [5] (decide (o.kind=1)) rfl (fun _=>rfl) rfl (fun _ _ _ _ h=>h) (fun hG=>⟨hG,trivial⟩) fun D ρ w hG hs=>QaM rfl rfl ⟨rfl,hs⟩
 ·exact ob [3,6] [] rfl rfl fun D ρ w hs=>QbS (h':=decide (o.kind=2)) rfl rfl rfl ⟨rfl,hs⟩
 ·exact ob [7] [] rfl rfl fun D ρ w hs=>Qac (V:=.bool ((decide (o.kind=1))||(decide (o.kind=2)))) rfl ⟨rfl,hs⟩
 ·exact obg [8] [] ((decide (o.kind=1))||(decide (o.kind=2))) rfl (fun _=>rfl) rfl (fun _ _ _ _ h=>h) fun D ρ w hG hs=>Qaf Qbt rfl ⟨rfl,hs⟩
 ·exact obgy [8,9] [] [9] ((decide (o.kind=1))||(decide (o.kind=2))) rfl (fun _=>rfl) rfl (fun _ _ _ _ h=>h) (fun hG=>⟨hG,trivial⟩) fun D ρ w hG hs=>QaK (V:=.int .u8 o.kind) QcF hs 0 rfl rfl rfl ⟨rfl,hs⟩
 ·exact obgy [8,10] [] [10] ((decide (o.kind=1))||(decide (o.kind=2))) rfl (fun _=>rfl) rfl (fun _ _ _ _ h=>h) (fun hG=>⟨hG,trivial⟩) fun D ρ w hG hs=>QaM rfl rfl ⟨rfl,hs⟩
 ·exact ob [8,11] [] rfl rfl fun D ρ w hs=>QbS (h':=decide (o.kind=4)) rfl rfl rfl ⟨rfl,hs⟩
 ·exact ob [12] [] rfl rfl fun D ρ w hs=>Qad (V:=.bool (((decide (o.kind=1))||(decide (o.kind=2)))||(decide (o.kind=4)))) rfl ⟨rfl,hs⟩
 rintro ρ1 w3 ρ2 hρ hs
 replace hρ:ρ2=upd (mix [3,4,5,6,7,8,9,10,11,12,13,14,15,2] ρ1 _) 2 (.bool (((decide (o.kind=1))||(decide (o.kind=2)))||(decide (o.kind=4)))):=hρ
 subst hρ
 refine Qas ?_
 refine ⟨_,Qao (V:=.bool (((decide (o.kind=1))||(decide (o.kind=2)))||(decide (o.kind=4)))) Tryz.results93 rfl,?_⟩
 refine ⟨congrArg Ending.returned ?_,hs.take 0⟩
 rfl
theorem Qf5 (w:World) (o:Opn) (ho:Qca o.ctx):Calls Tryz.prog 33 #[.agg (oc o).toArray] w (fun e w'=>e = .returned (.int .u64 (Qa6 o))∧Own w no w' []):=by
 refine Qai (n:=7) Tryz.func33 rfl Tryz.ntmps33 rfl ?_
 have hs:=Own.start w
 refine Qag (Qab (Qaa (Qa9 (V:=.agg (oc o).toArray) (cs:=oc o) rfl rfl hs fun b1 w2 hs=>(Qaa (Qad (V:=.int .u64 0) rfl (Qae (Qag ?_)))))))
 have hb:=Qit ho
 refine Qab (Qaa (Qaf Qcn rfl (Qaa (QbO (vs:=vc o.ctx) QbT hs 0 rfl rfl rfl rfl (Qaa (Qar (vs:=[.agg (vc o.ctx).toArray]) (V:=.int .u64 (vsum o.ctx)) Quh rfl rfl ?hc hs fun w3 hs=>?_))))))
 case hc=>exact (QqJ _ o.ctx (by first|assumption|exact QcG))
 refine Qaa (Qav (a:=vsum o.ctx) (b:=1) (c:=(vsum o.ctx)+1) rfl rfl (QcX (by omega) (by omega)) (Qaa (Qad (V:=.int .u64 ((vsum o.ctx)+1)) rfl (Qae (Qas ?_)))))
 refine ⟨_,Qao (V:=.int .u64 ((vsum o.ctx)+1)) Tryz.results33 rfl,?_⟩
 refine ⟨congrArg Ending.returned ?_,hs.take 0⟩
 rfl
theorem Qfe (w:World) (o:Opn) (ho:Qca o.ctx):Calls Tryz.prog 18 #[.agg (oc o).toArray] w (fun e w'=>e = .returned (.int .u64 (Qa6 o))∧Own w no w' []):=by
 refine Qai (n:=7) Tryz.func18 rfl Tryz.ntmps18 rfl ?_
 have hs:=Own.start w
 refine Qag (Qab (Qaa (Qa9 (V:=.agg (oc o).toArray) (cs:=oc o) rfl rfl hs fun b1 w2 hs=>(Qaa (Qad (V:=.int .u64 0) rfl (Qae (Qag ?_)))))))
 have hb:=Qit ho
 refine Qab (Qaa (Qaf Qcn rfl (Qaa (QbO (vs:=vc o.ctx) QbT hs 0 rfl rfl rfl rfl (Qaa (Qar (vs:=[.agg (vc o.ctx).toArray]) (V:=.int .u64 (vsum o.ctx)) QrA rfl rfl ?hc hs fun w3 hs=>?_))))))
 case hc=>exact (QlQ _ o.ctx (by first|assumption|exact QcG))
 refine Qaa (Qav (a:=vsum o.ctx) (b:=1) (c:=(vsum o.ctx)+1) rfl rfl (QcX (by omega) (by omega)) (Qaa (Qad (V:=.int .u64 ((vsum o.ctx)+1)) rfl (Qae (Qas ?_)))))
 refine ⟨_,Qao (V:=.int .u64 ((vsum o.ctx)+1)) Tryz.results18 rfl,?_⟩
 refine ⟨congrArg Ending.returned ?_,hs.take 0⟩
 rfl
theorem QnX (w:World) (a b:Opn) (ha:Qca a.ctx) (hb:Qca b.ctx):Calls Tryz.prog 96 #[.agg (oc a).toArray,.agg (oc b).toArray] w (fun e w'=>e = .returned (.bool (QcM a b))∧Own w no w' []):=by
 refine Qai (n:=27) Tryz.func96 rfl Tryz.ntmps96 rfl ?_
 have hs:=Own.start w
 refine Qag (Qab (Qaa (Qa9 (V:=.agg (oc a).toArray) (cs:=oc a) rfl rfl hs fun b1 w2 hs=>(Qaa (Qa9 (V:=.agg (oc b).toArray) (cs:=oc b) rfl rfl hs fun b3 w4 hs=>(Qaa (Qad (V:=.bool false) rfl (Qae (Qag ?_)))))))))
 replace hs:=hs.more emp trivial
 refine QaC HM [some 5,some 6,some 7,some 8,some 9,some 10,some 11,some 12,some 13,some 14,some 15,some 16,some 17,some 18,some 19,some 20,some 21,some 22,some 23,some 24,some 25,some 26,some 4] [[],[],[],[],[],[],[],[],[],[],[],[],[],[],[],[],[],[],[],[24]] [0,1,0,7,15,0,32,96,0,256,768,2047,0,4096,12288,0,32768,98304,262143,524287,1048575,2097151,4194303] [pv (.agg (oc a).toArray),pv (.int .u64 (Qa6 a)),pv (.agg (oc b).toArray),pv (.int .u64 (Qa6 b)),pv (I6 (QaW (Qa6 a) (Qa6 b))),pv (Pt b1 (0+0)),pv (Pt b1 (0+0+0)),pv (.int .u8 a.dot.rep),pv (Pt b3 (0+0)),pv (Pt b3 (0+0+0)),pv (.int .u8 b.dot.rep),pv (I6 (QaW a.dot.rep b.dot.rep)),pv (Pt b1 (0+0)),pv (Pt b1 (0+0+1)),pv (.int .u32 a.dot.seq),pv (Pt b3 (0+0)),pv (Pt b3 (0+0+1)),pv (.int .u32 b.dot.seq),pv (I6 (QaW a.dot.seq b.dot.seq)),(true,fun ρ=>.slice (some ⟨(bOf (ρ 24)),0,none⟩) 3 3),pv (I6 (orI [QaW (Qa6 a) (Qa6 b),QaW a.dot.rep b.dot.rep,QaW a.dot.seq b.dot.seq])),pv (.bool (decide (orI [QaW (Qa6 a) (Qa6 b),QaW a.dot.rep b.dot.rep,QaW a.dot.seq b.dot.seq]<0))),pv (.bool (decide (orI [QaW (Qa6 a) (Qa6 b),QaW a.dot.rep b.dot.rep,QaW a.dot.seq b.dot.seq]<0)))] (fun D ρ=>[blk b1 (oc a) 33,blk b3 (oc b) 33,cond (D 19) (row (.slice (some ⟨(bOf (ρ 24)),0,none⟩) 3 3) ([QaW (Qa6 a) (Qa6 b),QaW a.dot.rep b.dot.rep,QaW a.dot.seq b.dot.seq].map (ic .i64)) 3 1) (emp)]) [22] (by kernel_rfl) hs ⟨?_,?_,?_,?_,?_,?_,?_,?_,?_,?_,?_,?_,?_,?_,?_,?_,?_,?_,?_,?_,?_,?_,?_,trivial⟩ ?_
 ·exact ob [] [] rfl rfl fun D ρ w hs=>QaR (cs:=oc a) Qa0 hs 0 rfl rfl rfl ⟨rfl,hs⟩
 ·exact ob [0] [] rfl rfl fun D ρ w hs=>Qar (vs:=[.agg (oc a).toArray]) (V:=.int .u64 (Qa6 a)) QpL rfl rfl (Qf5 _ a (by assumption)) hs fun _ hs=>⟨rfl,hs⟩
 ·exact ob [] [] rfl rfl fun D ρ w hs=>QaR (cs:=oc b) Qa0 hs 1 rfl rfl rfl ⟨rfl,hs⟩
 ·exact ob [2] [] rfl rfl fun D ρ w hs=>Qar (vs:=[.agg (oc b).toArray]) (V:=.int .u64 (Qa6 b)) QpL rfl rfl (Qf5 _ b (by assumption)) hs fun _ hs=>⟨rfl,hs⟩
 ·exact ob [1,3] [] rfl rfl fun D ρ w hs=>Qar (vs:=[.int .u64 (Qa6 a),.int .u64 (Qa6 b)]) (V:=I6 (QaW (Qa6 a) (Qa6 b))) Qo5 rfl rfl (QeP _ (Qa6 a) (Qa6 b)) hs fun _ hs=>⟨rfl,hs⟩
 ·exact ob [] [] rfl rfl fun D ρ w hs=>Qaf Qbg rfl ⟨rfl,hs⟩
 ·exact ob [5] [] rfl rfl fun D ρ w hs=>Qaf QbK rfl ⟨rfl,hs⟩
 ·exact ob [6] [] rfl rfl fun D ρ w hs=>QaK (V:=.int .u8 a.dot.rep) QcF hs 0 rfl rfl rfl ⟨rfl,hs⟩
 ·exact ob [] [] rfl rfl fun D ρ w hs=>Qaf Qbg rfl ⟨rfl,hs⟩
 ·exact ob [8] [] rfl rfl fun D ρ w hs=>Qaf QbK rfl ⟨rfl,hs⟩
 ·exact ob [9] [] rfl rfl fun D ρ w hs=>QaK (V:=.int .u8 b.dot.rep) QcF hs 1 rfl rfl rfl ⟨rfl,hs⟩
 ·exact ob [7,10] [] rfl rfl fun D ρ w hs=>Qar (vs:=[.int .u8 a.dot.rep,.int .u8 b.dot.rep]) (V:=I6 (QaW a.dot.rep b.dot.rep)) Qpr rfl rfl (QdT _ a.dot.rep b.dot.rep) hs fun _ hs=>⟨rfl,hs⟩
 ·exact ob [] [] rfl rfl fun D ρ w hs=>Qaf Qbg rfl ⟨rfl,hs⟩
 ·exact ob [12] [] rfl rfl fun D ρ w hs=>Qaf QbN rfl ⟨rfl,hs⟩
 ·exact ob [13] [] rfl rfl fun D ρ w hs=>QaK (V:=.int .u32 a.dot.seq) Qa7 hs 0 rfl rfl rfl ⟨rfl,hs⟩
 ·exact ob [] [] rfl rfl fun D ρ w hs=>Qaf Qbg rfl ⟨rfl,hs⟩
 ·exact ob [15] [] rfl rfl fun D ρ w hs=>Qaf QbN rfl ⟨rfl,hs⟩
 ·exact ob [16] [] rfl rfl fun D ρ w hs=>QaK (V:=.int .u32 b.dot.seq) Qa7 hs 1 rfl rfl rfl ⟨rfl,hs⟩
 ·exact ob [14,17] [] rfl rfl fun D ρ w hs=>Qar (vs:=[.int .u32 a.dot.seq,.int .u32 b.dot.seq]) (V:=I6 (QaW a.dot.seq b.dot.seq)) Qqe rfl rfl (QdH _ a.dot.seq b.dot.seq) hs fun _ hs=>⟨rfl,hs⟩
 ·exact ob [4,11,18] [] rfl rfl fun D ρ w hs=>QhD (vals:=[I6 (QaW (Qa6 a) (Qa6 b)),I6 (QaW a.dot.rep b.dot.rep),I6 (QaW a.dot.seq b.dot.seq)]) (ls:=List.map (ic .i64) ([QaW (Qa6 a) (Qa6 b),QaW a.dot.rep b.dot.rep,QaW a.dot.seq b.dot.seq]:List Int)) QlA rfl rfl rfl (Qbl (enc:=(ic .i64)) (fun _=>rfl) _) (QaU (QeL .i64) _) (QQ8 rfl) hs fun _ _ hs=>⟨rfl,hs.put 2 (QQ8 rfl)⟩
 ·exact ob [19] [] rfl rfl fun D ρ w hs=>Qar (vs:=[.slice (some ⟨(bOf (ρ 24)),0,none⟩) 3 3]) (V:=I6 (orI [QaW (Qa6 a) (Qa6 b),QaW a.dot.rep b.dot.rep,QaW a.dot.seq b.dot.seq])) QpT rfl rfl (Qqk _ (some ⟨(bOf (ρ 24)),0,none⟩) 3 [QaW (Qa6 a) (Qa6 b),QaW a.dot.rep b.dot.rep,QaW a.dot.seq b.dot.seq] (hs.rd 2 rfl)) hs fun _ hs=>⟨rfl,hs⟩
 ·exact ob [20] [] rfl rfl fun D ρ w hs=>QaP rfl rfl ⟨rfl,hs⟩
 ·exact ob [21] [] rfl rfl fun D ρ w hs=>Qad (V:=.bool (decide (orI [QaW (Qa6 a) (Qa6 b),QaW a.dot.rep b.dot.rep,QaW a.dot.seq b.dot.seq]<0))) rfl ⟨rfl,hs⟩
 rintro ρ1 w12 ρ2 hρ hs
 replace hρ:ρ2=upd (mix [5,6,7,8,9,10,11,12,13,14,15,16,17,18,19,20,21,22,23,24,25,26,4] ρ1 _) 4 (.bool (decide (orI [QaW (Qa6 a) (Qa6 b),QaW a.dot.rep b.dot.rep,QaW a.dot.seq b.dot.seq]<0))):=hρ
 replace hs:Own w no w12 [blk b1 (oc a) 33,blk b3 (oc b) 33,row (.slice (some ⟨(bOf (ρ1 24)),0,none⟩) 3 3) ([QaW (Qa6 a) (Qa6 b),QaW a.dot.rep b.dot.rep,QaW a.dot.seq b.dot.seq].map (ic .i64)) 3 1]:=hs
 generalize (bOf (ρ1 24))=b13 at hs
 subst hρ
 refine Qas ?_
 refine ⟨_,Qao (V:=.bool (decide (orI [QaW (Qa6 a) (Qa6 b),QaW a.dot.rep b.dot.rep,QaW a.dot.seq b.dot.seq]<0))) Tryz.results96 rfl,?_⟩
 refine ⟨congrArg Ending.returned ?_,hs.take 0⟩
 rfl
theorem Qja (w:World) (o e:Opn) (he:Qc8 e.dot):Calls Tryz.prog 31 #[.agg (oc o).toArray,.agg (oc e).toArray] w (fun r w'=>r = .returned (.bool (Qay o e))∧Own w no w' []):=by
 refine Qai (n:=40) Tryz.func31 rfl Tryz.ntmps31 rfl ?_
 have hs:=Own.start w
 refine Qag (Qab (Qaa (Qa9 (V:=.agg (oc o).toArray) (cs:=oc o) rfl rfl hs fun b1 w2 hs=>(Qaa (Qa9 (V:=.agg (oc e).toArray) (cs:=oc e) rfl rfl hs fun b3 w4 hs=>(Qaa (Qad (V:=.bool false) rfl (Qae (Qag (Qag (Qbi [some 5,some 6,some 7,some 8,some 9,some 10,some 11,some 12,some 13,some 14,some 15,some 16,some 17,some 18,some 19,some 20,some 21,some 22] [] [0,1,3,7,15,31,15,79,255,511,1023,2047,4095,2047,10239,32767,65535,131071] [pv (.agg (oc e).toArray),pv (.bool (QaF e)),pv (.bool (!(QaF e))),pv (.bool (!(QaF e))),pg ((!(QaF e)) == false) (Pt b1 (0+3)),pg ((!(QaF e)) == false) (I7 o.cart),pg ((!(QaF e)) == false) (Pt b3 (0+3)),pg ((!(QaF e)) == false) (I7 e.cart),pg ((!(QaF e)) == false) (.bool (!decide (o.cart=e.cart))),pv (.bool ((!(QaF e))||(!decide (o.cart=e.cart)))),pv (.bool ((!(QaF e))||(!decide (o.cart=e.cart)))),pg (((!(QaF e))||(!decide (o.cart=e.cart))) == false) (Pt b1 (0+7)),pg (((!(QaF e))||(!decide (o.cart=e.cart))) == false) (.agg (vc o.ctx).toArray),pg (((!(QaF e))||(!decide (o.cart=e.cart))) == false) (Pt b3 (0+0)),pg (((!(QaF e))||(!decide (o.cart=e.cart))) == false) (.agg (dc e.dot).toArray),pg (((!(QaF e))||(!decide (o.cart=e.cart))) == false) (.bool (QbC o.ctx e.dot)),pg (((!(QaF e))||(!decide (o.cart=e.cart))) == false) (.bool (!(QbC o.ctx e.dot))),pv (.bool (((!(QaF e))||(!decide (o.cart=e.cart)))||(!(QbC o.ctx e.dot))))] (fun _ _=>_) [17] (by kernel_rfl) hs ⟨?_,?_,?_,?_,?_,?_,?_,?_,?_,?_,?_,?_,?_,?_,?_,?_,?_,?_,trivial⟩ ?_)))))))))))
 ·exact ob [] [] rfl rfl fun D ρ w hs=>QaR (cs:=oc e) Qa0 hs 1 rfl rfl rfl ⟨rfl,hs⟩
 ·exact ob [0] [] rfl rfl fun D ρ w hs=>Qar (vs:=[.agg (oc e).toArray]) (V:=.bool (QaF e)) Qui rfl rfl (QoC _ e) hs fun _ hs=>⟨rfl,hs⟩
 ·exact ob [1] [] rfl rfl fun D ρ w hs=>Qbw rfl ⟨rfl,hs⟩
 ·exact ob [2] [] rfl rfl fun D ρ w hs=>Qac (V:=.bool (!(QaF e))) rfl ⟨rfl,hs⟩
 ·exact obg [3] [] (!(QaF e)) rfl (fun _=>rfl) rfl (fun _ _ _ _ h=>h) fun D ρ w hG hs=>Qaf QcS rfl ⟨rfl,hs⟩
 ·exact obgy [3,4] [] [4] (!(QaF e)) rfl (fun _=>rfl) rfl (fun _ _ _ _ h=>h) (fun hG=>⟨hG,trivial⟩) fun D ρ w hG hs=>QaK (V:=I7 o.cart) Qap hs 0 rfl rfl rfl ⟨rfl,hs⟩
 ·exact obg [3] [] (!(QaF e)) rfl (fun _=>rfl) rfl (fun _ _ _ _ h=>h) fun D ρ w hG hs=>Qaf QcS rfl ⟨rfl,hs⟩
 ·exact obgy [3,6] [] [6] (!(QaF e)) rfl (fun _=>rfl) rfl (fun _ _ _ _ h=>h) (fun hG=>⟨hG,trivial⟩) fun D ρ w hG hs=>QaK (V:=I7 e.cart) Qap hs 1 rfl rfl rfl ⟨rfl,hs⟩
 ·exact obgy [3,5,7] [] [5,7] (!(QaF e)) rfl (fun _=>rfl) rfl (fun _ _ _ _ h=>h) (fun hG=>⟨hG,hG,trivial⟩) fun D ρ w hG hs=>Qcr rfl rfl ⟨rfl,hs⟩
 ·exact ob [3,8] [] rfl rfl fun D ρ w hs=>QbS (h':=!decide (o.cart=e.cart)) rfl rfl rfl ⟨rfl,hs⟩
 ·exact ob [9] [] rfl rfl fun D ρ w hs=>Qac (V:=.bool ((!(QaF e))||(!decide (o.cart=e.cart)))) rfl ⟨rfl,hs⟩
 ·exact obg [10] [] ((!(QaF e))||(!decide (o.cart=e.cart))) rfl (fun _=>rfl) rfl (fun _ _ _ _ h=>h) fun D ρ w hG hs=>Qaf Qcn rfl ⟨rfl,hs⟩
 ·exact obgy [10,11] [] [11] ((!(QaF e))||(!decide (o.cart=e.cart))) rfl (fun _=>rfl) rfl (fun _ _ _ _ h=>h) (fun hG=>⟨hG,trivial⟩) fun D ρ w hG hs=>QbO (vs:=vc o.ctx) QbT hs 0 rfl rfl rfl rfl ⟨rfl,hs⟩
 ·exact obg [10] [] ((!(QaF e))||(!decide (o.cart=e.cart))) rfl (fun _=>rfl) rfl (fun _ _ _ _ h=>h) fun D ρ w hG hs=>Qaf Qbg rfl ⟨rfl,hs⟩
 ·exact obgy [10,13] [] [13] ((!(QaF e))||(!decide (o.cart=e.cart))) rfl (fun _=>rfl) rfl (fun _ _ _ _ h=>h) (fun hG=>⟨hG,trivial⟩) fun D ρ w hG hs=>QbO (vs:=dc e.dot) Qcv hs 1 rfl rfl rfl rfl ⟨rfl,hs⟩
 ·exact obgy [10,12,14] [] [12,14] ((!(QaF e))||(!decide (o.cart=e.cart))) rfl (fun _=>rfl) rfl (fun _ _ _ _ h=>h) (fun hG=>⟨hG,hG,trivial⟩) fun D ρ w hG hs=>Qar (vs:=[.agg (vc o.ctx).toArray,.agg (dc e.dot).toArray]) (V:=.bool (QbC o.ctx e.dot)) QmG rfl rfl (Qgf _ o.ctx e.dot (by first|assumption|exact QcZ (by omega) (by omega) (by omega) (by omega))) hs fun _ hs=>⟨rfl,hs⟩
 ·exact obgy [10,15] [] [15] ((!(QaF e))||(!decide (o.cart=e.cart))) rfl (fun _=>rfl) rfl (fun _ _ _ _ h=>h) (fun hG=>⟨hG,trivial⟩) fun D ρ w hG hs=>Qbw rfl ⟨rfl,hs⟩
 ·exact ob [10,16] [] rfl rfl fun D ρ w hs=>QbS (h':=!(QbC o.ctx e.dot)) rfl rfl rfl ⟨rfl,hs⟩
 rintro ρ1 w7 ρ2 hρ hs
 replace hρ:ρ2=upd (mix [5,6,7,8,9,10,11,12,13,14,15,16,17,18,19,20,21,22] ρ1 _) 22 (.bool (((!(QaF e))||(!decide (o.cart=e.cart)))||(!(QbC o.ctx e.dot)))):=hρ
 subst hρ
 refine Qal (t:=((!(QaF e))||(!decide (o.cart=e.cart)))||(!(QbC o.ctx e.dot))) rfl (fun c8=>?_) (fun c8=>?_)
 ·
  refine Qag (Qab (Qaa (Qad (V:=.bool false) rfl (Qae (Qas ?_)))))
  refine ⟨_,Qao (V:=.bool false) Tryz.results31 rfl,?_⟩
  refine ⟨congrArg Ending.returned ?_,hs.take 0⟩
  exact congrArg Value.bool (QlT c8).symm
 ·
  have c8r:=Qfo c8
  replace c8:=Qfl c8
  have c8rr:=Qfo c8
  replace c8:=Qfl c8
  replace c8:=Qbr c8
  replace c8rr:=Qbr c8rr
  replace c8rr:=QQ1 c8rr
  replace c8r:=Qbr c8r
  refine Qan (Qag (Qag (Qab (Qaa (Qaf Qbt rfl (Qaa (QaK (V:=.int .u8 o.kind) QcF hs 0 rfl rfl rfl (Qae (Qak (Qag (Qab (Qaa (QaM rfl rfl (Qaa (Qad (V:=.bool (decide (o.kind=5))) rfl (Qae (Qal (t:=decide (o.kind=5)) rfl (fun c9=>?_) (fun c9=>?_))))))))))))))))))
  ·
   replace c9:=QQ1 c9
   refine Qag (Qab (Qaa (Qad (V:=.bool true) rfl (Qae (Qas ?_)))))
   refine ⟨_,Qao (V:=.bool true) Tryz.results31 rfl,?_⟩
   refine ⟨congrArg Ending.returned ?_,hs.take 0⟩
   rw [Qe8 c8 c8rr c8r]
   refine congrArg Value.bool ?_
   simp_all
  ·
   replace c9:=QQ2 c9
   refine Qag (Qag (Qab (Qaa (QaM rfl rfl (Qaa (Qad (V:=.bool (decide (o.kind=3))) rfl (Qae (Qal (t:=decide (o.kind=3)) rfl (fun c10=>?_) (fun c10=>?_)))))))))
   ·
    replace c10:=QQ1 c10
    refine Qan (Qc6 (congrArg Value.bool (QQ3 c10)) ?_)
    refine Qag (Qbi [some 30,some 31,some 32,some 33,some 34,some 35,some 36,some 37,some 38,some 39,some 4] [] [0,1,3,7,15,31,15,79,255,511,1023] [pv (Pt b3 (0+2)),pv (.int .u8 e.kind),pv (.bool (!decide (e.kind=4))),pv (.bool (!decide (e.kind=4))),pg ((!decide (e.kind=4)) == true) (Pt b1 (0+4)),pg ((!decide (e.kind=4)) == true) (I7 o.item),pg ((!decide (e.kind=4)) == true) (Pt b3 (0+4)),pg ((!decide (e.kind=4)) == true) (I7 e.item),pg ((!decide (e.kind=4)) == true) (.bool (decide (o.item=e.item))),pv (.bool ((!decide (e.kind=4))&&(decide (o.item=e.item)))),pv (.bool ((!decide (e.kind=4))&&(decide (o.item=e.item))))] (fun _ _=>_) [10] (by kernel_rfl) hs ⟨?_,?_,?_,?_,?_,?_,?_,?_,?_,?_,?_,trivial⟩ ?_)
    ·exact ob [] [] rfl rfl fun D ρ w hs=>Qaf Qbt rfl ⟨rfl,hs⟩
    ·exact ob [0] [] rfl rfl fun D ρ w hs=>QaK (V:=.int .u8 e.kind) QcF hs 1 rfl rfl rfl ⟨rfl,hs⟩
    ·exact ob [1] [] rfl rfl fun D ρ w hs=>Qcr rfl rfl ⟨rfl,hs⟩
    ·exact ob [2] [] rfl rfl fun D ρ w hs=>Qac (V:=.bool (!decide (e.kind=4))) rfl ⟨rfl,hs⟩
    ·exact obg [3] [] (!decide (e.kind=4)) rfl (fun _=>rfl) rfl (fun _ _ _ _ h=>h) fun D ρ w hG hs=>Qaf Qcc rfl ⟨rfl,hs⟩
    ·exact obgy [3,4] [] [4] (!decide (e.kind=4)) rfl (fun _=>rfl) rfl (fun _ _ _ _ h=>h) (fun hG=>⟨hG,trivial⟩) fun D ρ w hG hs=>QaK (V:=I7 o.item) Qap hs 0 rfl rfl rfl ⟨rfl,hs⟩
    ·exact obg [3] [] (!decide (e.kind=4)) rfl (fun _=>rfl) rfl (fun _ _ _ _ h=>h) fun D ρ w hG hs=>Qaf Qcc rfl ⟨rfl,hs⟩
    ·exact obgy [3,6] [] [6] (!decide (e.kind=4)) rfl (fun _=>rfl) rfl (fun _ _ _ _ h=>h) (fun hG=>⟨hG,trivial⟩) fun D ρ w hG hs=>QaK (V:=I7 e.item) Qap hs 1 rfl rfl rfl ⟨rfl,hs⟩
    ·exact obgy [3,5,7] [] [5,7] (!decide (e.kind=4)) rfl (fun _=>rfl) rfl (fun _ _ _ _ h=>h) (fun hG=>⟨hG,hG,trivial⟩) fun D ρ w hG hs=>QaM rfl rfl ⟨rfl,hs⟩
    ·exact ob [3,8] [] rfl rfl fun D ρ w hs=>Qa3 (h':=decide (o.item=e.item)) rfl rfl rfl ⟨rfl,hs⟩
    ·exact ob [9] [] rfl rfl fun D ρ w hs=>Qad (V:=.bool ((!decide (e.kind=4))&&(decide (o.item=e.item)))) rfl ⟨rfl,hs⟩
    rintro ρ1 w11 ρ2 hρ hs
    replace hρ:ρ2=upd (mix [30,31,32,33,34,35,36,37,38,39,4] ρ1 _) 4 (.bool ((!decide (e.kind=4))&&(decide (o.item=e.item)))):=hρ
    subst hρ
    refine Qas ?_
    refine ⟨_,Qao (V:=.bool ((!decide (e.kind=4))&&(decide (o.item=e.item)))) Tryz.results31 rfl,?_⟩
    refine ⟨congrArg Ending.returned ?_,hs.take 0⟩
    rw [Qe8 c8 c8rr c8r]
    refine congrArg Value.bool ?_
    simp_all
   ·
    replace c10:=QQ2 c10
    refine Qab (Qaa (QaM rfl rfl (Qaa (Qad (V:=.bool (decide (o.kind=2))) rfl (Qae (Qal (t:=decide (o.kind=2)) rfl (fun c12=>?_) (fun c12=>?_)))))))
    ·
     replace c12:=QQ1 c12
     refine Qag (Qbi [some 30,some 31,some 32,some 33,some 34,some 35,some 36,some 37,some 38,some 39,some 4] [] [0,1,3,7,15,31,15,79,255,511,1023] [pv (Pt b3 (0+2)),pv (.int .u8 e.kind),pv (.bool (!decide (e.kind=4))),pv (.bool (!decide (e.kind=4))),pg ((!decide (e.kind=4)) == true) (Pt b1 (0+4)),pg ((!decide (e.kind=4)) == true) (I7 o.item),pg ((!decide (e.kind=4)) == true) (Pt b3 (0+4)),pg ((!decide (e.kind=4)) == true) (I7 e.item),pg ((!decide (e.kind=4)) == true) (.bool (decide (o.item=e.item))),pv (.bool ((!decide (e.kind=4))&&(decide (o.item=e.item)))),pv (.bool ((!decide (e.kind=4))&&(decide (o.item=e.item))))] (fun _ _=>_) [10] (by kernel_rfl) hs ⟨?_,?_,?_,?_,?_,?_,?_,?_,?_,?_,?_,trivial⟩ ?_)
     ·exact ob [] [] rfl rfl fun D ρ w hs=>Qaf Qbt rfl ⟨rfl,hs⟩
     ·exact ob [0] [] rfl rfl fun D ρ w hs=>QaK (V:=.int .u8 e.kind) QcF hs 1 rfl rfl rfl ⟨rfl,hs⟩
     ·exact ob [1] [] rfl rfl fun D ρ w hs=>Qcr rfl rfl ⟨rfl,hs⟩
     ·exact ob [2] [] rfl rfl fun D ρ w hs=>Qac (V:=.bool (!decide (e.kind=4))) rfl ⟨rfl,hs⟩
     ·exact obg [3] [] (!decide (e.kind=4)) rfl (fun _=>rfl) rfl (fun _ _ _ _ h=>h) fun D ρ w hG hs=>Qaf Qcc rfl ⟨rfl,hs⟩
     ·exact obgy [3,4] [] [4] (!decide (e.kind=4)) rfl (fun _=>rfl) rfl (fun _ _ _ _ h=>h) (fun hG=>⟨hG,trivial⟩) fun D ρ w hG hs=>QaK (V:=I7 o.item) Qap hs 0 rfl rfl rfl ⟨rfl,hs⟩
     ·exact obg [3] [] (!decide (e.kind=4)) rfl (fun _=>rfl) rfl (fun _ _ _ _ h=>h) fun D ρ w hG hs=>Qaf Qcc rfl ⟨rfl,hs⟩
     ·exact obgy [3,6] [] [6] (!decide (e.kind=4)) rfl (fun _=>rfl) rfl (fun _ _ _ _ h=>h) (fun hG=>⟨hG,trivial⟩) fun D ρ w hG hs=>QaK (V:=I7 e.item) Qap hs 1 rfl rfl rfl ⟨rfl,hs⟩
     ·exact obgy [3,5,7] [] [5,7] (!decide (e.kind=4)) rfl (fun _=>rfl) rfl (fun _ _ _ _ h=>h) (fun hG=>⟨hG,hG,trivial⟩) fun D ρ w hG hs=>QaM rfl rfl ⟨rfl,hs⟩
     ·exact ob [3,8] [] rfl rfl fun D ρ w hs=>Qa3 (h':=decide (o.item=e.item)) rfl rfl rfl ⟨rfl,hs⟩
     ·exact ob [9] [] rfl rfl fun D ρ w hs=>Qad (V:=.bool ((!decide (e.kind=4))&&(decide (o.item=e.item)))) rfl ⟨rfl,hs⟩
     rintro ρ1 w13 ρ2 hρ hs
     replace hρ:ρ2=upd (mix [30,31,32,33,34,35,36,37,38,39,4] ρ1 _) 4 (.bool ((!decide (e.kind=4))&&(decide (o.item=e.item)))):=hρ
     subst hρ
     refine Qas ?_
     refine ⟨_,Qao (V:=.bool ((!decide (e.kind=4))&&(decide (o.item=e.item)))) Tryz.results31 rfl,?_⟩
     refine ⟨congrArg Ending.returned ?_,hs.take 0⟩
     rw [Qe8 c8 c8rr c8r]
     refine congrArg Value.bool ?_
     simp_all
    ·
     replace c12:=QQ2 c12
     refine Qan (Qag (Qab (Qaa (Qad (V:=.bool false) rfl (Qae (Qas ?_))))))
     refine ⟨_,Qao (V:=.bool false) Tryz.results31 rfl,?_⟩
     refine ⟨congrArg Ending.returned ?_,hs.take 0⟩
     rw [Qe8 c8 c8rr c8r]
     refine congrArg Value.bool ?_
     simp_all
theorem Qm2 (w:World) (o e:Opn) (he:Qc8 e.dot):Calls Tryz.prog 39 #[.agg (oc o).toArray,.agg (oc e).toArray] w (fun r w'=>r = .returned (.bool (Qay o e))∧Own w no w' []):=by
 refine Qai (n:=46) Tryz.func39 rfl Tryz.ntmps39 rfl ?_
 have hs:=Own.start w
 refine Qag (Qab (Qaa (Qa9 (V:=.agg (oc o).toArray) (cs:=oc o) rfl rfl hs fun b1 w2 hs=>(Qaa (Qa9 (V:=.agg (oc e).toArray) (cs:=oc e) rfl rfl hs fun b3 w4 hs=>(Qaa (Qad (V:=.bool false) rfl (Qae (Qag (Qag (Qbi [some 5,some 6,some 7,some 8,some 9,some 10,some 11,some 12,some 13,some 14,some 15,some 16,some 17,some 18,some 19,some 20,some 21,some 22] [] [0,1,3,7,15,31,15,79,255,511,1023,2047,4095,2047,10239,32767,65535,131071] [pv (.agg (oc e).toArray),pv (.bool (QaF e)),pv (.bool (!(QaF e))),pv (.bool (!(QaF e))),pg ((!(QaF e)) == false) (Pt b1 (0+3)),pg ((!(QaF e)) == false) (I7 o.cart),pg ((!(QaF e)) == false) (Pt b3 (0+3)),pg ((!(QaF e)) == false) (I7 e.cart),pg ((!(QaF e)) == false) (.bool (!decide (o.cart=e.cart))),pv (.bool ((!(QaF e))||(!decide (o.cart=e.cart)))),pv (.bool ((!(QaF e))||(!decide (o.cart=e.cart)))),pg (((!(QaF e))||(!decide (o.cart=e.cart))) == false) (Pt b1 (0+7)),pg (((!(QaF e))||(!decide (o.cart=e.cart))) == false) (.agg (vc o.ctx).toArray),pg (((!(QaF e))||(!decide (o.cart=e.cart))) == false) (Pt b3 (0+0)),pg (((!(QaF e))||(!decide (o.cart=e.cart))) == false) (.agg (dc e.dot).toArray),pg (((!(QaF e))||(!decide (o.cart=e.cart))) == false) (.bool (QbC o.ctx e.dot)),pg (((!(QaF e))||(!decide (o.cart=e.cart))) == false) (.bool (!(QbC o.ctx e.dot))),pv (.bool (((!(QaF e))||(!decide (o.cart=e.cart)))||(!(QbC o.ctx e.dot))))] (fun _ _=>_) [17] (by kernel_rfl) hs ⟨?_,?_,?_,?_,?_,?_,?_,?_,?_,?_,?_,?_,?_,?_,?_,?_,?_,?_,trivial⟩ ?_)))))))))))
 ·exact ob [] [] rfl rfl fun D ρ w hs=>QaR (cs:=oc e) Qa0 hs 1 rfl rfl rfl ⟨rfl,hs⟩
 ·exact ob [0] [] rfl rfl fun D ρ w hs=>Qar (vs:=[.agg (oc e).toArray]) (V:=.bool (QaF e)) QsI rfl rfl (Qjo _ e) hs fun _ hs=>⟨rfl,hs⟩
 ·exact ob [1] [] rfl rfl fun D ρ w hs=>Qbw rfl ⟨rfl,hs⟩
 ·exact ob [2] [] rfl rfl fun D ρ w hs=>Qac (V:=.bool (!(QaF e))) rfl ⟨rfl,hs⟩
 ·exact obg [3] [] (!(QaF e)) rfl (fun _=>rfl) rfl (fun _ _ _ _ h=>h) fun D ρ w hG hs=>Qaf QcS rfl ⟨rfl,hs⟩
 ·exact obgy [3,4] [] [4] (!(QaF e)) rfl (fun _=>rfl) rfl (fun _ _ _ _ h=>h) (fun hG=>⟨hG,trivial⟩) fun D ρ w hG hs=>QaK (V:=I7 o.cart) Qap hs 0 rfl rfl rfl ⟨rfl,hs⟩
 ·exact obg [3] [] (!(QaF e)) rfl (fun _=>rfl) rfl (fun _ _ _ _ h=>h) fun D ρ w hG hs=>Qaf QcS rfl ⟨rfl,hs⟩
 ·exact obgy [3,6] [] [6] (!(QaF e)) rfl (fun _=>rfl) rfl (fun _ _ _ _ h=>h) (fun hG=>⟨hG,trivial⟩) fun D ρ w hG hs=>QaK (V:=I7 e.cart) Qap hs 1 rfl rfl rfl ⟨rfl,hs⟩
 ·exact obgy [3,5,7] [] [5,7] (!(QaF e)) rfl (fun _=>rfl) rfl (fun _ _ _ _ h=>h) (fun hG=>⟨hG,hG,trivial⟩) fun D ρ w hG hs=>Qcr rfl rfl ⟨rfl,hs⟩
 ·exact ob [3,8] [] rfl rfl fun D ρ w hs=>QbS (h':=!decide (o.cart=e.cart)) rfl rfl rfl ⟨rfl,hs⟩
 ·exact ob [9] [] rfl rfl fun D ρ w hs=>Qac (V:=.bool ((!(QaF e))||(!decide (o.cart=e.cart)))) rfl ⟨rfl,hs⟩
 ·exact obg [10] [] ((!(QaF e))||(!decide (o.cart=e.cart))) rfl (fun _=>rfl) rfl (fun _ _ _ _ h=>h) fun D ρ w hG hs=>Qaf Qcn rfl ⟨rfl,hs⟩
 ·exact obgy [10,11] [] [11] ((!(QaF e))||(!decide (o.cart=e.cart))) rfl (fun _=>rfl) rfl (fun _ _ _ _ h=>h) (fun hG=>⟨hG,trivial⟩) fun D ρ w hG hs=>QbO (vs:=vc o.ctx) QbT hs 0 rfl rfl rfl rfl ⟨rfl,hs⟩
 ·exact obg [10] [] ((!(QaF e))||(!decide (o.cart=e.cart))) rfl (fun _=>rfl) rfl (fun _ _ _ _ h=>h) fun D ρ w hG hs=>Qaf Qbg rfl ⟨rfl,hs⟩
 ·exact obgy [10,13] [] [13] ((!(QaF e))||(!decide (o.cart=e.cart))) rfl (fun _=>rfl) rfl (fun _ _ _ _ h=>h) (fun hG=>⟨hG,trivial⟩) fun D ρ w hG hs=>QbO (vs:=dc e.dot) Qcv hs 1 rfl rfl rfl rfl ⟨rfl,hs⟩
 ·exact obgy [10,12,14] [] [12,14] ((!(QaF e))||(!decide (o.cart=e.cart))) rfl (fun _=>rfl) rfl (fun _ _ _ _ h=>h) (fun hG=>⟨hG,hG,trivial⟩) fun D ρ w hG hs=>Qar (vs:=[.agg (vc o.ctx).toArray,.agg (dc e.dot).toArray]) (V:=.bool (QbC o.ctx e.dot)) Qnl rfl rfl (QgZ _ o.ctx e.dot (by first|assumption|exact QcZ (by omega) (by omega) (by omega) (by omega))) hs fun _ hs=>⟨rfl,hs⟩
 ·exact obgy [10,15] [] [15] ((!(QaF e))||(!decide (o.cart=e.cart))) rfl (fun _=>rfl) rfl (fun _ _ _ _ h=>h) (fun hG=>⟨hG,trivial⟩) fun D ρ w hG hs=>Qbw rfl ⟨rfl,hs⟩
 ·exact ob [10,16] [] rfl rfl fun D ρ w hs=>QbS (h':=!(QbC o.ctx e.dot)) rfl rfl rfl ⟨rfl,hs⟩
 rintro ρ1 w7 ρ2 hρ hs
 replace hρ:ρ2=upd (mix [5,6,7,8,9,10,11,12,13,14,15,16,17,18,19,20,21,22] ρ1 _) 22 (.bool (((!(QaF e))||(!decide (o.cart=e.cart)))||(!(QbC o.ctx e.dot)))):=hρ
 subst hρ
 refine Qal (t:=((!(QaF e))||(!decide (o.cart=e.cart)))||(!(QbC o.ctx e.dot))) rfl (fun c8=>?_) (fun c8=>?_)
 ·
  refine Qag (Qab (Qaa (Qad (V:=.bool false) rfl (Qae (Qas ?_)))))
  refine ⟨_,Qao (V:=.bool false) Tryz.results39 rfl,?_⟩
  refine ⟨congrArg Ending.returned ?_,hs.take 0⟩
  exact congrArg Value.bool (QlT c8).symm
 ·
  have c8r:=Qfo c8
  replace c8:=Qfl c8
  have c8rr:=Qfo c8
  replace c8:=Qfl c8
  replace c8:=Qbr c8
  replace c8rr:=Qbr c8rr
  replace c8rr:=QQ1 c8rr
  replace c8r:=Qbr c8r
  refine Qan (Qag (Qag (Qab (Qaa (Qaf Qbt rfl (Qaa (QaK (V:=.int .u8 o.kind) QcF hs 0 rfl rfl rfl (Qaa (QaM rfl rfl (Qae (Qal (t:=decide (o.kind=5)) rfl (fun c9=>?_) (fun c9=>?_))))))))))))
  ·
   replace c9:=QQ1 c9
   refine Qag (Qab (Qaa (Qad (V:=.bool true) rfl (Qae (Qas ?_)))))
   refine ⟨_,Qao (V:=.bool true) Tryz.results39 rfl,?_⟩
   refine ⟨congrArg Ending.returned ?_,hs.take 0⟩
   rw [Qe8 c8 c8rr c8r]
   refine congrArg Value.bool ?_
   simp_all
   try exact Bool.and_assoc _ _ _
  ·
   replace c9:=QQ2 c9
   refine Qan (Qag (Qbi [some 26,some 27,some 28,some 29,some 30,some 31,some 32,some 33,some 34,some 35,some 36,some 37,some 38,some 39,some 40,some 41,some 42,some 43,some 44,some 45,some 4] [] [0,1,3,7,15,31,63,127,255,511,1023,2047,4095,8191,16383,32767,16383,81919,262143,524287,1048575] [pv (Pt b1 (0+2)),pv (.int .u8 o.kind),pv (.bool (decide (o.kind=3))),pv (.bool (decide (o.kind=3))),pg ((decide (o.kind=3)) == false) (Pt b1 (0+2)),pg ((decide (o.kind=3)) == false) (.int .u8 o.kind),pg ((decide (o.kind=3)) == false) (.bool (decide (o.kind=2))),pv (.bool ((decide (o.kind=3))||(decide (o.kind=2)))),pv (.bool ((decide (o.kind=3))||(decide (o.kind=2)))),pg (((decide (o.kind=3))||(decide (o.kind=2))) == true) (Pt b3 (0+2)),pg (((decide (o.kind=3))||(decide (o.kind=2))) == true) (.int .u8 e.kind),pg (((decide (o.kind=3))||(decide (o.kind=2))) == true) (.bool (!decide (e.kind=4))),pv (.bool (((decide (o.kind=3))||(decide (o.kind=2)))&&(!decide (e.kind=4)))),pv (.bool (((decide (o.kind=3))||(decide (o.kind=2)))&&(!decide (e.kind=4)))),pg ((((decide (o.kind=3))||(decide (o.kind=2)))&&(!decide (e.kind=4))) == true) (Pt b1 (0+4)),pg ((((decide (o.kind=3))||(decide (o.kind=2)))&&(!decide (e.kind=4))) == true) (I7 o.item),pg ((((decide (o.kind=3))||(decide (o.kind=2)))&&(!decide (e.kind=4))) == true) (Pt b3 (0+4)),pg ((((decide (o.kind=3))||(decide (o.kind=2)))&&(!decide (e.kind=4))) == true) (I7 e.item),pg ((((decide (o.kind=3))||(decide (o.kind=2)))&&(!decide (e.kind=4))) == true) (.bool (decide (o.item=e.item))),pv (.bool ((((decide (o.kind=3))||(decide (o.kind=2)))&&(!decide (e.kind=4)))&&(decide (o.item=e.item)))),pv (.bool ((((decide (o.kind=3))||(decide (o.kind=2)))&&(!decide (e.kind=4)))&&(decide (o.item=e.item))))] (fun _ _=>_) [20] (by kernel_rfl) hs ⟨?_,?_,?_,?_,?_,?_,?_,?_,?_,?_,?_,?_,?_,?_,?_,?_,?_,?_,?_,?_,?_,trivial⟩ ?_))
   ·exact ob [] [] rfl rfl fun D ρ w hs=>Qaf Qbt rfl ⟨rfl,hs⟩
   ·exact ob [0] [] rfl rfl fun D ρ w hs=>QaK (V:=.int .u8 o.kind) QcF hs 0 rfl rfl rfl ⟨rfl,hs⟩
   ·exact ob [1] [] rfl rfl fun D ρ w hs=>QaM rfl rfl ⟨rfl,hs⟩
   ·exact ob [2] [] rfl rfl fun D ρ w hs=>Qac (V:=.bool (decide (o.kind=3))) rfl ⟨rfl,hs⟩
   ·exact obg [3] [] (decide (o.kind=3)) rfl (fun _=>rfl) rfl (fun _ _ _ _ h=>h) fun D ρ w hG hs=>Qaf Qbt rfl ⟨rfl,hs⟩
   ·exact obgy [3,4] [] [4] (decide (o.kind=3)) rfl (fun _=>rfl) rfl (fun _ _ _ _ h=>h) (fun hG=>⟨hG,trivial⟩) fun D ρ w hG hs=>QaK (V:=.int .u8 o.kind) QcF hs 0 rfl rfl rfl ⟨rfl,hs⟩
   ·exact obgy [3,5] [] [5] (decide (o.kind=3)) rfl (fun _=>rfl) rfl (fun _ _ _ _ h=>h) (fun hG=>⟨hG,trivial⟩) fun D ρ w hG hs=>QaM rfl rfl ⟨rfl,hs⟩
   ·exact ob [3,6] [] rfl rfl fun D ρ w hs=>QbS (h':=decide (o.kind=2)) rfl rfl rfl ⟨rfl,hs⟩
   ·exact ob [7] [] rfl rfl fun D ρ w hs=>Qac (V:=.bool ((decide (o.kind=3))||(decide (o.kind=2)))) rfl ⟨rfl,hs⟩
   ·exact obg [8] [] ((decide (o.kind=3))||(decide (o.kind=2))) rfl (fun _=>rfl) rfl (fun _ _ _ _ h=>h) fun D ρ w hG hs=>Qaf Qbt rfl ⟨rfl,hs⟩
   ·exact obgy [8,9] [] [9] ((decide (o.kind=3))||(decide (o.kind=2))) rfl (fun _=>rfl) rfl (fun _ _ _ _ h=>h) (fun hG=>⟨hG,trivial⟩) fun D ρ w hG hs=>QaK (V:=.int .u8 e.kind) QcF hs 1 rfl rfl rfl ⟨rfl,hs⟩
   ·exact obgy [8,10] [] [10] ((decide (o.kind=3))||(decide (o.kind=2))) rfl (fun _=>rfl) rfl (fun _ _ _ _ h=>h) (fun hG=>⟨hG,trivial⟩) fun D ρ w hG hs=>Qcr rfl rfl ⟨rfl,hs⟩
   ·exact ob [8,11] [] rfl rfl fun D ρ w hs=>Qa3 (h':=!decide (e.kind=4)) rfl rfl rfl ⟨rfl,hs⟩
   ·exact ob [12] [] rfl rfl fun D ρ w hs=>Qac (V:=.bool (((decide (o.kind=3))||(decide (o.kind=2)))&&(!decide (e.kind=4)))) rfl ⟨rfl,hs⟩
   ·exact obg [13] [] (((decide (o.kind=3))||(decide (o.kind=2)))&&(!decide (e.kind=4))) rfl (fun _=>rfl) rfl (fun _ _ _ _ h=>h) fun D ρ w hG hs=>Qaf Qcc rfl ⟨rfl,hs⟩
   ·exact obgy [13,14] [] [14] (((decide (o.kind=3))||(decide (o.kind=2)))&&(!decide (e.kind=4))) rfl (fun _=>rfl) rfl (fun _ _ _ _ h=>h) (fun hG=>⟨hG,trivial⟩) fun D ρ w hG hs=>QaK (V:=I7 o.item) Qap hs 0 rfl rfl rfl ⟨rfl,hs⟩
   ·exact obg [13] [] (((decide (o.kind=3))||(decide (o.kind=2)))&&(!decide (e.kind=4))) rfl (fun _=>rfl) rfl (fun _ _ _ _ h=>h) fun D ρ w hG hs=>Qaf Qcc rfl ⟨rfl,hs⟩
   ·exact obgy [13,16] [] [16] (((decide (o.kind=3))||(decide (o.kind=2)))&&(!decide (e.kind=4))) rfl (fun _=>rfl) rfl (fun _ _ _ _ h=>h) (fun hG=>⟨hG,trivial⟩) fun D ρ w hG hs=>QaK (V:=I7 e.item) Qap hs 1 rfl rfl rfl ⟨rfl,hs⟩
   ·exact obgy [13,15,17] [] [15,17] (((decide (o.kind=3))||(decide (o.kind=2)))&&(!decide (e.kind=4))) rfl (fun _=>rfl) rfl (fun _ _ _ _ h=>h) (fun hG=>⟨hG,hG,trivial⟩) fun D ρ w hG hs=>QaM rfl rfl ⟨rfl,hs⟩
   ·exact ob [13,18] [] rfl rfl fun D ρ w hs=>Qa3 (h':=decide (o.item=e.item)) rfl rfl rfl ⟨rfl,hs⟩
   ·exact ob [19] [] rfl rfl fun D ρ w hs=>Qad (V:=.bool ((((decide (o.kind=3))||(decide (o.kind=2)))&&(!decide (e.kind=4)))&&(decide (o.item=e.item)))) rfl ⟨rfl,hs⟩
   rintro ρ1 w10 ρ2 hρ hs
   replace hρ:ρ2=upd (mix [26,27,28,29,30,31,32,33,34,35,36,37,38,39,40,41,42,43,44,45,4] ρ1 _) 4 (.bool ((((decide (o.kind=3))||(decide (o.kind=2)))&&(!decide (e.kind=4)))&&(decide (o.item=e.item)))):=hρ
   subst hρ
   refine Qas ?_
   refine ⟨_,Qao (V:=.bool ((((decide (o.kind=3))||(decide (o.kind=2)))&&(!decide (e.kind=4)))&&(decide (o.item=e.item)))) Tryz.results39 rfl,?_⟩
   refine ⟨congrArg Ending.returned ?_,hs.take 0⟩
   rw [Qe8 c8 c8rr c8r]
   refine congrArg Value.bool ?_
   simp_all
   try exact Bool.and_assoc _ _ _
theorem Qn5 (w:World) (o:Opn) (ho:QbH o):Calls Tryz.prog 103 #[.agg (oc o).toArray] w (fun e w'=>e = .returned (.bool (Qb1 o))∧Own w no w' []):=by
 refine Qai (n:=28) Tryz.func103 rfl Tryz.ntmps103 rfl ?_
 have hs:=Own.start w
 refine Qag (Qab (Qaa (Qa9 (V:=.agg (oc o).toArray) (cs:=oc o) rfl rfl hs fun b1 w2 hs=>(Qaa (Qad (V:=.bool false) rfl (Qae (Qag (Qag (Qab (Qaa (Qaf Qbt rfl (Qaa (QaK (V:=.int .u8 o.kind) QcF hs 0 rfl rfl rfl (Qae (Qak (Qag (Qab (Qaa (QaM rfl rfl (Qaa (Qad (V:=.bool (decide (o.kind=1))) rfl (Qae (Qal (t:=decide (o.kind=1)) rfl (fun c3=>?_) (fun c3=>?_))))))))))))))))))))))))
 ·
  replace c3:=QQ1 c3
  refine Qag (Qab (Qaa (Qaf Qcu rfl (Qaa (QaK (V:=I7 o.qty) Qap hs 0 rfl rfl rfl (Qaa (Qcb rfl rfl (Qaa (Qad (V:=.bool (decide (0<o.qty))) rfl (Qae (Qas ?_)))))))))))
  refine ⟨_,Qao (V:=.bool (decide (0<o.qty))) Tryz.results103 rfl,?_⟩
  refine ⟨congrArg Ending.returned ?_,hs.take 0⟩
  refine congrArg Value.bool ?_
  unfold Qb1
  have ⟨_,_,_,_,⟨hq1,hq2⟩,_,_⟩:=ho
  simp_all
  try omega
 ·
  replace c3:=QQ2 c3
  refine Qag (Qab (Qaa (QaM rfl rfl (Qaa (Qad (V:=.bool (decide (o.kind=2))) rfl (Qae (Qal (t:=decide (o.kind=2)) rfl (fun c4=>?_) (fun c4=>?_))))))))
  ·
   replace c4:=QQ1 c4
   refine Qag (Qab (Qaa (Qad (V:=.bool true) rfl (Qae (Qas ?_)))))
   refine ⟨_,Qao (V:=.bool true) Tryz.results103 rfl,?_⟩
   refine ⟨congrArg Ending.returned ?_,hs.take 0⟩
   refine congrArg Value.bool ?_
   unfold Qb1
   have ⟨_,_,_,_,⟨hq1,hq2⟩,_,_⟩:=ho
   simp_all
   try omega
  ·
   replace c4:=QQ2 c4
   refine Qag (Qab (Qaa (QaM rfl rfl (Qaa (Qad (V:=.bool (decide (o.kind=3))) rfl (Qae (Qal (t:=decide (o.kind=3)) rfl (fun c5=>?_) (fun c5=>?_))))))))
   ·
    replace c5:=QQ1 c5
    refine Qag (Qab (Qaa (Qaf Qcu rfl (Qaa (QaK (V:=I7 o.qty) Qap hs 0 rfl rfl rfl (Qaa (QaM rfl rfl (Qaa (Qad (V:=.bool (decide (o.qty=0))) rfl (Qae (Qas ?_)))))))))))
    refine ⟨_,Qao (V:=.bool (decide (o.qty=0))) Tryz.results103 rfl,?_⟩
    refine ⟨congrArg Ending.returned ?_,hs.take 0⟩
    refine congrArg Value.bool ?_
    unfold Qb1
    have ⟨_,_,_,_,⟨hq1,hq2⟩,_,_⟩:=ho
    simp_all
    try omega
   ·
    replace c5:=QQ2 c5
    refine Qag (Qag (Qab (Qaa (QaM rfl rfl (Qaa (Qad (V:=.bool (decide (o.kind=4))) rfl (Qae (Qal (t:=decide (o.kind=4)) rfl (fun c6=>?_) (fun c6=>?_)))))))))
    ·
     replace c6:=QQ1 c6
     refine Qan (Qc6 (congrArg Value.bool (QQ3 c6)) ?_)
     refine Qag (Qbi [some 20,some 21,some 22,some 23,some 24,some 25,some 26,some 27,some 2] [] [0,1,3,7,15,31,63,127,255] [pv (Pt b1 (0+4)),pv (I7 o.item),pv (.bool (decide (o.item=0))),pv (.bool (decide (o.item=0))),pg ((decide (o.item=0)) == true) (Pt b1 (0+5)),pg ((decide (o.item=0)) == true) (I7 o.qty),pg ((decide (o.item=0)) == true) (.bool (decide (o.qty=0))),pv (.bool ((decide (o.item=0))&&(decide (o.qty=0)))),pv (.bool ((decide (o.item=0))&&(decide (o.qty=0))))] (fun _ _=>_) [8] (by kernel_rfl) hs ⟨?_,?_,?_,?_,?_,?_,?_,?_,?_,trivial⟩ ?_)
     ·exact ob [] [] rfl rfl fun D ρ w hs=>Qaf Qcc rfl ⟨rfl,hs⟩
     ·exact ob [0] [] rfl rfl fun D ρ w hs=>QaK (V:=I7 o.item) Qap hs 0 rfl rfl rfl ⟨rfl,hs⟩
     ·exact ob [1] [] rfl rfl fun D ρ w hs=>QaM rfl rfl ⟨rfl,hs⟩
     ·exact ob [2] [] rfl rfl fun D ρ w hs=>Qac (V:=.bool (decide (o.item=0))) rfl ⟨rfl,hs⟩
     ·exact obg [3] [] (decide (o.item=0)) rfl (fun _=>rfl) rfl (fun _ _ _ _ h=>h) fun D ρ w hG hs=>Qaf Qcu rfl ⟨rfl,hs⟩
     ·exact obgy [3,4] [] [4] (decide (o.item=0)) rfl (fun _=>rfl) rfl (fun _ _ _ _ h=>h) (fun hG=>⟨hG,trivial⟩) fun D ρ w hG hs=>QaK (V:=I7 o.qty) Qap hs 0 rfl rfl rfl ⟨rfl,hs⟩
     ·exact obgy [3,5] [] [5] (decide (o.item=0)) rfl (fun _=>rfl) rfl (fun _ _ _ _ h=>h) (fun hG=>⟨hG,trivial⟩) fun D ρ w hG hs=>QaM rfl rfl ⟨rfl,hs⟩
     ·exact ob [3,6] [] rfl rfl fun D ρ w hs=>Qa3 (h':=decide (o.qty=0)) rfl rfl rfl ⟨rfl,hs⟩
     ·exact ob [7] [] rfl rfl fun D ρ w hs=>Qad (V:=.bool ((decide (o.item=0))&&(decide (o.qty=0)))) rfl ⟨rfl,hs⟩
     rintro ρ1 w7 ρ2 hρ hs
     replace hρ:ρ2=upd (mix [20,21,22,23,24,25,26,27,2] ρ1 _) 2 (.bool ((decide (o.item=0))&&(decide (o.qty=0)))):=hρ
     subst hρ
     refine Qas ?_
     refine ⟨_,Qao (V:=.bool ((decide (o.item=0))&&(decide (o.qty=0)))) Tryz.results103 rfl,?_⟩
     refine ⟨congrArg Ending.returned ?_,hs.take 0⟩
     refine congrArg Value.bool ?_
     unfold Qb1
     have ⟨_,_,_,_,⟨hq1,hq2⟩,_,_⟩:=ho
     simp_all
     try omega
    ·
     replace c6:=QQ2 c6
     refine Qab (Qaa (QaM rfl rfl (Qaa (Qad (V:=.bool (decide (o.kind=5))) rfl (Qae (Qal (t:=decide (o.kind=5)) rfl (fun c8=>?_) (fun c8=>?_)))))))
     ·
      replace c8:=QQ1 c8
      refine Qag (Qbi [some 20,some 21,some 22,some 23,some 24,some 25,some 26,some 27,some 2] [] [0,1,3,7,15,31,63,127,255] [pv (Pt b1 (0+4)),pv (I7 o.item),pv (.bool (decide (o.item=0))),pv (.bool (decide (o.item=0))),pg ((decide (o.item=0)) == true) (Pt b1 (0+5)),pg ((decide (o.item=0)) == true) (I7 o.qty),pg ((decide (o.item=0)) == true) (.bool (decide (o.qty=0))),pv (.bool ((decide (o.item=0))&&(decide (o.qty=0)))),pv (.bool ((decide (o.item=0))&&(decide (o.qty=0))))] (fun _ _=>_) [8] (by kernel_rfl) hs ⟨?_,?_,?_,?_,?_,?_,?_,?_,?_,trivial⟩ ?_)
      ·exact ob [] [] rfl rfl fun D ρ w hs=>Qaf Qcc rfl ⟨rfl,hs⟩
      ·exact ob [0] [] rfl rfl fun D ρ w hs=>QaK (V:=I7 o.item) Qap hs 0 rfl rfl rfl ⟨rfl,hs⟩
      ·exact ob [1] [] rfl rfl fun D ρ w hs=>QaM rfl rfl ⟨rfl,hs⟩
      ·exact ob [2] [] rfl rfl fun D ρ w hs=>Qac (V:=.bool (decide (o.item=0))) rfl ⟨rfl,hs⟩
      ·exact obg [3] [] (decide (o.item=0)) rfl (fun _=>rfl) rfl (fun _ _ _ _ h=>h) fun D ρ w hG hs=>Qaf Qcu rfl ⟨rfl,hs⟩
      ·exact obgy [3,4] [] [4] (decide (o.item=0)) rfl (fun _=>rfl) rfl (fun _ _ _ _ h=>h) (fun hG=>⟨hG,trivial⟩) fun D ρ w hG hs=>QaK (V:=I7 o.qty) Qap hs 0 rfl rfl rfl ⟨rfl,hs⟩
      ·exact obgy [3,5] [] [5] (decide (o.item=0)) rfl (fun _=>rfl) rfl (fun _ _ _ _ h=>h) (fun hG=>⟨hG,trivial⟩) fun D ρ w hG hs=>QaM rfl rfl ⟨rfl,hs⟩
      ·exact ob [3,6] [] rfl rfl fun D ρ w hs=>Qa3 (h':=decide (o.qty=0)) rfl rfl rfl ⟨rfl,hs⟩
      ·exact ob [7] [] rfl rfl fun D ρ w hs=>Qad (V:=.bool ((decide (o.item=0))&&(decide (o.qty=0)))) rfl ⟨rfl,hs⟩
      rintro ρ1 w9 ρ2 hρ hs
      replace hρ:ρ2=upd (mix [20,21,22,23,24,25,26,27,2] ρ1 _) 2 (.bool ((decide (o.item=0))&&(decide (o.qty=0)))):=hρ
      subst hρ
      refine Qas ?_
      refine ⟨_,Qao (V:=.bool ((decide (o.item=0))&&(decide (o.qty=0)))) Tryz.results103 rfl,?_⟩
      refine ⟨congrArg Ending.returned ?_,hs.take 0⟩
      refine congrArg Value.bool ?_
      unfold Qb1
      have ⟨_,_,_,_,⟨hq1,hq2⟩,_,_⟩:=ho
      simp_all
      try omega
     ·
      replace c8:=QQ2 c8
      refine Qan (Qag (Qab (Qaa (Qad (V:=.bool false) rfl (Qae (Qas ?_))))))
      refine ⟨_,Qao (V:=.bool false) Tryz.results103 rfl,?_⟩
      refine ⟨congrArg Ending.returned ?_,hs.take 0⟩
      refine congrArg Value.bool ?_
      unfold Qb1
      have ⟨_,_,_,_,⟨hq1,hq2⟩,_,_⟩:=ho
      simp_all
      try omega
theorem Qnv (w:World) (o:Opn) (ho:QbH o):Calls Tryz.prog 109 #[.agg (oc o).toArray] w (fun e w'=>e = .returned (.bool (Qb1 o))∧Own w no w' []):=by
 refine Qai (n:=28) Tryz.func109 rfl Tryz.ntmps109 rfl ?_
 have hs:=Own.start w
 refine Qag (Qab (Qaa (Qa9 (V:=.agg (oc o).toArray) (cs:=oc o) rfl rfl hs fun b1 w2 hs=>(Qaa (Qad (V:=.bool false) rfl (Qae (Qag (Qag (Qab (Qaa (Qaf Qbt rfl (Qaa (QaK (V:=.int .u8 o.kind) QcF hs 0 rfl rfl rfl (Qae (Qak (Qag (Qab (Qaa (QaM rfl rfl (Qaa (Qad (V:=.bool (decide (o.kind=1))) rfl (Qae (Qal (t:=decide (o.kind=1)) rfl (fun c3=>?_) (fun c3=>?_))))))))))))))))))))))))
 ·
  replace c3:=QQ1 c3
  refine Qag (Qab (Qaa (Qaf Qcu rfl (Qaa (QaK (V:=I7 o.qty) Qap hs 0 rfl rfl rfl (Qaa (QcN rfl rfl (Qaa (Qad (V:=.bool (decide (1≤o.qty))) rfl (Qae (Qas ?_)))))))))))
  refine ⟨_,Qao (V:=.bool (decide (1≤o.qty))) Tryz.results109 rfl,?_⟩
  refine ⟨congrArg Ending.returned ?_,hs.take 0⟩
  refine congrArg Value.bool ?_
  unfold Qb1
  have ⟨_,_,_,_,⟨hq1,hq2⟩,_,_⟩:=ho
  simp_all
  try omega
 ·
  replace c3:=QQ2 c3
  refine Qag (Qab (Qaa (QaM rfl rfl (Qaa (Qad (V:=.bool (decide (o.kind=2))) rfl (Qae (Qal (t:=decide (o.kind=2)) rfl (fun c4=>?_) (fun c4=>?_))))))))
  ·
   replace c4:=QQ1 c4
   refine Qag (Qab (Qaa (Qad (V:=.bool true) rfl (Qae (Qas ?_)))))
   refine ⟨_,Qao (V:=.bool true) Tryz.results109 rfl,?_⟩
   refine ⟨congrArg Ending.returned ?_,hs.take 0⟩
   refine congrArg Value.bool ?_
   unfold Qb1
   have ⟨_,_,_,_,⟨hq1,hq2⟩,_,_⟩:=ho
   simp_all
   try omega
  ·
   replace c4:=QQ2 c4
   refine Qag (Qab (Qaa (QaM rfl rfl (Qaa (Qad (V:=.bool (decide (o.kind=3))) rfl (Qae (Qal (t:=decide (o.kind=3)) rfl (fun c5=>?_) (fun c5=>?_))))))))
   ·
    replace c5:=QQ1 c5
    refine Qag (Qab (Qaa (Qaf Qcu rfl (Qaa (QaK (V:=I7 o.qty) Qap hs 0 rfl rfl rfl (Qaa (QaM rfl rfl (Qaa (Qad (V:=.bool (decide (o.qty=0))) rfl (Qae (Qas ?_)))))))))))
    refine ⟨_,Qao (V:=.bool (decide (o.qty=0))) Tryz.results109 rfl,?_⟩
    refine ⟨congrArg Ending.returned ?_,hs.take 0⟩
    refine congrArg Value.bool ?_
    unfold Qb1
    have ⟨_,_,_,_,⟨hq1,hq2⟩,_,_⟩:=ho
    simp_all
    try omega
   ·
    replace c5:=QQ2 c5
    refine Qag (Qag (Qab (Qaa (QaM rfl rfl (Qaa (Qad (V:=.bool (decide (o.kind=4))) rfl (Qae (Qal (t:=decide (o.kind=4)) rfl (fun c6=>?_) (fun c6=>?_)))))))))
    ·
     replace c6:=QQ1 c6
     refine Qan (Qc6 (congrArg Value.bool (QQ3 c6)) ?_)
     refine Qag (Qbi [some 20,some 21,some 22,some 23,some 24,some 25,some 26,some 27,some 2] [] [0,1,3,7,15,31,63,127,255] [pv (Pt b1 (0+4)),pv (I7 o.item),pv (.bool (decide (o.item=0))),pv (.bool (decide (o.item=0))),pg ((decide (o.item=0)) == true) (Pt b1 (0+5)),pg ((decide (o.item=0)) == true) (I7 o.qty),pg ((decide (o.item=0)) == true) (.bool (decide (o.qty=0))),pv (.bool ((decide (o.item=0))&&(decide (o.qty=0)))),pv (.bool ((decide (o.item=0))&&(decide (o.qty=0))))] (fun _ _=>_) [8] (by kernel_rfl) hs ⟨?_,?_,?_,?_,?_,?_,?_,?_,?_,trivial⟩ ?_)
     ·exact ob [] [] rfl rfl fun D ρ w hs=>Qaf Qcc rfl ⟨rfl,hs⟩
     ·exact ob [0] [] rfl rfl fun D ρ w hs=>QaK (V:=I7 o.item) Qap hs 0 rfl rfl rfl ⟨rfl,hs⟩
     ·exact ob [1] [] rfl rfl fun D ρ w hs=>QaM rfl rfl ⟨rfl,hs⟩
     ·exact ob [2] [] rfl rfl fun D ρ w hs=>Qac (V:=.bool (decide (o.item=0))) rfl ⟨rfl,hs⟩
     ·exact obg [3] [] (decide (o.item=0)) rfl (fun _=>rfl) rfl (fun _ _ _ _ h=>h) fun D ρ w hG hs=>Qaf Qcu rfl ⟨rfl,hs⟩
     ·exact obgy [3,4] [] [4] (decide (o.item=0)) rfl (fun _=>rfl) rfl (fun _ _ _ _ h=>h) (fun hG=>⟨hG,trivial⟩) fun D ρ w hG hs=>QaK (V:=I7 o.qty) Qap hs 0 rfl rfl rfl ⟨rfl,hs⟩
     ·exact obgy [3,5] [] [5] (decide (o.item=0)) rfl (fun _=>rfl) rfl (fun _ _ _ _ h=>h) (fun hG=>⟨hG,trivial⟩) fun D ρ w hG hs=>QaM rfl rfl ⟨rfl,hs⟩
     ·exact ob [3,6] [] rfl rfl fun D ρ w hs=>Qa3 (h':=decide (o.qty=0)) rfl rfl rfl ⟨rfl,hs⟩
     ·exact ob [7] [] rfl rfl fun D ρ w hs=>Qad (V:=.bool ((decide (o.item=0))&&(decide (o.qty=0)))) rfl ⟨rfl,hs⟩
     rintro ρ1 w7 ρ2 hρ hs
     replace hρ:ρ2=upd (mix [20,21,22,23,24,25,26,27,2] ρ1 _) 2 (.bool ((decide (o.item=0))&&(decide (o.qty=0)))):=hρ
     subst hρ
     refine Qas ?_
     refine ⟨_,Qao (V:=.bool ((decide (o.item=0))&&(decide (o.qty=0)))) Tryz.results109 rfl,?_⟩
     refine ⟨congrArg Ending.returned ?_,hs.take 0⟩
     refine congrArg Value.bool ?_
     unfold Qb1
     have ⟨_,_,_,_,⟨hq1,hq2⟩,_,_⟩:=ho
     simp_all
     try omega
    ·
     replace c6:=QQ2 c6
     refine Qab (Qaa (QaM rfl rfl (Qaa (Qad (V:=.bool (decide (o.kind=5))) rfl (Qae (Qal (t:=decide (o.kind=5)) rfl (fun c8=>?_) (fun c8=>?_)))))))
     ·
      replace c8:=QQ1 c8
      refine Qag (Qbi [some 20,some 21,some 22,some 23,some 24,some 25,some 26,some 27,some 2] [] [0,1,3,7,15,31,63,127,255] [pv (Pt b1 (0+4)),pv (I7 o.item),pv (.bool (decide (o.item=0))),pv (.bool (decide (o.item=0))),pg ((decide (o.item=0)) == true) (Pt b1 (0+5)),pg ((decide (o.item=0)) == true) (I7 o.qty),pg ((decide (o.item=0)) == true) (.bool (decide (o.qty=0))),pv (.bool ((decide (o.item=0))&&(decide (o.qty=0)))),pv (.bool ((decide (o.item=0))&&(decide (o.qty=0))))] (fun _ _=>_) [8] (by kernel_rfl) hs ⟨?_,?_,?_,?_,?_,?_,?_,?_,?_,trivial⟩ ?_)
      ·exact ob [] [] rfl rfl fun D ρ w hs=>Qaf Qcc rfl ⟨rfl,hs⟩
      ·exact ob [0] [] rfl rfl fun D ρ w hs=>QaK (V:=I7 o.item) Qap hs 0 rfl rfl rfl ⟨rfl,hs⟩
      ·exact ob [1] [] rfl rfl fun D ρ w hs=>QaM rfl rfl ⟨rfl,hs⟩
      ·exact ob [2] [] rfl rfl fun D ρ w hs=>Qac (V:=.bool (decide (o.item=0))) rfl ⟨rfl,hs⟩
      ·exact obg [3] [] (decide (o.item=0)) rfl (fun _=>rfl) rfl (fun _ _ _ _ h=>h) fun D ρ w hG hs=>Qaf Qcu rfl ⟨rfl,hs⟩
      ·exact obgy [3,4] [] [4] (decide (o.item=0)) rfl (fun _=>rfl) rfl (fun _ _ _ _ h=>h) (fun hG=>⟨hG,trivial⟩) fun D ρ w hG hs=>QaK (V:=I7 o.qty) Qap hs 0 rfl rfl rfl ⟨rfl,hs⟩
      ·exact obgy [3,5] [] [5] (decide (o.item=0)) rfl (fun _=>rfl) rfl (fun _ _ _ _ h=>h) (fun hG=>⟨hG,trivial⟩) fun D ρ w hG hs=>QaM rfl rfl ⟨rfl,hs⟩
      ·exact ob [3,6] [] rfl rfl fun D ρ w hs=>Qa3 (h':=decide (o.qty=0)) rfl rfl rfl ⟨rfl,hs⟩
      ·exact ob [7] [] rfl rfl fun D ρ w hs=>Qad (V:=.bool ((decide (o.item=0))&&(decide (o.qty=0)))) rfl ⟨rfl,hs⟩
      rintro ρ1 w9 ρ2 hρ hs
      replace hρ:ρ2=upd (mix [20,21,22,23,24,25,26,27,2] ρ1 _) 2 (.bool ((decide (o.item=0))&&(decide (o.qty=0)))):=hρ
      subst hρ
      refine Qas ?_
      refine ⟨_,Qao (V:=.bool ((decide (o.item=0))&&(decide (o.qty=0)))) Tryz.results109 rfl,?_⟩
      refine ⟨congrArg Ending.returned ?_,hs.take 0⟩
      refine congrArg Value.bool ?_
      unfold Qb1
      have ⟨_,_,_,_,⟨hq1,hq2⟩,_,_⟩:=ho
      simp_all
      try omega
     ·
      replace c8:=QQ2 c8
      refine Qan (Qag (Qab (Qaa (Qad (V:=.bool false) rfl (Qae (Qas ?_))))))
      refine ⟨_,Qao (V:=.bool false) Tryz.results109 rfl,?_⟩
      refine ⟨congrArg Ending.returned ?_,hs.take 0⟩
      refine congrArg Value.bool ?_
      unfold Qb1
      have ⟨_,_,_,_,⟨hq1,hq2⟩,_,_⟩:=ho
      simp_all
      try omega
theorem Qmf (w:World) (o:Opn) (n:Int) (hO:QbH o):Calls Tryz.prog 69 #[.agg (oc o).toArray,.int .i64 n] w (fun e w'=>e = .returned (.bool (Qb2 o n))∧Own w no w' []):=by
 refine Qai (n:=50) Tryz.func69 rfl Tryz.ntmps69 rfl ?_
 have hs:=Own.start w
 have ⟨⟨⟨hr1,hr2⟩,hr3,hr4⟩,_,_,_,⟨hq1,hq2⟩,_,hctx⟩:=hO
 refine Qag (Qab (Qaa (Qa9 (V:=.agg (oc o).toArray) (cs:=oc o) rfl rfl hs fun b1 w2 hs=>(Qaa (Qad (V:=.bool false) rfl (Qae (Qag (Qag (Qbi [some 6,some 7,some 8,some 9,some 10,some 11,some 12,some 13,some 14,some 15,some 16,some 17,some 18,some 19,some 20,some 21,some 22,some 23,some 24,some 25,some 26,some 27,some 28] [] [0,1,0,7,15,31,63,127,255,511,63,2047,4095,8191,16383,32767,65535,131071,262143,524287,1048575,2097151,4194303] [pv (Pt b1 (0+7)),pv (.agg (vc o.ctx).toArray),pv (I6 n),pv (.bool (QaH o.ctx n)),pv (.bool (!(QaH o.ctx n))),pv (.bool (!(QaH o.ctx n))),pg ((!(QaH o.ctx n)) == false) (Pt b1 (0+0)),pg ((!(QaH o.ctx n)) == false) (Pt b1 (0+0+0)),pg ((!(QaH o.ctx n)) == false) (.int .u8 o.dot.rep),pg ((!(QaH o.ctx n)) == false) (I6 o.dot.rep),pg ((!(QaH o.ctx n)) == false) (I6 n),pg ((!(QaH o.ctx n)) == false) (.bool (decide (n≤o.dot.rep))),pv (.bool ((!(QaH o.ctx n))||(decide (n≤o.dot.rep)))),pv (.bool ((!(QaH o.ctx n))||(decide (n≤o.dot.rep)))),pg (((!(QaH o.ctx n))||(decide (n≤o.dot.rep))) == false) (Pt b1 (0+6)),pg (((!(QaH o.ctx n))||(decide (n≤o.dot.rep))) == false) (.int .u32 o.tick),pg (((!(QaH o.ctx n))||(decide (n≤o.dot.rep))) == false) (.bool (decide (1073741824<o.tick))),pv (.bool (((!(QaH o.ctx n))||(decide (n≤o.dot.rep)))||(decide (1073741824<o.tick)))),pv (.bool (((!(QaH o.ctx n))||(decide (n≤o.dot.rep)))||(decide (1073741824<o.tick)))),pg ((((!(QaH o.ctx n))||(decide (n≤o.dot.rep)))||(decide (1073741824<o.tick))) == false) (.agg (oc o).toArray),pg ((((!(QaH o.ctx n))||(decide (n≤o.dot.rep)))||(decide (1073741824<o.tick))) == false) (.bool (Qb1 o)),pg ((((!(QaH o.ctx n))||(decide (n≤o.dot.rep)))||(decide (1073741824<o.tick))) == false) (.bool (!(Qb1 o))),pv (.bool ((((!(QaH o.ctx n))||(decide (n≤o.dot.rep)))||(decide (1073741824<o.tick)))||(!(Qb1 o))))] (fun _ _=>_) [22] (by kernel_rfl) hs ⟨?_,?_,?_,?_,?_,?_,?_,?_,?_,?_,?_,?_,?_,?_,?_,?_,?_,?_,?_,?_,?_,?_,?_,trivial⟩ ?_)))))))))
 ·exact ob [] [] rfl rfl fun D ρ w hs=>Qaf Qcn rfl ⟨rfl,hs⟩
 ·exact ob [0] [] rfl rfl fun D ρ w hs=>QbO (vs:=vc o.ctx) QbT hs 0 rfl rfl rfl rfl ⟨rfl,hs⟩
 ·exact ob [] [] rfl rfl fun D ρ w hs=>Qac (V:=I6 n) rfl ⟨rfl,hs⟩
 ·exact ob [1,2] [] rfl rfl fun D ρ w hs=>Qar (vs:=[.agg (vc o.ctx).toArray,I6 n]) (V:=.bool (QaH o.ctx n)) QsG rfl rfl (QhE _ o.ctx n (by first|assumption|exact QcG)) hs fun _ hs=>⟨rfl,hs⟩
 ·exact ob [3] [] rfl rfl fun D ρ w hs=>Qbw rfl ⟨rfl,hs⟩
 ·exact ob [4] [] rfl rfl fun D ρ w hs=>Qac (V:=.bool (!(QaH o.ctx n))) rfl ⟨rfl,hs⟩
 ·exact obg [5] [] (!(QaH o.ctx n)) rfl (fun _=>rfl) rfl (fun _ _ _ _ h=>h) fun D ρ w hG hs=>Qaf Qbg rfl ⟨rfl,hs⟩
 ·exact obgy [5,6] [] [6] (!(QaH o.ctx n)) rfl (fun _=>rfl) rfl (fun _ _ _ _ h=>h) (fun hG=>⟨hG,trivial⟩) fun D ρ w hG hs=>Qaf QbK rfl ⟨rfl,hs⟩
 ·exact obgy [5,7] [] [7] (!(QaH o.ctx n)) rfl (fun _=>rfl) rfl (fun _ _ _ _ h=>h) (fun hG=>⟨hG,trivial⟩) fun D ρ w hG hs=>QaK (V:=.int .u8 o.dot.rep) QcF hs 0 rfl rfl rfl ⟨rfl,hs⟩
 ·exact obgy [5,8] [] [8] (!(QaH o.ctx n)) rfl (fun _=>rfl) rfl (fun _ _ _ _ h=>h) (fun hG=>⟨hG,trivial⟩) fun D ρ w hG hs=>QbD QtS QfC rfl (Qbh (by omega) (by omega)) ⟨rfl,hs⟩
 ·exact obg [5] [] (!(QaH o.ctx n)) rfl (fun _=>rfl) rfl (fun _ _ _ _ h=>h) fun D ρ w hG hs=>Qac (V:=I6 n) rfl ⟨rfl,hs⟩
 ·exact obgy [5,9,10] [] [9,10] (!(QaH o.ctx n)) rfl (fun _=>rfl) rfl (fun _ _ _ _ h=>h) (fun hG=>⟨hG,hG,trivial⟩) fun D ρ w hG hs=>QcN rfl rfl ⟨rfl,hs⟩
 ·exact ob [5,11] [] rfl rfl fun D ρ w hs=>QbS (h':=decide (n≤o.dot.rep)) rfl rfl rfl ⟨rfl,hs⟩
 ·exact ob [12] [] rfl rfl fun D ρ w hs=>Qac (V:=.bool ((!(QaH o.ctx n))||(decide (n≤o.dot.rep)))) rfl ⟨rfl,hs⟩
 ·exact obg [13] [] ((!(QaH o.ctx n))||(decide (n≤o.dot.rep))) rfl (fun _=>rfl) rfl (fun _ _ _ _ h=>h) fun D ρ w hG hs=>Qaf Qf0 rfl ⟨rfl,hs⟩
 ·exact obgy [13,14] [] [14] ((!(QaH o.ctx n))||(decide (n≤o.dot.rep))) rfl (fun _=>rfl) rfl (fun _ _ _ _ h=>h) (fun hG=>⟨hG,trivial⟩) fun D ρ w hG hs=>QaK (V:=.int .u32 o.tick) Qa7 hs 0 rfl rfl rfl ⟨rfl,hs⟩
 ·exact obgy [13,15] [] [15] ((!(QaH o.ctx n))||(decide (n≤o.dot.rep))) rfl (fun _=>rfl) rfl (fun _ _ _ _ h=>h) (fun hG=>⟨hG,trivial⟩) fun D ρ w hG hs=>Qcb rfl rfl ⟨rfl,hs⟩
 ·exact ob [13,16] [] rfl rfl fun D ρ w hs=>QbS (h':=decide (1073741824<o.tick)) rfl rfl rfl ⟨rfl,hs⟩
 ·exact ob [17] [] rfl rfl fun D ρ w hs=>Qac (V:=.bool (((!(QaH o.ctx n))||(decide (n≤o.dot.rep)))||(decide (1073741824<o.tick)))) rfl ⟨rfl,hs⟩
 ·exact obg [18] [] (((!(QaH o.ctx n))||(decide (n≤o.dot.rep)))||(decide (1073741824<o.tick))) rfl (fun _=>rfl) rfl (fun _ _ _ _ h=>h) fun D ρ w hG hs=>QaR (cs:=oc o) Qa0 hs 0 rfl rfl rfl ⟨rfl,hs⟩
 ·exact obgy [18,19] [] [19] (((!(QaH o.ctx n))||(decide (n≤o.dot.rep)))||(decide (1073741824<o.tick))) rfl (fun _=>rfl) rfl (fun _ _ _ _ h=>h) (fun hG=>⟨hG,trivial⟩) fun D ρ w hG hs=>Qar (vs:=[.agg (oc o).toArray]) (V:=.bool (Qb1 o)) QsF rfl rfl (Qn5 _ o (by assumption)) hs fun _ hs=>⟨rfl,hs⟩
 ·exact obgy [18,20] [] [20] (((!(QaH o.ctx n))||(decide (n≤o.dot.rep)))||(decide (1073741824<o.tick))) rfl (fun _=>rfl) rfl (fun _ _ _ _ h=>h) (fun hG=>⟨hG,trivial⟩) fun D ρ w hG hs=>Qbw rfl ⟨rfl,hs⟩
 ·exact ob [18,21] [] rfl rfl fun D ρ w hs=>QbS (h':=!(Qb1 o)) rfl rfl rfl ⟨rfl,hs⟩
 rintro ρ1 w5 ρ2 hρ hs
 replace hρ:ρ2=upd (mix [6,7,8,9,10,11,12,13,14,15,16,17,18,19,20,21,22,23,24,25,26,27,28] ρ1 _) 28 (.bool ((((!(QaH o.ctx n))||(decide (n≤o.dot.rep)))||(decide (1073741824<o.tick)))||(!(Qb1 o)))):=hρ
 subst hρ
 refine Qal (t:=(((!(QaH o.ctx n))||(decide (n≤o.dot.rep)))||(decide (1073741824<o.tick)))||(!(Qb1 o))) rfl (fun c6=>?_) (fun c6=>?_)
 ·
  refine Qag (Qab (Qaa (Qad (V:=.bool false) rfl (Qae (Qas ?_)))))
  refine ⟨_,Qao (V:=.bool false) Tryz.results69 rfl,?_⟩
  refine ⟨congrArg Ending.returned ?_,hs.take 0⟩
  exact congrArg Value.bool (QnL c6).symm
 ·
  have c6r:=Qfo c6
  replace c6:=Qfl c6
  have c6rr:=Qfo c6
  replace c6:=Qfl c6
  have c6rrr:=Qfo c6
  replace c6:=Qfl c6
  replace c6:=Qbr c6
  replace c6rrr:=QQ2 c6rrr
  replace c6rr:=QQ2 c6rr
  replace c6r:=Qbr c6r
  refine Qan (Qag (Qab (Qaa (Qaf Qbg rfl (Qaa (QbO (vs:=dc o.dot) Qcv hs 0 rfl rfl rfl rfl (Qaa (QaJ (cs:=dc (⟨0,0⟩:Dot)) QtX rfl hs fun b7 w8 hs=>(Qaa (QcC (V:=.agg (dc o.dot).toArray) (vs:=dc o.dot) (cs':=dc o.dot) Qcv.1 hs 1 rfl rfl rfl rfl rfl (QQ8 rfl) (QsL _) (Qaw rfl) fun w9 hs=>(Qae (Qag ?_))))))))))))
  have hnn:=Qg8 c6
  refine QaC HM [some 31,some 32,some 33,some 34,some 35,some 36,some 37,some 38,some 39,some 40,some 41,some 42,some 43,some 44,some 45,some 46,some 47,some 48,some 49,some 4] [] [0,1,3,7,15,31,63,127,255,511,1023,511,4095,8191,511,16895,49663,131071,262143,524287] [pv (Pt b7 (0+1)),pv (.int .u32 o.dot.seq),pv (.bool (decide (1≤o.dot.seq))),pv (.bool (decide (1≤o.dot.seq))),pg ((decide (1≤o.dot.seq)) == true) (Pt b7 (0+1)),pg ((decide (1≤o.dot.seq)) == true) (.int .u32 o.dot.seq),pg ((decide (1≤o.dot.seq)) == true) (.bool (decide (o.dot.seq≤1048576))),pv (.bool ((decide (1≤o.dot.seq))&&(decide (o.dot.seq≤1048576)))),pv (.bool ((decide (1≤o.dot.seq))&&(decide (o.dot.seq≤1048576)))),pg (((decide (1≤o.dot.seq))&&(decide (o.dot.seq≤1048576))) == true) (Pt b7 (0+0)),pg (((decide (1≤o.dot.seq))&&(decide (o.dot.seq≤1048576))) == true) (.int .u8 o.dot.rep),pg (((decide (1≤o.dot.seq))&&(decide (o.dot.seq≤1048576))) == true) (Pt b1 (0+7)),pg (((decide (1≤o.dot.seq))&&(decide (o.dot.seq≤1048576))) == true) (.pointer (some ⟨b1,0+7+o.dot.rep.toNat,none⟩)),pg (((decide (1≤o.dot.seq))&&(decide (o.dot.seq≤1048576))) == true) (.int .u32 (vat o.ctx o.dot.rep.toNat)),pg (((decide (1≤o.dot.seq))&&(decide (o.dot.seq≤1048576))) == true) (Pt b7 (0+1)),pg (((decide (1≤o.dot.seq))&&(decide (o.dot.seq≤1048576))) == true) (.int .u32 o.dot.seq),pg (((decide (1≤o.dot.seq))&&(decide (o.dot.seq≤1048576))) == true) (.int .u32 (o.dot.seq-1)),pg (((decide (1≤o.dot.seq))&&(decide (o.dot.seq≤1048576))) == true) (.bool (decide (vat o.ctx o.dot.rep.toNat=o.dot.seq-1))),pv (.bool (((decide (1≤o.dot.seq))&&(decide (o.dot.seq≤1048576)))&&(decide (vat o.ctx o.dot.rep.toNat=o.dot.seq-1)))),pv (.bool (((decide (1≤o.dot.seq))&&(decide (o.dot.seq≤1048576)))&&(decide (vat o.ctx o.dot.rep.toNat=o.dot.seq-1))))] (fun _ _=>_) [19] (by kernel_rfl) hs ⟨?_,?_,?_,?_,?_,?_,?_,?_,?_,?_,?_,?_,?_,?_,?_,?_,?_,?_,?_,?_,trivial⟩ ?_
  ·exact ob [] [] rfl rfl fun D ρ w hs=>Qaf QbN rfl ⟨rfl,hs⟩
  ·exact ob [0] [] rfl rfl fun D ρ w hs=>QaK (V:=.int .u32 o.dot.seq) Qa7 hs 1 rfl rfl rfl ⟨rfl,hs⟩
  ·exact ob [1] [] rfl rfl fun D ρ w hs=>QcN rfl rfl ⟨rfl,hs⟩
  ·exact ob [2] [] rfl rfl fun D ρ w hs=>Qac (V:=.bool (decide (1≤o.dot.seq))) rfl ⟨rfl,hs⟩
  ·exact obg [3] [] (decide (1≤o.dot.seq)) rfl (fun _=>rfl) rfl (fun _ _ _ _ h=>h) fun D ρ w hG hs=>Qaf QbN rfl ⟨rfl,hs⟩
  ·exact obgy [3,4] [] [4] (decide (1≤o.dot.seq)) rfl (fun _=>rfl) rfl (fun _ _ _ _ h=>h) (fun hG=>⟨hG,trivial⟩) fun D ρ w hG hs=>QaK (V:=.int .u32 o.dot.seq) Qa7 hs 1 rfl rfl rfl ⟨rfl,hs⟩
  ·exact obgy [3,5] [] [5] (decide (1≤o.dot.seq)) rfl (fun _=>rfl) rfl (fun _ _ _ _ h=>h) (fun hG=>⟨hG,trivial⟩) fun D ρ w hG hs=>Qd9 rfl rfl ⟨rfl,hs⟩
  ·exact ob [3,6] [] rfl rfl fun D ρ w hs=>Qa3 (h':=decide (o.dot.seq≤1048576)) rfl rfl rfl ⟨rfl,hs⟩
  ·exact ob [7] [] rfl rfl fun D ρ w hs=>Qac (V:=.bool ((decide (1≤o.dot.seq))&&(decide (o.dot.seq≤1048576)))) rfl ⟨rfl,hs⟩
  ·refine obg [8] [] ((decide (1≤o.dot.seq))&&(decide (o.dot.seq≤1048576))) rfl (fun _=>rfl) rfl (fun _ _ _ _ h=>h) fun D ρ w hG hs=>?_
   have hg9:=QbQ (eq_of_beq hG)
   have hgd:=QQ1 hg9
   exact Qaf QbK rfl ⟨rfl,hs⟩
  ·refine obgy [8,9] [] [9] ((decide (1≤o.dot.seq))&&(decide (o.dot.seq≤1048576))) rfl (fun _=>rfl) rfl (fun _ _ _ _ h=>h) (fun hG=>⟨hG,trivial⟩) fun D ρ w hG hs=>?_
   have hg9:=QbQ (eq_of_beq hG)
   have hgd:=QQ1 hg9
   exact QaK (V:=.int .u8 o.dot.rep) QcF hs 1 rfl rfl rfl ⟨rfl,hs⟩
  ·refine obg [8] [] ((decide (1≤o.dot.seq))&&(decide (o.dot.seq≤1048576))) rfl (fun _=>rfl) rfl (fun _ _ _ _ h=>h) fun D ρ w hG hs=>?_
   have hg9:=QbQ (eq_of_beq hG)
   have hgd:=QQ1 hg9
   exact Qaf Qcn rfl ⟨rfl,hs⟩
  ·refine obgy [8,10,11] [] [10,11] ((decide (1≤o.dot.seq))&&(decide (o.dot.seq≤1048576))) rfl (fun _=>rfl) rfl (fun _ _ _ _ h=>h) (fun hG=>⟨hG,hG,trivial⟩) fun D ρ w hG hs=>?_
   have hg9:=QbQ (eq_of_beq hG)
   have hgd:=QQ1 hg9
   exact QbZ Qd5 Qa7.1 rfl rfl (by omega) (by omega) ⟨rfl,hs⟩
  ·refine obgy [8,12] [] [12] ((decide (1≤o.dot.seq))&&(decide (o.dot.seq≤1048576))) rfl (fun _=>rfl) rfl (fun _ _ _ _ h=>h) (fun hG=>⟨hG,trivial⟩) fun D ρ w hG hs=>?_
   have hg9:=QbQ (eq_of_beq hG)
   have hgd:=QQ1 hg9
   exact QaK (V:=.int .u32 (vat o.ctx o.dot.rep.toNat)) Qa7 hs 0 rfl rfl (QoY (by omega) (by omega)) ⟨rfl,hs⟩
  ·refine obg [8] [] ((decide (1≤o.dot.seq))&&(decide (o.dot.seq≤1048576))) rfl (fun _=>rfl) rfl (fun _ _ _ _ h=>h) fun D ρ w hG hs=>?_
   have hg9:=QbQ (eq_of_beq hG)
   have hgd:=QQ1 hg9
   exact Qaf QbN rfl ⟨rfl,hs⟩
  ·refine obgy [8,14] [] [14] ((decide (1≤o.dot.seq))&&(decide (o.dot.seq≤1048576))) rfl (fun _=>rfl) rfl (fun _ _ _ _ h=>h) (fun hG=>⟨hG,trivial⟩) fun D ρ w hG hs=>?_
   have hg9:=QbQ (eq_of_beq hG)
   have hgd:=QQ1 hg9
   exact QaK (V:=.int .u32 o.dot.seq) Qa7 hs 1 rfl rfl rfl ⟨rfl,hs⟩
  ·refine obgy [8,15] [] [15] ((decide (1≤o.dot.seq))&&(decide (o.dot.seq≤1048576))) rfl (fun _=>rfl) rfl (fun _ _ _ _ h=>h) (fun hG=>⟨hG,trivial⟩) fun D ρ w hG hs=>?_
   have hg9:=QbQ (eq_of_beq hG)
   have hgd:=QQ1 hg9
   exact Qa4 (a:=o.dot.seq) (b:=1) (c:=o.dot.seq-1) rfl rfl (QeO (by omega) (by omega)) ⟨rfl,hs⟩
  ·refine obgy [8,13,16] [] [13,16] ((decide (1≤o.dot.seq))&&(decide (o.dot.seq≤1048576))) rfl (fun _=>rfl) rfl (fun _ _ _ _ h=>h) (fun hG=>⟨hG,hG,trivial⟩) fun D ρ w hG hs=>?_
   have hg9:=QbQ (eq_of_beq hG)
   have hgd:=QQ1 hg9
   exact QaM rfl rfl ⟨rfl,hs⟩
  ·exact ob [8,17] [] rfl rfl fun D ρ w hs=>Qa3 (h':=decide (vat o.ctx o.dot.rep.toNat=o.dot.seq-1)) rfl rfl rfl ⟨rfl,hs⟩
  ·exact ob [18] [] rfl rfl fun D ρ w hs=>Qad (V:=.bool (((decide (1≤o.dot.seq))&&(decide (o.dot.seq≤1048576)))&&(decide (vat o.ctx o.dot.rep.toNat=o.dot.seq-1)))) rfl ⟨rfl,hs⟩
  rintro ρ1 w10 ρ2 hρ hs
  replace hρ:ρ2=upd (mix [31,32,33,34,35,36,37,38,39,40,41,42,43,44,45,46,47,48,49,4] ρ1 _) 4 (.bool (((decide (1≤o.dot.seq))&&(decide (o.dot.seq≤1048576)))&&(decide (vat o.ctx o.dot.rep.toNat=o.dot.seq-1)))):=hρ
  subst hρ
  refine Qas ?_
  refine ⟨_,Qao (V:=.bool (((decide (1≤o.dot.seq))&&(decide (o.dot.seq≤1048576)))&&(decide (vat o.ctx o.dot.rep.toNat=o.dot.seq-1)))) Tryz.results69 rfl,?_⟩
  refine ⟨congrArg Ending.returned ?_,hs.take 0⟩
  exact congrArg Value.bool (QnA c6 c6rrr c6rr c6r).symm
theorem Qkt (w:World) (o:Opn) (n:Int) (hO:QbH o):Calls Tryz.prog 81 #[.agg (oc o).toArray,.int .i64 n] w (fun e w'=>e = .returned (.bool (Qb2 o n))∧Own w no w' []):=by
 refine Qai (n:=52) Tryz.func81 rfl Tryz.ntmps81 rfl ?_
 have hs:=Own.start w
 have ⟨⟨⟨hr1,hr2⟩,hr3,hr4⟩,_,_,_,⟨hq1,hq2⟩,_,hctx⟩:=hO
 refine Qag (Qab (Qaa (Qa9 (V:=.agg (oc o).toArray) (cs:=oc o) rfl rfl hs fun b1 w2 hs=>(Qaa (Qad (V:=.bool false) rfl (Qae (Qag (Qag (Qbi [some 5,some 6,some 7,some 8,some 9,some 10,some 11,some 12,some 13,some 14,some 15,some 16,some 17,some 18,some 19,some 20,some 21,some 22,some 23,some 24,some 25,some 26,some 27,some 28,some 29,some 30,some 31] [] [0,1,3,7,15,31,63,127,255,511,1023,127,4095,8191,16383,32767,65535,131071,262143,524287,1048575,2097151,4194303,2097151,16777215,33554431,67108863] [pv (I6 n),pv (.bool (decide (n<1))),pv (.bool (decide (n<1))),pg ((decide (n<1)) == false) (I6 n),pg ((decide (n<1)) == false) (.bool (decide (16<n))),pv (.bool ((decide (n<1))||(decide (16<n)))),pv (.bool ((decide (n<1))||(decide (16<n)))),pg (((decide (n<1))||(decide (16<n))) == false) (Pt b1 (0+0)),pg (((decide (n<1))||(decide (16<n))) == false) (Pt b1 (0+0+0)),pg (((decide (n<1))||(decide (16<n))) == false) (.int .u8 o.dot.rep),pg (((decide (n<1))||(decide (16<n))) == false) (I6 o.dot.rep),pg (((decide (n<1))||(decide (16<n))) == false) (I6 n),pg (((decide (n<1))||(decide (16<n))) == false) (.bool (decide (n≤o.dot.rep))),pv (.bool (((decide (n<1))||(decide (16<n)))||(decide (n≤o.dot.rep)))),pv (.bool (((decide (n<1))||(decide (16<n)))||(decide (n≤o.dot.rep)))),pg ((((decide (n<1))||(decide (16<n)))||(decide (n≤o.dot.rep))) == false) (Pt b1 (0+0)),pg ((((decide (n<1))||(decide (16<n)))||(decide (n≤o.dot.rep))) == false) (.agg (dc o.dot).toArray),pg ((((decide (n<1))||(decide (16<n)))||(decide (n≤o.dot.rep))) == false) (.bool (Qbs o.dot)),pg ((((decide (n<1))||(decide (16<n)))||(decide (n≤o.dot.rep))) == false) (.bool (!(Qbs o.dot))),pv (.bool ((((decide (n<1))||(decide (16<n)))||(decide (n≤o.dot.rep)))||(!(Qbs o.dot)))),pv (.bool ((((decide (n<1))||(decide (16<n)))||(decide (n≤o.dot.rep)))||(!(Qbs o.dot)))),pg (((((decide (n<1))||(decide (16<n)))||(decide (n≤o.dot.rep)))||(!(Qbs o.dot))) == false) (Pt b1 (0+7)),pg (((((decide (n<1))||(decide (16<n)))||(decide (n≤o.dot.rep)))||(!(Qbs o.dot))) == false) (.agg (vc o.ctx).toArray),pg (((((decide (n<1))||(decide (16<n)))||(decide (n≤o.dot.rep)))||(!(Qbs o.dot))) == false) (I6 n),pg (((((decide (n<1))||(decide (16<n)))||(decide (n≤o.dot.rep)))||(!(Qbs o.dot))) == false) (.bool (QaH o.ctx n)),pg (((((decide (n<1))||(decide (16<n)))||(decide (n≤o.dot.rep)))||(!(Qbs o.dot))) == false) (.bool (!(QaH o.ctx n))),pv (.bool (((((decide (n<1))||(decide (16<n)))||(decide (n≤o.dot.rep)))||(!(Qbs o.dot)))||(!(QaH o.ctx n))))] (fun _ _=>_) [26] (by kernel_rfl) hs ⟨?_,?_,?_,?_,?_,?_,?_,?_,?_,?_,?_,?_,?_,?_,?_,?_,?_,?_,?_,?_,?_,?_,?_,?_,?_,?_,?_,trivial⟩ ?_)))))))))
 ·exact ob [] [] rfl rfl fun D ρ w hs=>Qac (V:=I6 n) rfl ⟨rfl,hs⟩
 ·exact ob [0] [] rfl rfl fun D ρ w hs=>QaP rfl rfl ⟨rfl,hs⟩
 ·exact ob [1] [] rfl rfl fun D ρ w hs=>Qac (V:=.bool (decide (n<1))) rfl ⟨rfl,hs⟩
 ·exact obg [2] [] (decide (n<1)) rfl (fun _=>rfl) rfl (fun _ _ _ _ h=>h) fun D ρ w hG hs=>Qac (V:=I6 n) rfl ⟨rfl,hs⟩
 ·exact obgy [2,3] [] [3] (decide (n<1)) rfl (fun _=>rfl) rfl (fun _ _ _ _ h=>h) (fun hG=>⟨hG,trivial⟩) fun D ρ w hG hs=>Qcb rfl rfl ⟨rfl,hs⟩
 ·exact ob [2,4] [] rfl rfl fun D ρ w hs=>QbS (h':=decide (16<n)) rfl rfl rfl ⟨rfl,hs⟩
 ·exact ob [5] [] rfl rfl fun D ρ w hs=>Qac (V:=.bool ((decide (n<1))||(decide (16<n)))) rfl ⟨rfl,hs⟩
 ·exact obg [6] [] ((decide (n<1))||(decide (16<n))) rfl (fun _=>rfl) rfl (fun _ _ _ _ h=>h) fun D ρ w hG hs=>Qaf Qbg rfl ⟨rfl,hs⟩
 ·exact obgy [6,7] [] [7] ((decide (n<1))||(decide (16<n))) rfl (fun _=>rfl) rfl (fun _ _ _ _ h=>h) (fun hG=>⟨hG,trivial⟩) fun D ρ w hG hs=>Qaf QbK rfl ⟨rfl,hs⟩
 ·exact obgy [6,8] [] [8] ((decide (n<1))||(decide (16<n))) rfl (fun _=>rfl) rfl (fun _ _ _ _ h=>h) (fun hG=>⟨hG,trivial⟩) fun D ρ w hG hs=>QaK (V:=.int .u8 o.dot.rep) QcF hs 0 rfl rfl rfl ⟨rfl,hs⟩
 ·exact obgy [6,9] [] [9] ((decide (n<1))||(decide (16<n))) rfl (fun _=>rfl) rfl (fun _ _ _ _ h=>h) (fun hG=>⟨hG,trivial⟩) fun D ρ w hG hs=>QbD QtS QfC rfl (Qbh (by omega) (by omega)) ⟨rfl,hs⟩
 ·exact obg [6] [] ((decide (n<1))||(decide (16<n))) rfl (fun _=>rfl) rfl (fun _ _ _ _ h=>h) fun D ρ w hG hs=>Qac (V:=I6 n) rfl ⟨rfl,hs⟩
 ·exact obgy [6,10,11] [] [10,11] ((decide (n<1))||(decide (16<n))) rfl (fun _=>rfl) rfl (fun _ _ _ _ h=>h) (fun hG=>⟨hG,hG,trivial⟩) fun D ρ w hG hs=>QcN rfl rfl ⟨rfl,hs⟩
 ·exact ob [6,12] [] rfl rfl fun D ρ w hs=>QbS (h':=decide (n≤o.dot.rep)) rfl rfl rfl ⟨rfl,hs⟩
 ·exact ob [13] [] rfl rfl fun D ρ w hs=>Qac (V:=.bool (((decide (n<1))||(decide (16<n)))||(decide (n≤o.dot.rep)))) rfl ⟨rfl,hs⟩
 ·exact obg [14] [] (((decide (n<1))||(decide (16<n)))||(decide (n≤o.dot.rep))) rfl (fun _=>rfl) rfl (fun _ _ _ _ h=>h) fun D ρ w hG hs=>Qaf Qbg rfl ⟨rfl,hs⟩
 ·exact obgy [14,15] [] [15] (((decide (n<1))||(decide (16<n)))||(decide (n≤o.dot.rep))) rfl (fun _=>rfl) rfl (fun _ _ _ _ h=>h) (fun hG=>⟨hG,trivial⟩) fun D ρ w hG hs=>QbO (vs:=dc o.dot) Qcv hs 0 rfl rfl rfl rfl ⟨rfl,hs⟩
 ·exact obgy [14,16] [] [16] (((decide (n<1))||(decide (16<n)))||(decide (n≤o.dot.rep))) rfl (fun _=>rfl) rfl (fun _ _ _ _ h=>h) (fun hG=>⟨hG,trivial⟩) fun D ρ w hG hs=>Qar (vs:=[.agg (dc o.dot).toArray]) (V:=.bool (Qbs o.dot)) Qqq rfl rfl (Qii _ o.dot) hs fun _ hs=>⟨rfl,hs⟩
 ·exact obgy [14,17] [] [17] (((decide (n<1))||(decide (16<n)))||(decide (n≤o.dot.rep))) rfl (fun _=>rfl) rfl (fun _ _ _ _ h=>h) (fun hG=>⟨hG,trivial⟩) fun D ρ w hG hs=>Qbw rfl ⟨rfl,hs⟩
 ·exact ob [14,18] [] rfl rfl fun D ρ w hs=>QbS (h':=!(Qbs o.dot)) rfl rfl rfl ⟨rfl,hs⟩
 ·exact ob [19] [] rfl rfl fun D ρ w hs=>Qac (V:=.bool ((((decide (n<1))||(decide (16<n)))||(decide (n≤o.dot.rep)))||(!(Qbs o.dot)))) rfl ⟨rfl,hs⟩
 ·exact obg [20] [] ((((decide (n<1))||(decide (16<n)))||(decide (n≤o.dot.rep)))||(!(Qbs o.dot))) rfl (fun _=>rfl) rfl (fun _ _ _ _ h=>h) fun D ρ w hG hs=>Qaf Qcn rfl ⟨rfl,hs⟩
 ·exact obgy [20,21] [] [21] ((((decide (n<1))||(decide (16<n)))||(decide (n≤o.dot.rep)))||(!(Qbs o.dot))) rfl (fun _=>rfl) rfl (fun _ _ _ _ h=>h) (fun hG=>⟨hG,trivial⟩) fun D ρ w hG hs=>QbO (vs:=vc o.ctx) QbT hs 0 rfl rfl rfl rfl ⟨rfl,hs⟩
 ·exact obg [20] [] ((((decide (n<1))||(decide (16<n)))||(decide (n≤o.dot.rep)))||(!(Qbs o.dot))) rfl (fun _=>rfl) rfl (fun _ _ _ _ h=>h) fun D ρ w hG hs=>Qac (V:=I6 n) rfl ⟨rfl,hs⟩
 ·exact obgy [20,22,23] [] [22,23] ((((decide (n<1))||(decide (16<n)))||(decide (n≤o.dot.rep)))||(!(Qbs o.dot))) rfl (fun _=>rfl) rfl (fun _ _ _ _ h=>h) (fun hG=>⟨hG,hG,trivial⟩) fun D ρ w hG hs=>Qar (vs:=[.agg (vc o.ctx).toArray,I6 n]) (V:=.bool (QaH o.ctx n)) Qs8 rfl rfl (Qlf _ o.ctx n (by first|assumption|exact QcG)) hs fun _ hs=>⟨rfl,hs⟩
 ·exact obgy [20,24] [] [24] ((((decide (n<1))||(decide (16<n)))||(decide (n≤o.dot.rep)))||(!(Qbs o.dot))) rfl (fun _=>rfl) rfl (fun _ _ _ _ h=>h) (fun hG=>⟨hG,trivial⟩) fun D ρ w hG hs=>Qbw rfl ⟨rfl,hs⟩
 ·exact ob [20,25] [] rfl rfl fun D ρ w hs=>QbS (h':=!(QaH o.ctx n)) rfl rfl rfl ⟨rfl,hs⟩
 rintro ρ1 w5 ρ2 hρ hs
 replace hρ:ρ2=upd (mix [5,6,7,8,9,10,11,12,13,14,15,16,17,18,19,20,21,22,23,24,25,26,27,28,29,30,31] ρ1 _) 31 (.bool (((((decide (n<1))||(decide (16<n)))||(decide (n≤o.dot.rep)))||(!(Qbs o.dot)))||(!(QaH o.ctx n)))):=hρ
 subst hρ
 refine Qal (t:=((((decide (n<1))||(decide (16<n)))||(decide (n≤o.dot.rep)))||(!(Qbs o.dot)))||(!(QaH o.ctx n))) rfl (fun c6=>?_) (fun c6=>?_)
 ·
  refine Qag (Qab (Qaa (Qad (V:=.bool false) rfl (Qae (Qas ?_)))))
  refine ⟨_,Qao (V:=.bool false) Tryz.results81 rfl,?_⟩
  refine ⟨congrArg Ending.returned ?_,hs.take 0⟩
  exact congrArg Value.bool (Qla c6).symm
 ·
  have c6r:=Qfo c6
  replace c6:=Qfl c6
  have c6rr:=Qfo c6
  replace c6:=Qfl c6
  have c6rrr:=Qfo c6
  replace c6:=Qfl c6
  have c6rrrr:=Qfo c6
  replace c6:=Qfl c6
  replace c6:=QQ2 c6
  replace c6rrrr:=QQ2 c6rrrr
  replace c6rrr:=QQ2 c6rrr
  replace c6rr:=Qbr c6rr
  replace c6r:=Qbr c6r
  refine Qan (Qag ?_)
  have hnn:=Qg8 c6r
  have hdd:=QaL c6rr
  refine QaC HM [some 32,some 33,some 34,some 35,some 36,some 37,some 38,some 39,some 40,some 41,some 42,some 43,some 44,some 45,some 46,some 47,some 48,some 49,some 50,some 51,some 4] [] [0,1,3,0,15,31,0,64,192,448,1023,2047,4095,8191,16383,32767,65535,131071,262143,524287,1048575] [pv (Pt b1 (0+0)),pv (Pt b1 (0+0+0)),pv (.int .u8 o.dot.rep),pv (Pt b1 (0+7)),pv (.pointer (some ⟨b1,0+7+o.dot.rep.toNat,none⟩)),pv (.int .u32 (vat o.ctx o.dot.rep.toNat)),pv (Pt b1 (0+0)),pv (Pt b1 (0+0+1)),pv (.int .u32 o.dot.seq),pv (.int .u32 (o.dot.seq-1)),pv (.bool (decide (vat o.ctx o.dot.rep.toNat=o.dot.seq-1))),pv (.bool (decide (vat o.ctx o.dot.rep.toNat=o.dot.seq-1))),pg ((decide (vat o.ctx o.dot.rep.toNat=o.dot.seq-1)) == true) (Pt b1 (0+6)),pg ((decide (vat o.ctx o.dot.rep.toNat=o.dot.seq-1)) == true) (.int .u32 o.tick),pg ((decide (vat o.ctx o.dot.rep.toNat=o.dot.seq-1)) == true) (.bool (decide (o.tick≤1073741824))),pv (.bool ((decide (vat o.ctx o.dot.rep.toNat=o.dot.seq-1))&&(decide (o.tick≤1073741824)))),pv (.bool ((decide (vat o.ctx o.dot.rep.toNat=o.dot.seq-1))&&(decide (o.tick≤1073741824)))),pg (((decide (vat o.ctx o.dot.rep.toNat=o.dot.seq-1))&&(decide (o.tick≤1073741824))) == true) (.agg (oc o).toArray),pg (((decide (vat o.ctx o.dot.rep.toNat=o.dot.seq-1))&&(decide (o.tick≤1073741824))) == true) (.bool (Qb1 o)),pv (.bool (((decide (vat o.ctx o.dot.rep.toNat=o.dot.seq-1))&&(decide (o.tick≤1073741824)))&&(Qb1 o))),pv (.bool (((decide (vat o.ctx o.dot.rep.toNat=o.dot.seq-1))&&(decide (o.tick≤1073741824)))&&(Qb1 o)))] (fun _ _=>_) [20] (by kernel_rfl) hs ⟨?_,?_,?_,?_,?_,?_,?_,?_,?_,?_,?_,?_,?_,?_,?_,?_,?_,?_,?_,?_,?_,trivial⟩ ?_
  ·exact ob [] [] rfl rfl fun D ρ w hs=>Qaf Qbg rfl ⟨rfl,hs⟩
  ·exact ob [0] [] rfl rfl fun D ρ w hs=>Qaf QbK rfl ⟨rfl,hs⟩
  ·exact ob [1] [] rfl rfl fun D ρ w hs=>QaK (V:=.int .u8 o.dot.rep) QcF hs 0 rfl rfl rfl ⟨rfl,hs⟩
  ·exact ob [] [] rfl rfl fun D ρ w hs=>Qaf Qcn rfl ⟨rfl,hs⟩
  ·exact ob [2,3] [] rfl rfl fun D ρ w hs=>QbZ Qd5 Qa7.1 rfl rfl (by omega) (by omega) ⟨rfl,hs⟩
  ·exact ob [4] [] rfl rfl fun D ρ w hs=>QaK (V:=.int .u32 (vat o.ctx o.dot.rep.toNat)) Qa7 hs 0 rfl rfl (QoY (by omega) (by omega)) ⟨rfl,hs⟩
  ·exact ob [] [] rfl rfl fun D ρ w hs=>Qaf Qbg rfl ⟨rfl,hs⟩
  ·exact ob [6] [] rfl rfl fun D ρ w hs=>Qaf QbN rfl ⟨rfl,hs⟩
  ·exact ob [7] [] rfl rfl fun D ρ w hs=>QaK (V:=.int .u32 o.dot.seq) Qa7 hs 0 rfl rfl rfl ⟨rfl,hs⟩
  ·exact ob [8] [] rfl rfl fun D ρ w hs=>Qa4 (a:=o.dot.seq) (b:=1) (c:=o.dot.seq-1) rfl rfl (QeO (by omega) (by omega)) ⟨rfl,hs⟩
  ·exact ob [5,9] [] rfl rfl fun D ρ w hs=>QaM rfl rfl ⟨rfl,hs⟩
  ·exact ob [10] [] rfl rfl fun D ρ w hs=>Qac (V:=.bool (decide (vat o.ctx o.dot.rep.toNat=o.dot.seq-1))) rfl ⟨rfl,hs⟩
  ·exact obg [11] [] (decide (vat o.ctx o.dot.rep.toNat=o.dot.seq-1)) rfl (fun _=>rfl) rfl (fun _ _ _ _ h=>h) fun D ρ w hG hs=>Qaf Qf0 rfl ⟨rfl,hs⟩
  ·exact obgy [11,12] [] [12] (decide (vat o.ctx o.dot.rep.toNat=o.dot.seq-1)) rfl (fun _=>rfl) rfl (fun _ _ _ _ h=>h) (fun hG=>⟨hG,trivial⟩) fun D ρ w hG hs=>QaK (V:=.int .u32 o.tick) Qa7 hs 0 rfl rfl rfl ⟨rfl,hs⟩
  ·exact obgy [11,13] [] [13] (decide (vat o.ctx o.dot.rep.toNat=o.dot.seq-1)) rfl (fun _=>rfl) rfl (fun _ _ _ _ h=>h) (fun hG=>⟨hG,trivial⟩) fun D ρ w hG hs=>Qd9 rfl rfl ⟨rfl,hs⟩
  ·exact ob [11,14] [] rfl rfl fun D ρ w hs=>Qa3 (h':=decide (o.tick≤1073741824)) rfl rfl rfl ⟨rfl,hs⟩
  ·exact ob [15] [] rfl rfl fun D ρ w hs=>Qac (V:=.bool ((decide (vat o.ctx o.dot.rep.toNat=o.dot.seq-1))&&(decide (o.tick≤1073741824)))) rfl ⟨rfl,hs⟩
  ·exact obg [16] [] ((decide (vat o.ctx o.dot.rep.toNat=o.dot.seq-1))&&(decide (o.tick≤1073741824))) rfl (fun _=>rfl) rfl (fun _ _ _ _ h=>h) fun D ρ w hG hs=>QaR (cs:=oc o) Qa0 hs 0 rfl rfl rfl ⟨rfl,hs⟩
  ·exact obgy [16,17] [] [17] ((decide (vat o.ctx o.dot.rep.toNat=o.dot.seq-1))&&(decide (o.tick≤1073741824))) rfl (fun _=>rfl) rfl (fun _ _ _ _ h=>h) (fun hG=>⟨hG,trivial⟩) fun D ρ w hG hs=>Qar (vs:=[.agg (oc o).toArray]) (V:=.bool (Qb1 o)) QrE rfl rfl (Qnv _ o (by assumption)) hs fun _ hs=>⟨rfl,hs⟩
  ·exact ob [16,18] [] rfl rfl fun D ρ w hs=>Qa3 (h':=Qb1 o) rfl rfl rfl ⟨rfl,hs⟩
  ·exact ob [19] [] rfl rfl fun D ρ w hs=>Qad (V:=.bool (((decide (vat o.ctx o.dot.rep.toNat=o.dot.seq-1))&&(decide (o.tick≤1073741824)))&&(Qb1 o))) rfl ⟨rfl,hs⟩
  rintro ρ1 w8 ρ2 hρ hs
  replace hρ:ρ2=upd (mix [32,33,34,35,36,37,38,39,40,41,42,43,44,45,46,47,48,49,50,51,4] ρ1 _) 4 (.bool (((decide (vat o.ctx o.dot.rep.toNat=o.dot.seq-1))&&(decide (o.tick≤1073741824)))&&(Qb1 o))):=hρ
  subst hρ
  refine Qas ?_
  refine ⟨_,Qao (V:=.bool (((decide (vat o.ctx o.dot.rep.toNat=o.dot.seq-1))&&(decide (o.tick≤1073741824)))&&(Qb1 o))) Tryz.results81 rfl,?_⟩
  refine ⟨congrArg Ending.returned ?_,hs.take 0⟩
  exact congrArg Value.bool (Qmy c6rrr c6rr c6r).symm
theorem QlS (w:World) (known:Vec) (o:Opn) (hO:QbH o):Calls Tryz.prog 27 #[.agg (vc known).toArray,.agg (oc o).toArray] w (fun e w'=>e = .returned (.int .i64 (QbE known o))∧Own w no w' []):=by
 refine Qai (n:=20) Tryz.func27 rfl Tryz.ntmps27 rfl ?_
 have hs:=Own.start w
 have hdo:=hO.1
 refine Qag (Qab (Qaa (Qa9 (V:=.agg (vc known).toArray) (cs:=vc known) rfl rfl hs fun b1 w2 hs=>(Qaa (Qa9 (V:=.agg (oc o).toArray) (cs:=oc o) rfl rfl hs fun b3 w4 hs=>(Qaa (Qad (V:=I6 0) rfl (Qae (Qag (Qak (Qag (Qab (Qaa (QaR (cs:=oc o) Qa0 hs 1 rfl rfl rfl (Qaa (Qar (vs:=[.agg (oc o).toArray,I6 16]) (V:=.bool (Qb2 o 16)) Qtj rfl rfl ?hc hs fun w5 hs=>?_))))))))))))))))
 case hc=>exact (Qmf _ o 16 (by assumption))
 refine Qaa (Qbw rfl (Qaa (Qad (V:=.bool (!(Qb2 o 16))) rfl (Qae (Qal (t:=!(Qb2 o 16)) rfl (fun c6=>?_) (fun c6=>?_))))))
 ·
  replace c6:=QbL c6
  refine Qag (Qab (Qaa (Qad (V:=I6 2) rfl (Qae (Qas ?_)))))
  refine ⟨_,Qao (V:=I6 2) Tryz.results27 rfl,?_⟩
  refine ⟨congrArg Ending.returned ?_,hs.take 0⟩
  refine congrArg (Value.int IntKind.i64) ?_
  unfold QbE
  rw [← Qcq]
  simp_all
 ·
  replace c6:=Qbr c6
  refine Qag (Qab (Qaa (QaR (cs:=vc known) QbT hs 0 rfl rfl rfl (Qaa (Qaf Qbg rfl (Qaa (QbO (vs:=dc o.dot) Qcv hs 1 rfl rfl rfl rfl (Qaa (Qar (vs:=[.agg (vc known).toArray,.agg (dc o.dot).toArray]) (V:=.bool (QbC known o.dot)) QmG rfl rfl ?hc hs fun w7 hs=>?_)))))))))
  case hc=>exact (Qgf _ known o.dot (by first|assumption|exact QcZ (by omega) (by omega) (by omega) (by omega)))
  refine Qaa (Qad (V:=.bool (QbC known o.dot)) rfl (Qae (Qal (t:=QbC known o.dot) rfl (fun c8=>?_) (fun c8=>?_))))
  ·
   refine Qag (Qab (Qaa (Qad (V:=I6 8) rfl (Qae (Qas ?_)))))
   refine ⟨_,Qao (V:=I6 8) Tryz.results27 rfl,?_⟩
   refine ⟨congrArg Ending.returned ?_,hs.take 0⟩
   refine congrArg (Value.int IntKind.i64) ?_
   unfold QbE
   rw [← Qcq]
   simp_all
  ·
   refine Qag (Qab (Qaa (Qaf Qcn rfl (Qaa (QbO (vs:=vc o.ctx) QbT hs 1 rfl rfl rfl rfl (Qaa (QaR (cs:=vc known) QbT hs 0 rfl rfl rfl (Qaa (Qar (vs:=[.agg (vc o.ctx).toArray,.agg (vc known).toArray]) (V:=.bool (vle o.ctx known)) Qtg rfl rfl ?hc hs fun w9 hs=>?_)))))))))
   case hc=>exact (QkK _ o.ctx known)
   refine Qaa (Qbw rfl (Qaa (Qad (V:=.bool (!(vle o.ctx known))) rfl (Qae (Qal (t:=!(vle o.ctx known)) rfl (fun c10=>?_) (fun c10=>?_))))))
   ·
    replace c10:=QbL c10
    refine Qag (Qab (Qaa (Qad (V:=I6 9) rfl (Qae (Qas ?_)))))
    refine ⟨_,Qao (V:=I6 9) Tryz.results27 rfl,?_⟩
    refine ⟨congrArg Ending.returned ?_,hs.take 0⟩
    refine congrArg (Value.int IntKind.i64) ?_
    unfold QbE
    rw [← Qcq]
    simp_all
   ·
    replace c10:=Qbr c10
    refine Qan (Qag (Qab (Qaa (Qad (V:=I6 0) rfl (Qae (Qas ?_))))))
    refine ⟨_,Qao (V:=I6 0) Tryz.results27 rfl,?_⟩
    refine ⟨congrArg Ending.returned ?_,hs.take 0⟩
    refine congrArg (Value.int IntKind.i64) ?_
    unfold QbE
    rw [← Qcq]
    simp_all
theorem QlY (w:World) (known:Vec) (o:Opn) (hO:QbH o):Calls Tryz.prog 38 #[.agg (vc known).toArray,.agg (oc o).toArray] w (fun e w'=>e = .returned (.int .i64 (QbE known o))∧Own w no w' []):=by
 refine Qai (n:=20) Tryz.func38 rfl Tryz.ntmps38 rfl ?_
 have hs:=Own.start w
 have hdo:=hO.1
 refine Qag (Qab (Qaa (Qa9 (V:=.agg (vc known).toArray) (cs:=vc known) rfl rfl hs fun b1 w2 hs=>(Qaa (Qa9 (V:=.agg (oc o).toArray) (cs:=oc o) rfl rfl hs fun b3 w4 hs=>(Qaa (Qad (V:=I6 0) rfl (Qae (Qag (Qak (Qag (Qab (Qaa (QaR (cs:=oc o) Qa0 hs 1 rfl rfl rfl (Qaa (Qar (vs:=[.agg (oc o).toArray,I6 16]) (V:=.bool (Qb2 o 16)) Qs3 rfl rfl ?hc hs fun w5 hs=>?_))))))))))))))))
 case hc=>exact (Qkt _ o 16 (by assumption))
 refine Qaa (Qbw rfl (Qaa (Qad (V:=.bool (!(Qb2 o 16))) rfl (Qae (Qal (t:=!(Qb2 o 16)) rfl (fun c6=>?_) (fun c6=>?_))))))
 ·
  replace c6:=QbL c6
  refine Qag (Qab (Qaa (Qad (V:=I6 2) rfl (Qae (Qas ?_)))))
  refine ⟨_,Qao (V:=I6 2) Tryz.results38 rfl,?_⟩
  refine ⟨congrArg Ending.returned ?_,hs.take 0⟩
  refine congrArg (Value.int IntKind.i64) ?_
  unfold QbE
  rw [← Qcq]
  simp_all
 ·
  replace c6:=Qbr c6
  refine Qag (Qab (Qaa (QaR (cs:=vc known) QbT hs 0 rfl rfl rfl (Qaa (Qaf Qbg rfl (Qaa (QbO (vs:=dc o.dot) Qcv hs 1 rfl rfl rfl rfl (Qaa (Qar (vs:=[.agg (vc known).toArray,.agg (dc o.dot).toArray]) (V:=.bool (QbC known o.dot)) Qnl rfl rfl ?hc hs fun w7 hs=>?_)))))))))
  case hc=>exact (QgZ _ known o.dot (by first|assumption|exact QcZ (by omega) (by omega) (by omega) (by omega)))
  refine Qaa (Qad (V:=.bool (QbC known o.dot)) rfl (Qae (Qal (t:=QbC known o.dot) rfl (fun c8=>?_) (fun c8=>?_))))
  ·
   refine Qag (Qab (Qaa (Qad (V:=I6 8) rfl (Qae (Qas ?_)))))
   refine ⟨_,Qao (V:=I6 8) Tryz.results38 rfl,?_⟩
   refine ⟨congrArg Ending.returned ?_,hs.take 0⟩
   refine congrArg (Value.int IntKind.i64) ?_
   unfold QbE
   rw [← Qcq]
   simp_all
  ·
   refine Qag (Qab (Qaa (Qaf Qcn rfl (Qaa (QbO (vs:=vc o.ctx) QbT hs 1 rfl rfl rfl rfl (Qaa (QaR (cs:=vc known) QbT hs 0 rfl rfl rfl (Qaa (Qar (vs:=[.agg (vc o.ctx).toArray,.agg (vc known).toArray]) (V:=.bool (vle o.ctx known)) QrR rfl rfl ?hc hs fun w9 hs=>?_)))))))))
   case hc=>exact (Qif _ o.ctx known)
   refine Qaa (Qbw rfl (Qaa (Qad (V:=.bool (!(vle o.ctx known))) rfl (Qae (Qal (t:=!(vle o.ctx known)) rfl (fun c10=>?_) (fun c10=>?_))))))
   ·
    replace c10:=QbL c10
    refine Qag (Qab (Qaa (Qad (V:=I6 9) rfl (Qae (Qas ?_)))))
    refine ⟨_,Qao (V:=I6 9) Tryz.results38 rfl,?_⟩
    refine ⟨congrArg Ending.returned ?_,hs.take 0⟩
    refine congrArg (Value.int IntKind.i64) ?_
    unfold QbE
    rw [← Qcq]
    simp_all
   ·
    replace c10:=Qbr c10
    refine Qan (Qag (Qab (Qaa (Qad (V:=I6 0) rfl (Qae (Qas ?_))))))
    refine ⟨_,Qao (V:=I6 0) Tryz.results38 rfl,?_⟩
    refine ⟨congrArg Ending.returned ?_,hs.take 0⟩
    refine congrArg (Value.int IntKind.i64) ?_
    unfold QbE
    rw [← Qcq]
    simp_all
end Tt
end Go.Proofs
namespace Go.Proofs
open Go Go.Vx Go.RowKit
namespace Tt
theorem QfE (w:World) (a:Option Addr) (c:Nat) (l:List Opn) (i:Nat) (hi:i<l.length) (hl:∀ o∈l,QbH o) (hlen:l.length≤1000) (hr:Rd w (.slice a l.length c) 23 (l.map oc)):Calls Tryz.prog 54 #[.slice a l.length c,.int .i64 (i:Int)] w (fun e w'=>e = .returned (.bool (QaG l (gd l i)))∧Own w no w' []):=by
 refine Qai (n:=26) Tryz.func54 rfl Tryz.ntmps54 rfl ?_
 have hs:=Own.start w
 have hn:=hr.sml
 refine Qag (Qab (Qaa (Qad (V:=.bool false) rfl (Qae (Qag (Qag (Qab (Qaa (Qad (V:=I6 0) rfl (Qae (Qak (Qax (fun ρ μ ρ' w'=>∃ (ρo:Env) (k:Nat),ρ'=upd (mix [4,5,6,7,8,9,10,11,12,13,14,15,16,17,18,19,20] ρo ρ) 5 (I6 (k:Int))∧(k≤l.length)∧(∀ j:Nat,j<k→Qay (gd l j) (gd l i)=false)∧μ=l.length-k∧Own w no w' []) ?_ ?_))))))))))))
 ·exact ⟨_,_,0,Qah (Qam (ds:=[4,5,6,7,8,9,10,11,12,13,14,15,16,17,18,19,20]) (Agr.refl _ _)) rfl,(by omega),(fun j hj=>absurd hj (Nat.not_lt_zero j)),rfl,hs⟩
 ·rintro μ ρ' w1 ⟨ρo,k,rfl,hk,hno,rfl,hs⟩
  refine Qag (Qag (Qab (Qaa (Qac (V:=I6 (k:Int)) rfl (Qaa (Qac (V:=.slice a l.length c) rfl (Qaa (QaX (n:=l.length) Qbv (Rd.own' hr hs) (by simp) rfl (Qaa (QaP rfl rfl (Qae (Qal (t:=decide ((k:Int)<((l.length:Nat):Int))) rfl (fun c2=>?_) (fun c2=>?_)))))))))))))
  ·
   replace c2:=QQ1 c2
   refine Qan (Qag (Qak (Qag (QaC HM [some 12,some 13,some 14,some 15,some 16,some 17,some 18,some 19,some 20] [] [0,0,3,7,0,0,48,112,255] [pv (.slice a l.length c),pv (I6 (k:Int)),pv (.pointer (some ⟨bkS (.slice a l.length c),ofS (.slice a l.length c)+(k:Int).toNat*23,none⟩)),pv (.agg (oc (gd l k)).toArray),pv (.slice a l.length c),pv (I6 (i:Int)),pv (.pointer (some ⟨bkS (.slice a l.length c),ofS (.slice a l.length c)+(i:Int).toNat*23,none⟩)),pv (.agg (oc (gd l i)).toArray),pv (.bool (Qay (gd l k) (gd l i)))] (fun _ _=>_) [8] (by kernel_rfl) hs ⟨?_,?_,?_,?_,?_,?_,?_,?_,?_,trivial⟩ ?_))))
   ·exact ob [] [] rfl rfl fun D ρ w hs=>Qac (V:=.slice a l.length c) rfl ⟨rfl,hs⟩
   ·exact ob [] [] rfl rfl fun D ρ w hs=>Qac (V:=I6 (k:Int)) rfl ⟨rfl,hs⟩
   ·exact ob [0,1] [] rfl rfl fun D ρ w hs=>Qat Qbv Qa0.1 (Rd.own' hr hs) rfl rfl (by omega) (by rw [QQ6];omega) ⟨rfl,hs⟩
   ·exact ob [2] [] rfl rfl fun D ρ w hs=>QaZ (j:=0) (vs:=oc (gd l k)) k Qa0 (Rd.own' hr hs) (QaY (by omega)) rfl rfl rfl (by omega) ⟨rfl,hs⟩
   ·exact ob [] [] rfl rfl fun D ρ w hs=>Qac (V:=.slice a l.length c) rfl ⟨rfl,hs⟩
   ·exact ob [] [] rfl rfl fun D ρ w hs=>Qac (V:=I6 (i:Int)) rfl ⟨rfl,hs⟩
   ·exact ob [4,5] [] rfl rfl fun D ρ w hs=>Qat Qbv Qa0.1 (Rd.own' hr hs) rfl rfl (by omega) (by rw [QQ6];omega) ⟨rfl,hs⟩
   ·exact ob [6] [] rfl rfl fun D ρ w hs=>QaZ (j:=0) (vs:=oc (gd l i)) i Qa0 (Rd.own' hr hs) (QaY (by omega)) rfl rfl rfl (by omega) ⟨rfl,hs⟩
   ·exact ob [3,7] [] rfl rfl fun D ρ w hs=>Qar (vs:=[.agg (oc (gd l k)).toArray,.agg (oc (gd l i)).toArray]) (V:=.bool (Qay (gd l k) (gd l i))) Qs4 rfl rfl (Qm2 _ (gd l k) (gd l i) (hl _ (Qbq (by omega))).1) hs fun _ hs=>⟨rfl,hs⟩
   rintro ρ1 w4 ρ2 hρ hs
   replace hρ:ρ2=upd (mix [12,13,14,15,16,17,18,19,20] ρ1 _) 20 (.bool (Qay (gd l k) (gd l i))):=hρ
   subst hρ
   refine Qal (t:=Qay (gd l k) (gd l i)) rfl (fun c5=>?_) (fun c5=>?_)
   ·
    refine Qag (Qab (Qaa (Qad (V:=.bool false) rfl (Qae (Qas ?_)))))
    refine ⟨_,Qao (V:=.bool false) Tryz.results54 rfl,?_⟩
    refine ⟨congrArg Ending.returned ?_,hs.take 0⟩
    exact congrArg Value.bool (QqW (k:=k) (by omega) c5).symm
   ·
    refine Qan (Qab (Qaa (Qac (V:=I6 (k:Int)) rfl (Qaa (Qav (a:=(k:Int)) (b:=1) (c:=((k+1:Nat):Int)) rfl rfl (Qaj (by omega) (by omega)) (Qaa (Qad (V:=I6 ((k+1:Nat):Int)) rfl (Qae ?_))))))))
    refine ⟨_,?_,_,k+1,Qah (Qam (ds:=[4,5,6,7,8,9,10,11,12,13,14,15,16,17,18,19,20]) (by repeat (first|exact Agr.refl _ _|refine Agr.upd ?_ rfl|refine Agr.mix ?_ rfl))) rfl,(by omega),(Qdh hno c5),rfl,hs.take 0⟩
    omega
  ·
   replace c2:=QQ2 c2
   refine Qaz (Qag (Qab (Qaa (Qac (V:=.slice a l.length c) rfl (Qaa (Qac (V:=I6 (i:Int)) rfl (Qaa (Qat Qbv Qa0.1 (Rd.own' hr hs) rfl rfl (by omega) (by rw [QQ6];omega) (Qaa (QaZ (j:=0) (vs:=oc (gd l i)) i Qa0 (Rd.own' hr hs) (QaY (by omega)) rfl rfl rfl (by omega) (Qaa (Qar (vs:=[.agg (oc (gd l i)).toArray]) (V:=.bool (QaF (gd l i))) QsI rfl rfl ?hc hs fun w6 hs=>?_))))))))))))
   case hc=>exact (Qjo _ (gd l i))
   refine Qaa (Qad (V:=.bool (QaF (gd l i))) rfl (Qae (Qas ?_)))
   refine ⟨_,Qao (V:=.bool (QaF (gd l i))) Tryz.results54 rfl,?_⟩
   refine ⟨congrArg Ending.returned ?_,hs.take 0⟩
   exact congrArg Value.bool (Qob fun j hj=>hno j (by omega)).symm
theorem Qmg (w:World) (a:Option Addr) (c:Nat) (l:List Opn) (hl:∀ o∈l,QbH o) (hlen:l.length≤1000) (hr:Rd w (.slice a l.length c) 23 (l.map oc)):Calls Tryz.prog 17 #[.slice a l.length c] w (fun e w'=>∃ x:Option Addr × Nat,e = .returned (.slice x.1 (l.map (QaG l)).length x.2)∧Own w no w' [row (.slice x.1 (l.map (QaG l)).length x.2) ((l.map (QaG l)).map bc) 4 1]∧True):=by
 refine Qai (n:=18) Tryz.func17 rfl Tryz.ntmps17 rfl ?_
 have hs:=Own.start w
 have hn:=hr.sml
 refine Qag (Qab (Qaa (Qad (V:=.slice none 0 0) rfl (Qae (Qag (Qab (Qaa (Qad (V:=.slice none 0 0) rfl (Qae (Qag (Qag (Qab (Qaa (Qad (V:=I6 0) rfl (Qae (Qak ?_))))))))))))))))
 replace hs:=hs.more (row (.slice none 0 0) (List.map bc []) 4 1) (QbF _ _ _ _)
 refine Qax (fun ρ μ ρ' w'=>∃ (ρo:Env) (k:Nat) (an:Option Addr) (cn:Nat) (out:List Bool),ρ'=upd (upd (mix [3,4,5,6,7,8,9,10,11,12,13,14,15,16] ρo ρ) 4 (I6 (k:Int))) 3 (.slice an out.length cn)∧(k≤l.length)∧(out.length≤k)∧(out=(l.take k).map (QaG l))∧μ=l.length-k∧Own w no w' [row (.slice an out.length cn) (out.map bc) 4 1]) ?_ ?_
 ·exact ⟨_,_,0,none,0,[],Qah (Qah (Qam (ds:=[3,4,5,6,7,8,9,10,11,12,13,14,15,16]) (Agr.refl _ _)) rfl) rfl,(by omega),(Nat.le_refl _),rfl,rfl,hs⟩
 ·rintro μ ρ' w1 ⟨ρo,k,an,cn,out,rfl,hk,hol,hout,rfl,hs⟩
  refine Qag (Qag (Qab (Qaa (Qac (V:=I6 (k:Int)) rfl (Qaa (Qac (V:=.slice a l.length c) rfl (Qaa (QaX (n:=l.length) Qbv (Rd.own' hr hs) (by simp) rfl (Qaa (QaP rfl rfl (Qae (Qal (t:=decide ((k:Int)<((l.length:Nat):Int))) rfl (fun c2=>?_) (fun c2=>?_)))))))))))))
  ·
   replace c2:=QQ1 c2
   refine Qan (Qag (Qak (Qab (Qaa (Qac (V:=.slice an out.length cn) rfl (Qaa (Qac (V:=.slice a l.length c) rfl (Qaa (Qac (V:=I6 (k:Int)) rfl (Qaa (Qar (vs:=[.slice a l.length c,I6 (k:Int)]) (V:=.bool (QaG l (gd l k))) Qnx rfl rfl ?hc hs fun w3 hs=>?_)))))))))))
   case hc=>exact (QfE _ a c l k (by omega) hl hlen (Rd.own' hr hs))
   refine Qaa (QhD (vals:=[.bool (QaG l (gd l k))]) (ls:=List.map bc ([QaG l (gd l k)]:List Bool)) Qrz rfl rfl rfl (Qbl (enc:=bc) (fun _=>rfl) _) (QaU Qo6 _) (QQ8 rfl) hs fun b4 w5 hs=>(Qaa (Qdl (ls':=(out++[QaG l (gd l k)]).map bc) (n:=(out++[QaG l (gd l k)]).length) Qrz hs 0 rfl rfl rfl (hs.rd 1 rfl) (QaU Qo6 _) (by simp only [QQ6,QQ7,List.length_cons,List.length_nil];omega) (by simp) (by simp) fun a6 c6 w7 hs=>(Qaa (Qad (V:=.slice a6 ((out++[QaG l (gd l k)]).length) c6) rfl (Qae (Qab (Qaa (Qac (V:=I6 (k:Int)) rfl (Qaa (Qav (a:=(k:Int)) (b:=1) (c:=((k+1:Nat):Int)) rfl rfl (Qaj (by omega) (by omega)) (Qaa (Qad (V:=I6 ((k+1:Nat):Int)) rfl (Qae ?_))))))))))))))
   refine ⟨_,?_,_,k+1,a6,c6,out++[QaG l (gd l k)],Qah (Qah (Qam (ds:=[3,4,5,6,7,8,9,10,11,12,13,14,15,16]) (by repeat (first|exact Agr.refl _ _|refine Agr.upd ?_ rfl|refine Agr.mix ?_ rfl))) rfl) rfl,(by omega),(by rw [QQ7,List.length_singleton];omega),(Qhk (f:=QaG l) hout (by omega)),rfl,hs.take 1⟩
   omega
  ·
   replace c2:=QQ2 c2
   refine Qaz (Qag (Qab (Qaa (Qac (V:=.slice an out.length cn) rfl (Qaa (Qad (V:=.slice an out.length cn) rfl (Qae (Qas ?_))))))))
   refine ⟨_,Qao (V:=.slice an out.length cn) Tryz.results17 rfl,?_⟩
   have hX:out=l.map (QaG l):=by rw [hout,Qb6 (by omega)]
   rw [hX] at hs ⊢
   exact ⟨(an,cn),rfl,hs.only 0 rfl,trivial⟩
end Tt
end Go.Proofs
namespace Go.Proofs
open Go Go.Vx Go.RowKit
namespace Tt
theorem Qj5 (w:World) (a:Option Addr) (c:Nat) (l:List Opn) (hl:∀ o∈l,QbH o) (hlen:l.length≤1000) (hr:Rd w (.slice a l.length c) 23 (l.map oc)):Calls Tryz.prog 25 #[.slice a l.length c] w (fun e w'=>∃ x:Option Addr × Nat,e = .returned (.slice x.1 (Qdv l).length x.2)∧Own w no w' [row (.slice x.1 (Qdv l).length x.2) ((Qdv l).map (ic .u16)) 31 1]∧True):=by
 refine Qai (n:=42) Tryz.func25 rfl Tryz.ntmps25 rfl ?_
 have hs:=Own.start w
 have hn:=hr.sml
 refine Qag (Qab (Qaa (Qad (V:=.slice none 0 0) rfl (Qae (Qag (Qab (Qaa (Qad (V:=.slice none 0 0) rfl (Qae (Qag (Qab (Qaa (Qad (V:=I6 (-1)) rfl (Qae (Qak ?_)))))))))))))))
 replace hs:=hs.more (row (.slice none 0 0) (List.map (ic .u16) []) 31 1) (QbF _ _ _ _)
 have hcc:∀ x∈l.map (·.cart),0≤x∧x<65536:=fun x hx=>by obtain ⟨o,ho,rfl⟩:=List.mem_map.1 hx;exact (hl o ho).2.2.1
 have hc0:∀ x∈l.map (·.cart),0≤x:=fun x hx=>(hcc x hx).1
 refine Qax (fun ρ μ ρ' w'=>∃ (ρo:Env) (last:Int) (an:Option Addr) (cn:Nat) (out:List Int),ρ'=upd (upd (mix [2,3,4,5,6,7,8,9,10,11,12,13,14,15,16,17,18,19,20,21,22,23,24,25,26,27,28,29,30,31,32,33,34,35,36,37,38,39,40,41] ρo ρ) 4 (I6 last)) 3 (.slice an out.length cn)∧(-1≤last∧last<65536)∧(((out.length:Nat):Int)≤last+1)∧(UpTo (l.map (·.cart)) last out)∧μ=(65536-last).toNat∧Own w no w' [row (.slice an out.length cn) (out.map (ic .u16)) 31 1]) ?_ ?_
 ·exact ⟨_,_,-1,none,0,[],Qah (Qah (Qam (ds:=[2,3,4,5,6,7,8,9,10,11,12,13,14,15,16,17,18,19,20,21,22,23,24,25,26,27,28,29,30,31,32,33,34,35,36,37,38,39,40,41]) (Agr.refl _ _)) rfl) rfl,(by omega),(by simp),(Qjl hc0),rfl,hs⟩
 ·rintro μ ρ' w1 ⟨ρo,last,an,cn,out,rfl,hla,hol,hup,rfl,hs⟩
  refine Qak (Qag (Qab (Qaa (Qad (V:=I6 (-1)) rfl (Qae (Qag (Qag (Qab (Qaa (Qad (V:=I6 0) rfl (Qae (Qak (Qax (fun ρ μ ρ' w'=>∃ (ρo:Env) (k:Nat) (nx:Int),ρ'=upd (upd (mix [5,6,7,8,9,10,11,12,13,14,15,16,17,18,19,20,21,22,23,24,25,26,27,28,29,30,31,32] ρo ρ) 6 (I6 (k:Int))) 5 (I6 nx)∧(k≤l.length)∧(nx=Qb7 last ((l.take k).map (·.cart)))∧(-1≤nx∧nx<65536)∧μ=l.length-k∧Own w no w' [row (.slice an out.length cn) (out.map (ic .u16)) 31 1]) ?_ ?_)))))))))))))
  ·exact ⟨_,_,0,-1,Qah (Qah (Qam (ds:=[5,6,7,8,9,10,11,12,13,14,15,16,17,18,19,20,21,22,23,24,25,26,27,28,29,30,31,32]) (Agr.refl _ _)) rfl) rfl,(by omega),rfl,(by omega),rfl,hs⟩
  ·rintro μ ρ' w2 ⟨ρo,k,nx,rfl,hk,hmin,hnx,rfl,hs⟩
   refine Qag (Qag (Qab (Qaa (Qac (V:=I6 (k:Int)) rfl (Qaa (Qac (V:=.slice a l.length c) rfl (Qaa (QaX (n:=l.length) Qbv (Rd.own' hr hs) (by simp) rfl (Qaa (QaP rfl rfl (Qae (Qal (t:=decide ((k:Int)<((l.length:Nat):Int))) rfl (fun c3=>?_) (fun c3=>?_)))))))))))))
   ·
    replace c3:=QQ1 c3
    refine Qan (Qag (Qak (Qag ?_)))
    have hok:=hl _ (Qbq (l:=l) (i:=k) (by omega))
    have hdk:=hok.1
    have ⟨_,_,⟨hca,hcb⟩,_⟩:=hok
    refine Qab (Qaa (Qac (V:=.slice a l.length c) rfl (Qaa (Qac (V:=I6 (k:Int)) rfl (Qaa (Qat Qbv Qa0.1 (Rd.own' hr hs) rfl rfl (by omega) (by rw [QQ6];omega) (Qaa (Qaf QcS rfl (Qaa (QaQ (j:=3) (V:=I7 ((gd l k).cart)) k Qap (Rd.own' hr hs) (QaY (by omega)) rfl rfl (by omega) (Qaa (QbD Qf4 QfC rfl (Qbh (by omega) (by omega)) (Qaa (Qad (V:=I6 ((gd l k).cart)) rfl (Qae (Qag (Qbi [some 20,some 21,some 22,some 23,some 24,some 25,some 26,some 27,some 28,some 29,some 30,some 31] [] [0,0,3,7,15,31,63,127,127,511,1023,2047] [pv (I6 ((gd l k).cart)),pv (I6 last),pv (.bool (decide (last<(gd l k).cart))),pv (.bool (decide (last<(gd l k).cart))),pg ((decide (last<(gd l k).cart)) == true) (I6 nx),pg ((decide (last<(gd l k).cart)) == true) (.bool (decide (nx<0))),pg ((decide (last<(gd l k).cart)) == true) (.bool (decide (nx<0))),pg (((decide (last<(gd l k).cart)) == true)&&((decide (nx<0)) == false)) (I6 ((gd l k).cart)),pg (((decide (last<(gd l k).cart)) == true)&&((decide (nx<0)) == false)) (I6 nx),pg (((decide (last<(gd l k).cart)) == true)&&((decide (nx<0)) == false)) (.bool (decide ((gd l k).cart<nx))),pg ((decide (last<(gd l k).cart)) == true) (.bool ((decide (nx<0))||(decide ((gd l k).cart<nx)))),pv (.bool ((decide (last<(gd l k).cart))&&((decide (nx<0))||(decide ((gd l k).cart<nx)))))] (fun _ _=>_) [11] (by kernel_rfl) hs ⟨?_,?_,?_,?_,?_,?_,?_,?_,?_,?_,?_,?_,trivial⟩ ?_)))))))))))))))))
    ·exact ob [] [] rfl rfl fun D ρ w hs=>Qac (V:=I6 ((gd l k).cart)) rfl ⟨rfl,hs⟩
    ·exact ob [] [] rfl rfl fun D ρ w hs=>Qac (V:=I6 last) rfl ⟨rfl,hs⟩
    ·exact ob [0,1] [] rfl rfl fun D ρ w hs=>Qcb rfl rfl ⟨rfl,hs⟩
    ·exact ob [2] [] rfl rfl fun D ρ w hs=>Qac (V:=.bool (decide (last<(gd l k).cart))) rfl ⟨rfl,hs⟩
    ·exact obg [3] [] (decide (last<(gd l k).cart)) rfl (fun _=>rfl) rfl (fun _ _ _ _ h=>h) fun D ρ w hG hs=>Qac (V:=I6 nx) rfl ⟨rfl,hs⟩
    ·exact obgy [3,4] [] [4] (decide (last<(gd l k).cart)) rfl (fun _=>rfl) rfl (fun _ _ _ _ h=>h) (fun hG=>⟨hG,trivial⟩) fun D ρ w hG hs=>QaP rfl rfl ⟨rfl,hs⟩
    ·exact obgy [3,5] [] [5] (decide (last<(gd l k).cart)) rfl (fun _=>rfl) rfl (fun _ _ _ _ h=>h) (fun hG=>⟨hG,trivial⟩) fun D ρ w hG hs=>Qac (V:=.bool (decide (nx<0))) rfl ⟨rfl,hs⟩
    ·exact obg [6] [] (decide (nx<0)) rfl (fun _=>rfl) rfl (fun _ _ _ _ h=>h) fun D ρ w hG hs=>Qac (V:=I6 ((gd l k).cart)) rfl ⟨rfl,hs⟩
    ·exact obg [6] [] (decide (nx<0)) rfl (fun _=>rfl) rfl (fun _ _ _ _ h=>h) fun D ρ w hG hs=>Qac (V:=I6 nx) rfl ⟨rfl,hs⟩
    ·exact obgy [6,7,8] [] [7,8] (decide (nx<0)) rfl (fun _=>rfl) rfl (fun _ _ _ _ h=>h) (fun hG=>⟨hG,hG,trivial⟩) fun D ρ w hG hs=>QaP rfl rfl ⟨rfl,hs⟩
    ·exact obgy [3,6,9] [] [6] (decide (last<(gd l k).cart)) rfl (fun _=>rfl) rfl (fun _ _ _ _ h=>h) (fun hG=>⟨hG,trivial⟩) fun D ρ w hG hs=>QrO (h':=decide ((gd l k).cart<nx)) (G:=((decide (last<(gd l k).cart)) == true)) hG rfl rfl rfl ⟨rfl,hs⟩
    ·exact ob [3,10] [] rfl rfl fun D ρ w hs=>Qa3 (h':=(decide (nx<0))||(decide ((gd l k).cart<nx))) rfl rfl rfl ⟨rfl,hs⟩
    rintro ρ1 w4 ρ2 hρ hs
    replace hρ:ρ2=upd (mix [20,21,22,23,24,25,26,27,28,29,30,31] ρ1 _) 31 (.bool ((decide (last<(gd l k).cart))&&((decide (nx<0))||(decide ((gd l k).cart<nx))))):=hρ
    subst hρ
    refine Qal (t:=(decide (last<(gd l k).cart))&&((decide (nx<0))||(decide ((gd l k).cart<nx)))) rfl (fun c5=>?_) (fun c5=>?_)
    ·
     have c5r:=Qcd c5
     replace c5:=QbQ c5
     replace c5:=QQ1 c5
     refine Qab (Qaa (Qac (V:=I6 ((gd l k).cart)) rfl (Qaa (Qad (V:=I6 ((gd l k).cart)) rfl (Qae (Qab (Qaa (Qac (V:=I6 (k:Int)) rfl (Qaa (Qav (a:=(k:Int)) (b:=1) (c:=(k:Int)+1) rfl rfl (Qbh (by omega) (by omega)) (Qaa (Qad (V:=I6 ((k:Int)+1)) rfl (Qae ?_)))))))))))))
     refine ⟨_,?_,_,k+1,(gd l k).cart,Qah (Qah (Qam (ds:=[5,6,7,8,9,10,11,12,13,14,15,16,17,18,19,20,21,22,23,24,25,26,27,28,29,30,31,32]) (by repeat (first|exact Agr.refl _ _|refine Agr.upd ?_ rfl|refine Agr.mix ?_ rfl))) rfl) rfl,(by omega),(QlL hmin (by omega) c5 (by have:=c5r;simp at this;omega)),(by omega),rfl,hs.take 1⟩
     omega
    ·
     refine Qan (Qab (Qaa (Qac (V:=I6 (k:Int)) rfl (Qaa (Qav (a:=(k:Int)) (b:=1) (c:=(k:Int)+1) rfl rfl (Qbh (by omega) (by omega)) (Qaa (Qad (V:=I6 ((k:Int)+1)) rfl (Qae ?_))))))))
     refine ⟨_,?_,_,k+1,nx,Qah (Qah (Qam (ds:=[5,6,7,8,9,10,11,12,13,14,15,16,17,18,19,20,21,22,23,24,25,26,27,28,29,30,31,32]) (by repeat (first|exact Agr.refl _ _|refine Agr.upd ?_ rfl|refine Agr.mix ?_ rfl))) rfl) rfl,(by omega),(Qox hmin (by omega) (by intro ⟨h1,h2⟩;have:=c5;simp [h1,h2] at this;omega)),(by omega),rfl,hs.take 1⟩
     omega
   ·
    replace c3:=QQ2 c3
    refine Qaz (Qag (Qag ?_))
    rw [Qb6 (by omega)] at hmin
    refine Qab (Qaa (Qac (V:=I6 nx) rfl (Qaa (QaP rfl rfl (Qae (Qal (t:=decide (nx<0)) rfl (fun c6=>?_) (fun c6=>?_)))))))
    ·
     replace c6:=QQ1 c6
     refine Qag (Qab (Qaa (Qac (V:=.slice an out.length cn) rfl (Qaa (Qad (V:=.slice an out.length cn) rfl (Qae (Qas ?_)))))))
     refine ⟨_,Qao (V:=.slice an out.length cn) Tryz.results25 rfl,?_⟩
     have hX:out=Qdv l:=Qm6 hup hla.1 hc0 (by rw [← hmin];exact c6)
     rw [hX] at hs ⊢
     exact ⟨(an,cn),rfl,hs.only 0 rfl,trivial⟩
    ·
     replace c6:=QQ2 c6
     refine Qan (Qag ?_)
     have hup2:UpTo (l.map (·.cart)) nx (out++[nx]):=by rw [hmin];exact Qia hup hla.1 hc0 (by rw [← hmin];exact c6)
     have hgt:last<nx:=by
      rcases Qdu last hla.1 _ hc0 with ⟨h1,_⟩|⟨_,h2,_⟩
      ·rw [← hmin] at h1;omega
      ·rw [← hmin] at h2;exact h2
     refine Qab (Qaa (Qac (V:=.slice an out.length cn) rfl (Qaa (Qac (V:=I6 nx) rfl (Qaa (QbD QfC Qf4 rfl (Qpg (by omega) (by omega)) (Qaa (QhD (vals:=[I7 nx]) (ls:=List.map (ic .u16) ([nx]:List Int)) QjY rfl rfl rfl (Qbl (enc:=(ic .u16)) (fun _=>rfl) _) (QaU (QeL .u16) _) (QQ8 rfl) hs fun b7 w8 hs=>(Qaa (Qdl (ls':=(out++[nx]).map (ic .u16)) (n:=(out++[nx]).length) QjY hs 0 rfl rfl rfl (hs.rd 1 rfl) (QaU (QeL .u16) _) (by simp only [QQ6,QQ7,List.length_cons,List.length_nil];omega) (by simp) (by simp) fun a9 c9 w10 hs=>(Qaa (Qad (V:=.slice a9 ((out++[nx]).length) c9) rfl (Qae (Qab (Qaa (Qac (V:=I6 nx) rfl (Qaa (Qad (V:=I6 nx) rfl (Qae ?_)))))))))))))))))))
     refine ⟨_,?_,_,nx,a9,c9,out++[nx],Qah (Qah (Qam (ds:=[2,3,4,5,6,7,8,9,10,11,12,13,14,15,16,17,18,19,20,21,22,23,24,25,26,27,28,29,30,31,32,33,34,35,36,37,38,39,40,41]) (by repeat (first|exact Agr.refl _ _|refine Agr.upd ?_ rfl|refine Agr.mix ?_ rfl))) rfl) rfl,(by omega),(by simp only [QQ7,List.length_cons,List.length_nil];omega),hup2,rfl,hs.take 1⟩
     omega
end Tt
end Go.Proofs
namespace Go.Proofs
open Go Go.Vx Go.RowKit
namespace Tt
theorem Qmc (w:World) (a b:Opn) (ha:Qca a.ctx) (hb:Qca b.ctx):Calls Tryz.prog 100 #[.agg (oc a).toArray,.agg (oc b).toArray] w (fun e w'=>e = .returned (.bool (QcM a b))∧Own w no w' []):=by
 refine Qai (n:=38) Tryz.func100 rfl Tryz.ntmps100 rfl ?_
 have hs:=Own.start w
 refine Qag (Qab (Qaa (Qa9 (V:=.agg (oc a).toArray) (cs:=oc a) rfl rfl hs fun b1 w2 hs=>(Qaa (Qa9 (V:=.agg (oc b).toArray) (cs:=oc b) rfl rfl hs fun b3 w4 hs=>(Qaa (Qad (V:=.bool false) rfl (Qae (Qag (QaC HM [some 7,some 8,some 9,some 10,some 5,some 6] [] [0,1,0,7,15,31] [pv (.agg (oc a).toArray),pv (.int .u64 (Qa6 a)),pv (.agg (oc b).toArray),pv (.int .u64 (Qa6 b)),pv (.int .u64 (Qa6 a)),pv (.int .u64 (Qa6 b))] (fun _ _=>_) [5,4] (by kernel_rfl) hs ⟨?_,?_,?_,?_,?_,?_,trivial⟩ ?_))))))))))
 ·exact ob [] [] rfl rfl fun D ρ w hs=>QaR (cs:=oc a) Qa0 hs 0 rfl rfl rfl ⟨rfl,hs⟩
 ·exact ob [0] [] rfl rfl fun D ρ w hs=>Qar (vs:=[.agg (oc a).toArray]) (V:=.int .u64 (Qa6 a)) QqT rfl rfl (Qfe _ a (by assumption)) hs fun _ hs=>⟨rfl,hs⟩
 ·exact ob [] [] rfl rfl fun D ρ w hs=>QaR (cs:=oc b) Qa0 hs 1 rfl rfl rfl ⟨rfl,hs⟩
 ·exact ob [2] [] rfl rfl fun D ρ w hs=>Qar (vs:=[.agg (oc b).toArray]) (V:=.int .u64 (Qa6 b)) QqT rfl rfl (Qfe _ b (by assumption)) hs fun _ hs=>⟨rfl,hs⟩
 ·exact ob [1] [] rfl rfl fun D ρ w hs=>Qad (V:=.int .u64 (Qa6 a)) rfl ⟨rfl,hs⟩
 ·exact ob [3] [] rfl rfl fun D ρ w hs=>Qad (V:=.int .u64 (Qa6 b)) rfl ⟨rfl,hs⟩
 rintro ρ1 w7 ρ2 hρ hs
 replace hρ:ρ2=upd (upd (mix [7,8,9,10,5,6] ρ1 _) 5 (.int .u64 (Qa6 a))) 6 (.int .u64 (Qa6 b)):=hρ
 subst hρ
 refine Qag (Qag (Qab (Qaa (Qac (V:=.int .u64 (Qa6 a)) rfl (Qaa (Qac (V:=.int .u64 (Qa6 b)) rfl (Qaa (Qcr rfl rfl (Qae (Qal (t:=!decide (Qa6 a=Qa6 b)) rfl (fun c8=>?_) (fun c8=>?_)))))))))))
 ·
  replace c8:=QbL c8
  replace c8:=QQ2 c8
  refine Qag (Qab (Qaa (Qac (V:=.int .u64 (Qa6 a)) rfl (Qaa (Qac (V:=.int .u64 (Qa6 b)) rfl (Qaa (QaP rfl rfl (Qaa (Qad (V:=.bool (decide (Qa6 a<Qa6 b))) rfl (Qae (Qas ?_)))))))))))
  refine ⟨_,Qao (V:=.bool (decide (Qa6 a<Qa6 b))) Tryz.results100 rfl,?_⟩
  refine ⟨congrArg Ending.returned ?_,hs.take 0⟩
  refine congrArg Value.bool ?_
  rw [Bool.eq_iff_iff,QeM]
  simp_all
  try omega
 ·
  replace c8:=Qbr c8
  replace c8:=QQ1 c8
  refine Qan (Qag (Qag (Qab (Qaa (Qaf Qbg rfl (Qaa (Qaf QbK rfl (Qaa (QaK (V:=.int .u8 a.dot.rep) QcF hs 0 rfl rfl rfl (Qaa (Qaf Qbg rfl (Qaa (Qaf QbK rfl (Qaa (QaK (V:=.int .u8 b.dot.rep) QcF hs 1 rfl rfl rfl (Qaa (Qcr rfl rfl (Qae (Qal (t:=!decide (a.dot.rep=b.dot.rep)) rfl (fun c9=>?_) (fun c9=>?_))))))))))))))))))))
  ·
   replace c9:=QbL c9
   replace c9:=QQ2 c9
   refine Qag (Qab (Qaa (Qaf Qbg rfl (Qaa (Qaf QbK rfl (Qaa (QaK (V:=.int .u8 a.dot.rep) QcF hs 0 rfl rfl rfl (Qaa (Qaf Qbg rfl (Qaa (Qaf QbK rfl (Qaa (QaK (V:=.int .u8 b.dot.rep) QcF hs 1 rfl rfl rfl (Qaa (QaP rfl rfl (Qaa (Qad (V:=.bool (decide (a.dot.rep<b.dot.rep))) rfl (Qae (Qas ?_)))))))))))))))))))
   refine ⟨_,Qao (V:=.bool (decide (a.dot.rep<b.dot.rep))) Tryz.results100 rfl,?_⟩
   refine ⟨congrArg Ending.returned ?_,hs.take 0⟩
   refine congrArg Value.bool ?_
   rw [Bool.eq_iff_iff,QeM]
   simp_all
   try omega
  ·
   replace c9:=Qbr c9
   replace c9:=QQ1 c9
   refine Qan (Qag (Qab (Qaa (Qaf Qbg rfl (Qaa (Qaf QbN rfl (Qaa (QaK (V:=.int .u32 a.dot.seq) Qa7 hs 0 rfl rfl rfl (Qaa (Qaf Qbg rfl (Qaa (Qaf QbN rfl (Qaa (QaK (V:=.int .u32 b.dot.seq) Qa7 hs 1 rfl rfl rfl (Qaa (QaP rfl rfl (Qaa (Qad (V:=.bool (decide (a.dot.seq<b.dot.seq))) rfl (Qae (Qas ?_))))))))))))))))))))
   refine ⟨_,Qao (V:=.bool (decide (a.dot.seq<b.dot.seq))) Tryz.results100 rfl,?_⟩
   refine ⟨congrArg Ending.returned ?_,hs.take 0⟩
   refine congrArg Value.bool ?_
   rw [Bool.eq_iff_iff,QeM]
   simp_all
   try omega
end Tt
end Go.Proofs
namespace Go.Proofs
open Go Go.Vx Go.RowKit
namespace Tt
theorem Qjk (w:World) (a:Option Addr) (ca:Nat) (l:List Opn) (c last:Int) (hla:-1≤last) (hl:∀ o∈l,QbH o) (hlen:l.length≤1000) (hr:Rd w (.slice a l.length ca) 23 (l.map oc)):Calls Tryz.prog 63 #[.slice a l.length ca,.int .u16 c,.int .i64 last] w (fun e w'=>e = .returned (.int .i64 (QdL l c last))∧Own w no w' []):=by
 refine Qai (n:=58) Tryz.func63 rfl Tryz.ntmps63 rfl ?_
 have hs:=Own.start w
 have hn:=hr.sml
 refine Qag (Qab (Qaa (Qad (V:=I6 0) rfl (Qae (Qag (Qab (Qaa (Qad (V:=I6 (-1)) rfl (Qae (Qag (Qag (Qab (Qaa (Qad (V:=I6 0) rfl (Qae (Qak (Qax (fun ρ μ ρ' w'=>∃ (ρo:Env) (k:Nat) (nx:Int),ρ'=upd (upd (mix [7,8,9,10,11,12,13,14,15,16,17,18,19,20,21,22,23,24,25,26,27,28,29,30,31,32,33,34,35,36,37,38,39,40,41,42,43,44,45,46,47,48,49,50,51,52,53,54,55,56] ρo ρ) 8 (I6 (k:Int))) 7 (I6 nx)∧(k≤l.length)∧(nx=Qb7 last (Qdf l c k))∧(-1≤nx∧nx<65536)∧μ=l.length-k∧Own w no w' []) ?_ ?_)))))))))))))))))
 ·exact ⟨_,_,0,-1,Qah (Qah (Qam (ds:=[7,8,9,10,11,12,13,14,15,16,17,18,19,20,21,22,23,24,25,26,27,28,29,30,31,32,33,34,35,36,37,38,39,40,41,42,43,44,45,46,47,48,49,50,51,52,53,54,55,56]) (Agr.refl _ _)) rfl) rfl,(by omega),rfl,(by omega),rfl,hs⟩
 ·rintro μ ρ' w1 ⟨ρo,k,nx,rfl,hk,hmin,hnx,rfl,hs⟩
  refine Qag (Qag (Qab (Qaa (Qac (V:=I6 (k:Int)) rfl (Qaa (Qac (V:=.slice a l.length ca) rfl (Qaa (QaX (n:=l.length) Qbv (Rd.own' hr hs) (by simp) rfl (Qaa (QaP rfl rfl (Qae (Qal (t:=decide ((k:Int)<((l.length:Nat):Int))) rfl (fun c2=>?_) (fun c2=>?_)))))))))))))
  ·
   replace c2:=QQ1 c2
   refine Qan (Qag (Qak (Qag ?_)))
   have ⟨_,_,_,⟨hi1,hi2⟩,⟨hq1,hq2⟩,_⟩:=hl _ (Qbq (l:=l) (i:=k) (by omega))
   refine Qab (Qaa (Qac (V:=.slice a l.length ca) rfl (Qaa (Qac (V:=I6 (k:Int)) rfl (Qaa (Qat Qbv Qa0.1 (Rd.own' hr hs) rfl rfl (by omega) (by rw [QQ6];omega) (Qaa (Qaf Qcc rfl (Qaa (QaQ (j:=4) (V:=I7 ((gd l k).item)) k Qap (Rd.own' hr hs) (QaY (by omega)) rfl rfl (by omega) (Qaa (QbD Qf4 QfC rfl (Qbh (by omega) (by omega)) (Qaa (Qad (V:=I6 ((gd l k).item)) rfl (Qae (Qag (Qbi [some 22,some 23,some 24,some 25,some 26,some 27,some 28,some 29,some 30,some 31,some 32,some 33,some 34,some 35,some 36,some 37,some 38,some 39,some 40,some 41,some 42,some 43,some 44,some 45,some 46,some 47,some 48,some 49,some 50,some 51,some 52,some 53,some 54,some 55] [] [0,0,3,7,15,0,63,127,255,255,1023,2047,4095,8191,16383,32767,65535,65535,262143,524287,1048575,2097151,4194303,8388607,16777215,16777215,67108863,134217727,268435455,536870911,1073741823,1073741823,4294967295,8589934591] [pv (.slice a l.length ca),pv (I6 (k:Int)),pv (.pointer (some ⟨bkS (.slice a l.length ca),ofS (.slice a l.length ca)+(k:Int).toNat*23,none⟩)),pv (.pointer (some ⟨bkS (.slice a l.length ca),ofS (.slice a l.length ca)+(k:Int).toNat*23+3,none⟩)),pv (I7 ((gd l k).cart)),pv (I7 c),pv (.bool (decide ((gd l k).cart=c))),pv (.bool (decide ((gd l k).cart=c))),pg ((decide ((gd l k).cart=c)) == true) (.slice a l.length ca),pg ((decide ((gd l k).cart=c)) == true) (I6 (k:Int)),pg ((decide ((gd l k).cart=c)) == true) (.pointer (some ⟨bkS (.slice a l.length ca),ofS (.slice a l.length ca)+(k:Int).toNat*23,none⟩)),pg ((decide ((gd l k).cart=c)) == true) (.pointer (some ⟨bkS (.slice a l.length ca),ofS (.slice a l.length ca)+(k:Int).toNat*23+2,none⟩)),pg ((decide ((gd l k).cart=c)) == true) (.int .u8 ((gd l k).kind)),pg ((decide ((gd l k).cart=c)) == true) (.bool (!decide ((gd l k).kind=4))),pv (.bool ((decide ((gd l k).cart=c))&&(!decide ((gd l k).kind=4)))),pv (.bool ((decide ((gd l k).cart=c))&&(!decide ((gd l k).kind=4)))),pg (((decide ((gd l k).cart=c))&&(!decide ((gd l k).kind=4))) == true) (I6 ((gd l k).item)),pg (((decide ((gd l k).cart=c))&&(!decide ((gd l k).kind=4))) == true) (I6 last),pg (((decide ((gd l k).cart=c))&&(!decide ((gd l k).kind=4))) == true) (.bool (decide (last<(gd l k).item))),pv (.bool (((decide ((gd l k).cart=c))&&(!decide ((gd l k).kind=4)))&&(decide (last<(gd l k).item)))),pv (.bool (((decide ((gd l k).cart=c))&&(!decide ((gd l k).kind=4)))&&(decide (last<(gd l k).item)))),pg ((((decide ((gd l k).cart=c))&&(!decide ((gd l k).kind=4)))&&(decide (last<(gd l k).item))) == true) (I6 nx),pg ((((decide ((gd l k).cart=c))&&(!decide ((gd l k).kind=4)))&&(decide (last<(gd l k).item))) == true) (.bool (decide (nx<0))),pg ((((decide ((gd l k).cart=c))&&(!decide ((gd l k).kind=4)))&&(decide (last<(gd l k).item))) == true) (.bool (decide (nx<0))),pg (((((decide ((gd l k).cart=c))&&(!decide ((gd l k).kind=4)))&&(decide (last<(gd l k).item))) == true)&&((decide (nx<0)) == false)) (I6 ((gd l k).item)),pg (((((decide ((gd l k).cart=c))&&(!decide ((gd l k).kind=4)))&&(decide (last<(gd l k).item))) == true)&&((decide (nx<0)) == false)) (I6 nx),pg (((((decide ((gd l k).cart=c))&&(!decide ((gd l k).kind=4)))&&(decide (last<(gd l k).item))) == true)&&((decide (nx<0)) == false)) (.bool (decide ((gd l k).item<nx))),pg ((((decide ((gd l k).cart=c))&&(!decide ((gd l k).kind=4)))&&(decide (last<(gd l k).item))) == true) (.bool ((decide (nx<0))||(decide ((gd l k).item<nx)))),pv (.bool ((((decide ((gd l k).cart=c))&&(!decide ((gd l k).kind=4)))&&(decide (last<(gd l k).item)))&&((decide (nx<0))||(decide ((gd l k).item<nx))))),pv (.bool ((((decide ((gd l k).cart=c))&&(!decide ((gd l k).kind=4)))&&(decide (last<(gd l k).item)))&&((decide (nx<0))||(decide ((gd l k).item<nx))))),pg (((((decide ((gd l k).cart=c))&&(!decide ((gd l k).kind=4)))&&(decide (last<(gd l k).item)))&&((decide (nx<0))||(decide ((gd l k).item<nx)))) == true) (.slice a l.length ca),pg (((((decide ((gd l k).cart=c))&&(!decide ((gd l k).kind=4)))&&(decide (last<(gd l k).item)))&&((decide (nx<0))||(decide ((gd l k).item<nx)))) == true) (I6 (k:Int)),pg (((((decide ((gd l k).cart=c))&&(!decide ((gd l k).kind=4)))&&(decide (last<(gd l k).item)))&&((decide (nx<0))||(decide ((gd l k).item<nx)))) == true) (.bool (QaG l (gd l k))),pv (.bool (((((decide ((gd l k).cart=c))&&(!decide ((gd l k).kind=4)))&&(decide (last<(gd l k).item)))&&((decide (nx<0))||(decide ((gd l k).item<nx))))&&(QaG l (gd l k))))] (fun _ _=>_) [33] (by kernel_rfl) hs ⟨?_,?_,?_,?_,?_,?_,?_,?_,?_,?_,?_,?_,?_,?_,?_,?_,?_,?_,?_,?_,?_,?_,?_,?_,?_,?_,?_,?_,?_,?_,?_,?_,?_,?_,trivial⟩ ?_)))))))))))))))))
   ·exact ob [] [] rfl rfl fun D ρ w hs=>Qac (V:=.slice a l.length ca) rfl ⟨rfl,hs⟩
   ·exact ob [] [] rfl rfl fun D ρ w hs=>Qac (V:=I6 (k:Int)) rfl ⟨rfl,hs⟩
   ·exact ob [0,1] [] rfl rfl fun D ρ w hs=>Qat Qbv Qa0.1 (Rd.own' hr hs) rfl rfl (by omega) (by rw [QQ6];omega) ⟨rfl,hs⟩
   ·exact ob [2] [] rfl rfl fun D ρ w hs=>Qaf QcS rfl ⟨rfl,hs⟩
   ·exact ob [3] [] rfl rfl fun D ρ w hs=>QaQ (j:=3) (V:=I7 ((gd l k).cart)) k Qap (Rd.own' hr hs) (QaY (by omega)) rfl rfl (by omega) ⟨rfl,hs⟩
   ·exact ob [] [] rfl rfl fun D ρ w hs=>Qac (V:=I7 c) rfl ⟨rfl,hs⟩
   ·exact ob [4,5] [] rfl rfl fun D ρ w hs=>QaM rfl rfl ⟨rfl,hs⟩
   ·exact ob [6] [] rfl rfl fun D ρ w hs=>Qac (V:=.bool (decide ((gd l k).cart=c))) rfl ⟨rfl,hs⟩
   ·exact obg [7] [] (decide ((gd l k).cart=c)) rfl (fun _=>rfl) rfl (fun _ _ _ _ h=>h) fun D ρ w hG hs=>Qac (V:=.slice a l.length ca) rfl ⟨rfl,hs⟩
   ·exact obg [7] [] (decide ((gd l k).cart=c)) rfl (fun _=>rfl) rfl (fun _ _ _ _ h=>h) fun D ρ w hG hs=>Qac (V:=I6 (k:Int)) rfl ⟨rfl,hs⟩
   ·refine obgy [7,8,9] [] [8,9] (decide ((gd l k).cart=c)) rfl (fun _=>rfl) rfl (fun _ _ _ _ h=>h) (fun hG=>⟨hG,hG,trivial⟩) fun D ρ w hG hs=>?_
    have hgd:=QQ1 (eq_of_beq (hG))
    exact Qat Qbv Qa0.1 (Rd.own' hr hs) rfl rfl (by omega) (by rw [QQ6];omega) ⟨rfl,hs⟩
   ·exact obgy [7,10] [] [10] (decide ((gd l k).cart=c)) rfl (fun _=>rfl) rfl (fun _ _ _ _ h=>h) (fun hG=>⟨hG,trivial⟩) fun D ρ w hG hs=>Qaf Qbt rfl ⟨rfl,hs⟩
   ·refine obgy [7,11] [] [11] (decide ((gd l k).cart=c)) rfl (fun _=>rfl) rfl (fun _ _ _ _ h=>h) (fun hG=>⟨hG,trivial⟩) fun D ρ w hG hs=>?_
    have hgd:=QQ1 (eq_of_beq (hG))
    exact QaQ (j:=2) (V:=.int .u8 ((gd l k).kind)) k QcF (Rd.own' hr hs) (QaY (by omega)) rfl rfl (by omega) ⟨rfl,hs⟩
   ·exact obgy [7,12] [] [12] (decide ((gd l k).cart=c)) rfl (fun _=>rfl) rfl (fun _ _ _ _ h=>h) (fun hG=>⟨hG,trivial⟩) fun D ρ w hG hs=>Qcr rfl rfl ⟨rfl,hs⟩
   ·exact ob [7,13] [] rfl rfl fun D ρ w hs=>Qa3 (h':=!decide ((gd l k).kind=4)) rfl rfl rfl ⟨rfl,hs⟩
   ·exact ob [14] [] rfl rfl fun D ρ w hs=>Qac (V:=.bool ((decide ((gd l k).cart=c))&&(!decide ((gd l k).kind=4)))) rfl ⟨rfl,hs⟩
   ·exact obg [15] [] ((decide ((gd l k).cart=c))&&(!decide ((gd l k).kind=4))) rfl (fun _=>rfl) rfl (fun _ _ _ _ h=>h) fun D ρ w hG hs=>Qac (V:=I6 ((gd l k).item)) rfl ⟨rfl,hs⟩
   ·exact obg [15] [] ((decide ((gd l k).cart=c))&&(!decide ((gd l k).kind=4))) rfl (fun _=>rfl) rfl (fun _ _ _ _ h=>h) fun D ρ w hG hs=>Qac (V:=I6 last) rfl ⟨rfl,hs⟩
   ·exact obgy [15,16,17] [] [16,17] ((decide ((gd l k).cart=c))&&(!decide ((gd l k).kind=4))) rfl (fun _=>rfl) rfl (fun _ _ _ _ h=>h) (fun hG=>⟨hG,hG,trivial⟩) fun D ρ w hG hs=>Qcb rfl rfl ⟨rfl,hs⟩
   ·exact ob [15,18] [] rfl rfl fun D ρ w hs=>Qa3 (h':=decide (last<(gd l k).item)) rfl rfl rfl ⟨rfl,hs⟩
   ·exact ob [19] [] rfl rfl fun D ρ w hs=>Qac (V:=.bool (((decide ((gd l k).cart=c))&&(!decide ((gd l k).kind=4)))&&(decide (last<(gd l k).item)))) rfl ⟨rfl,hs⟩
   ·exact obg [20] [] (((decide ((gd l k).cart=c))&&(!decide ((gd l k).kind=4)))&&(decide (last<(gd l k).item))) rfl (fun _=>rfl) rfl (fun _ _ _ _ h=>h) fun D ρ w hG hs=>Qac (V:=I6 nx) rfl ⟨rfl,hs⟩
   ·exact obgy [20,21] [] [21] (((decide ((gd l k).cart=c))&&(!decide ((gd l k).kind=4)))&&(decide (last<(gd l k).item))) rfl (fun _=>rfl) rfl (fun _ _ _ _ h=>h) (fun hG=>⟨hG,trivial⟩) fun D ρ w hG hs=>QaP rfl rfl ⟨rfl,hs⟩
   ·exact obgy [20,22] [] [22] (((decide ((gd l k).cart=c))&&(!decide ((gd l k).kind=4)))&&(decide (last<(gd l k).item))) rfl (fun _=>rfl) rfl (fun _ _ _ _ h=>h) (fun hG=>⟨hG,trivial⟩) fun D ρ w hG hs=>Qac (V:=.bool (decide (nx<0))) rfl ⟨rfl,hs⟩
   ·exact obg [23] [] (decide (nx<0)) rfl (fun _=>rfl) rfl (fun _ _ _ _ h=>h) fun D ρ w hG hs=>Qac (V:=I6 ((gd l k).item)) rfl ⟨rfl,hs⟩
   ·exact obg [23] [] (decide (nx<0)) rfl (fun _=>rfl) rfl (fun _ _ _ _ h=>h) fun D ρ w hG hs=>Qac (V:=I6 nx) rfl ⟨rfl,hs⟩
   ·exact obgy [23,24,25] [] [24,25] (decide (nx<0)) rfl (fun _=>rfl) rfl (fun _ _ _ _ h=>h) (fun hG=>⟨hG,hG,trivial⟩) fun D ρ w hG hs=>QaP rfl rfl ⟨rfl,hs⟩
   ·exact obgy [20,23,26] [] [23] (((decide ((gd l k).cart=c))&&(!decide ((gd l k).kind=4)))&&(decide (last<(gd l k).item))) rfl (fun _=>rfl) rfl (fun _ _ _ _ h=>h) (fun hG=>⟨hG,trivial⟩) fun D ρ w hG hs=>QrO (h':=decide ((gd l k).item<nx)) (G:=((((decide ((gd l k).cart=c))&&(!decide ((gd l k).kind=4)))&&(decide (last<(gd l k).item))) == true)) hG rfl rfl rfl ⟨rfl,hs⟩
   ·exact ob [20,27] [] rfl rfl fun D ρ w hs=>Qa3 (h':=(decide (nx<0))||(decide ((gd l k).item<nx))) rfl rfl rfl ⟨rfl,hs⟩
   ·exact ob [28] [] rfl rfl fun D ρ w hs=>Qac (V:=.bool ((((decide ((gd l k).cart=c))&&(!decide ((gd l k).kind=4)))&&(decide (last<(gd l k).item)))&&((decide (nx<0))||(decide ((gd l k).item<nx))))) rfl ⟨rfl,hs⟩
   ·exact obg [29] [] ((((decide ((gd l k).cart=c))&&(!decide ((gd l k).kind=4)))&&(decide (last<(gd l k).item)))&&((decide (nx<0))||(decide ((gd l k).item<nx)))) rfl (fun _=>rfl) rfl (fun _ _ _ _ h=>h) fun D ρ w hG hs=>Qac (V:=.slice a l.length ca) rfl ⟨rfl,hs⟩
   ·exact obg [29] [] ((((decide ((gd l k).cart=c))&&(!decide ((gd l k).kind=4)))&&(decide (last<(gd l k).item)))&&((decide (nx<0))||(decide ((gd l k).item<nx)))) rfl (fun _=>rfl) rfl (fun _ _ _ _ h=>h) fun D ρ w hG hs=>Qac (V:=I6 (k:Int)) rfl ⟨rfl,hs⟩
   ·exact obgy [29,30,31] [] [30,31] ((((decide ((gd l k).cart=c))&&(!decide ((gd l k).kind=4)))&&(decide (last<(gd l k).item)))&&((decide (nx<0))||(decide ((gd l k).item<nx)))) rfl (fun _=>rfl) rfl (fun _ _ _ _ h=>h) (fun hG=>⟨hG,hG,trivial⟩) fun D ρ w hG hs=>Qar (vs:=[.slice a l.length ca,I6 (k:Int)]) (V:=.bool (QaG l (gd l k))) Qnx rfl rfl (QfE _ a ca l k (by omega) hl hlen (Rd.own' hr hs)) hs fun _ hs=>⟨rfl,hs⟩
   ·exact ob [29,32] [] rfl rfl fun D ρ w hs=>Qa3 (h':=QaG l (gd l k)) rfl rfl rfl ⟨rfl,hs⟩
   rintro ρ1 w4 ρ2 hρ hs
   replace hρ:ρ2=upd (mix [22,23,24,25,26,27,28,29,30,31,32,33,34,35,36,37,38,39,40,41,42,43,44,45,46,47,48,49,50,51,52,53,54,55] ρ1 _) 55 (.bool (((((decide ((gd l k).cart=c))&&(!decide ((gd l k).kind=4)))&&(decide (last<(gd l k).item)))&&((decide (nx<0))||(decide ((gd l k).item<nx))))&&(QaG l (gd l k)))):=hρ
   subst hρ
   refine Qal (t:=((((decide ((gd l k).cart=c))&&(!decide ((gd l k).kind=4)))&&(decide (last<(gd l k).item)))&&((decide (nx<0))||(decide ((gd l k).item<nx))))&&(QaG l (gd l k))) rfl (fun c5=>?_) (fun c5=>?_)
   ·
    have c5r:=Qcd c5
    replace c5:=QbQ c5
    have c5rr:=Qcd c5
    replace c5:=QbQ c5
    have c5rrr:=Qcd c5
    replace c5:=QbQ c5
    have c5rrrr:=Qcd c5
    replace c5:=QbQ c5
    replace c5:=QQ1 c5
    replace c5rrrr:=QbL c5rrrr
    replace c5rrrr:=QQ2 c5rrrr
    replace c5rrr:=QQ1 c5rrr
    refine Qab (Qaa (Qac (V:=I6 ((gd l k).item)) rfl (Qaa (Qad (V:=I6 ((gd l k).item)) rfl (Qae (Qab (Qaa (Qac (V:=I6 (k:Int)) rfl (Qaa (Qav (a:=(k:Int)) (b:=1) (c:=((k+1:Nat):Int)) rfl rfl (Qaj (by omega) (by omega)) (Qaa (Qad (V:=I6 ((k+1:Nat):Int)) rfl (Qae ?_)))))))))))))
    refine ⟨_,?_,_,k+1,(gd l k).item,Qah (Qah (Qam (ds:=[7,8,9,10,11,12,13,14,15,16,17,18,19,20,21,22,23,24,25,26,27,28,29,30,31,32,33,34,35,36,37,38,39,40,41,42,43,44,45,46,47,48,49,50,51,52,53,54,55,56]) (by repeat (first|exact Agr.refl _ _|refine Agr.upd ?_ rfl|refine Agr.mix ?_ rfl))) rfl) rfl,(by omega),(QmT hmin (by omega) (Qss c5 c5rrrr c5r) c5rrr (by have:=c5rr;simp at this;omega)),(by omega),rfl,hs.take 0⟩
    omega
   ·
    refine Qan (Qab (Qaa (Qac (V:=I6 (k:Int)) rfl (Qaa (Qav (a:=(k:Int)) (b:=1) (c:=((k+1:Nat):Int)) rfl rfl (Qaj (by omega) (by omega)) (Qaa (Qad (V:=I6 ((k+1:Nat):Int)) rfl (Qae ?_))))))))
    refine ⟨_,?_,_,k+1,nx,Qah (Qah (Qam (ds:=[7,8,9,10,11,12,13,14,15,16,17,18,19,20,21,22,23,24,25,26,27,28,29,30,31,32,33,34,35,36,37,38,39,40,41,42,43,44,45,46,47,48,49,50,51,52,53,54,55,56]) (by repeat (first|exact Agr.refl _ _|refine Agr.upd ?_ rfl|refine Agr.mix ?_ rfl))) rfl) rfl,(by omega),(Qov hmin (by omega) (by
 intro ⟨h0,h1,h2⟩
 have hz:=c5
 unfold Qpd at h0
 simp only [Bool.and_eq_true,decide_eq_true_eq] at h0
 have h3:¬(gd l k).kind=4:=by have:=h0.2.1;simpa using this
 simp [h0.1,h0.2.2,h1,h3] at hz
 omega)),(by omega),rfl,hs.take 0⟩
    omega
  ·
   replace c2:=QQ2 c2
   refine Qaz (Qag (Qab (Qaa (Qac (V:=I6 nx) rfl (Qaa (Qad (V:=I6 nx) rfl (Qae (Qas ?_))))))))
   refine ⟨_,Qao (V:=I6 nx) Tryz.results63 rfl,?_⟩
   refine ⟨congrArg Ending.returned ?_,hs.take 0⟩
   rw [hmin,Qme (by omega)];rfl
theorem Qqz (w:World) (a:Option Addr) (ca:Nat) (l:List Opn) (c n:Int) (hl:∀ o∈l,QbH o) (hlen:l.length≤1000) (hr:Rd w (.slice a l.length ca) 23 (l.map oc)):Calls Tryz.prog 64 #[.slice a l.length ca,.int .u16 c,.int .i64 n] w (fun e w'=>e = .returned (.int .u32 (QgT l c n))∧Own w no w' []):=by
 refine Qai (n:=81) Tryz.func64 rfl Tryz.ntmps64 rfl ?_
 have hs:=Own.start w
 have hn:=hr.sml
 refine Qag (Qab (Qaa (Qad (V:=.int .u32 0) rfl (Qae (Qag (Qab (Qaa (Qad (V:=.int .u32 0) rfl (Qaa (Qad (V:=I6 (-1)) rfl (Qae (Qag (Qag (Qab (Qaa (Qad (V:=I6 0) rfl (Qae (Qak (Qax (fun ρ μ ρ' w'=>∃ (ρo:Env) (k:Nat) (sm:Int) (bi:Int),ρ'=upd (upd (upd (mix [7,8,9,10,11,12,13,14,15,16,17,18,19,20,21,22,23,24,25,26,27,28,29,30,31,32,33,34,35,36,37,38,39,40,41,42,43,44,45,46,47,48,49,50,51,52,53,54,55,56,57,58,59,60,61,62,63,64,65,66,67,68,69] ρo ρ) 9 (I6 (k:Int))) 7 (.int .u32 sm)) 8 (I6 bi)∧(k≤l.length)∧(sm=QeE (ofO l c n k))∧(QeT l c n k bi)∧μ=l.length-k∧Own w no w' []) ?_ ?_)))))))))))))))))))
 ·exact ⟨_,_,0,0,-1,Qah (Qah (Qah (Qam (ds:=[7,8,9,10,11,12,13,14,15,16,17,18,19,20,21,22,23,24,25,26,27,28,29,30,31,32,33,34,35,36,37,38,39,40,41,42,43,44,45,46,47,48,49,50,51,52,53,54,55,56,57,58,59,60,61,62,63,64,65,66,67,68,69]) (Agr.refl _ _)) rfl) rfl) rfl,(by omega),rfl,(.inl ⟨rfl,rfl⟩),rfl,hs⟩
 ·rintro μ ρ' w1 ⟨ρo,k,sm,bi,rfl,hk,hsm,hbi,rfl,hs⟩
  have hbb:=Qlb hbi hk
  refine Qag (Qag (Qab (Qaa (Qac (V:=I6 (k:Int)) rfl (Qaa (Qac (V:=.slice a l.length ca) rfl (Qaa (QaX (n:=l.length) Qbv (Rd.own' hr hs) (by simp) rfl (Qaa (QaP rfl rfl (Qae (Qal (t:=decide ((k:Int)<((l.length:Nat):Int))) rfl (fun c2=>?_) (fun c2=>?_)))))))))))))
  ·
   replace c2:=QQ1 c2
   refine Qan (Qag (Qak (Qag (Qag ?_))))
   have ⟨_,_,_,⟨hi1,hi2⟩,⟨hq1,hq2⟩,_⟩:=hl _ (Qbq (l:=l) (i:=k) (by omega))
   refine Qbi [some 16,some 17,some 18,some 19,some 20,some 21,some 22,some 23,some 24,some 25,some 26,some 27,some 28,some 29,some 30,some 31,some 32,some 33,some 34,some 35,some 36,some 37,some 38] [] [0,0,3,7,15,0,63,127,255,255,1023,2047,4095,8191,255,32767,65535,131071,262143,262143,1048575,2097151,4194303] [pv (.slice a l.length ca),pv (I6 (k:Int)),pv (.pointer (some ⟨bkS (.slice a l.length ca),ofS (.slice a l.length ca)+(k:Int).toNat*23,none⟩)),pv (.pointer (some ⟨bkS (.slice a l.length ca),ofS (.slice a l.length ca)+(k:Int).toNat*23+3,none⟩)),pv (I7 ((gd l k).cart)),pv (I7 c),pv (.bool (!decide ((gd l k).cart=c))),pv (.bool (!decide ((gd l k).cart=c))),pg ((!decide ((gd l k).cart=c)) == false) (.slice a l.length ca),pg ((!decide ((gd l k).cart=c)) == false) (I6 (k:Int)),pg ((!decide ((gd l k).cart=c)) == false) (.pointer (some ⟨bkS (.slice a l.length ca),ofS (.slice a l.length ca)+(k:Int).toNat*23,none⟩)),pg ((!decide ((gd l k).cart=c)) == false) (.pointer (some ⟨bkS (.slice a l.length ca),ofS (.slice a l.length ca)+(k:Int).toNat*23+4,none⟩)),pg ((!decide ((gd l k).cart=c)) == false) (I7 ((gd l k).item)),pg ((!decide ((gd l k).cart=c)) == false) (I6 ((gd l k).item)),pg ((!decide ((gd l k).cart=c)) == false) (I6 n),pg ((!decide ((gd l k).cart=c)) == false) (.bool (!decide ((gd l k).item=n))),pv (.bool ((!decide ((gd l k).cart=c))||(!decide ((gd l k).item=n)))),pv (.bool ((!decide ((gd l k).cart=c))||(!decide ((gd l k).item=n)))),pg (((!decide ((gd l k).cart=c))||(!decide ((gd l k).item=n))) == false) (.slice a l.length ca),pg (((!decide ((gd l k).cart=c))||(!decide ((gd l k).item=n))) == false) (I6 (k:Int)),pg (((!decide ((gd l k).cart=c))||(!decide ((gd l k).item=n))) == false) (.bool (QaG l (gd l k))),pg (((!decide ((gd l k).cart=c))||(!decide ((gd l k).item=n))) == false) (.bool (!(QaG l (gd l k)))),pv (.bool (((!decide ((gd l k).cart=c))||(!decide ((gd l k).item=n)))||(!(QaG l (gd l k)))))] (fun _ _=>_) [22] (by kernel_rfl) hs ⟨?_,?_,?_,?_,?_,?_,?_,?_,?_,?_,?_,?_,?_,?_,?_,?_,?_,?_,?_,?_,?_,?_,?_,trivial⟩ ?_
   ·exact ob [] [] rfl rfl fun D ρ w hs=>Qac (V:=.slice a l.length ca) rfl ⟨rfl,hs⟩
   ·exact ob [] [] rfl rfl fun D ρ w hs=>Qac (V:=I6 (k:Int)) rfl ⟨rfl,hs⟩
   ·exact ob [0,1] [] rfl rfl fun D ρ w hs=>Qat Qbv Qa0.1 (Rd.own' hr hs) rfl rfl (by omega) (by rw [QQ6];omega) ⟨rfl,hs⟩
   ·exact ob [2] [] rfl rfl fun D ρ w hs=>Qaf QcS rfl ⟨rfl,hs⟩
   ·exact ob [3] [] rfl rfl fun D ρ w hs=>QaQ (j:=3) (V:=I7 ((gd l k).cart)) k Qap (Rd.own' hr hs) (QaY (by omega)) rfl rfl (by omega) ⟨rfl,hs⟩
   ·exact ob [] [] rfl rfl fun D ρ w hs=>Qac (V:=I7 c) rfl ⟨rfl,hs⟩
   ·exact ob [4,5] [] rfl rfl fun D ρ w hs=>Qcr rfl rfl ⟨rfl,hs⟩
   ·exact ob [6] [] rfl rfl fun D ρ w hs=>Qac (V:=.bool (!decide ((gd l k).cart=c))) rfl ⟨rfl,hs⟩
   ·exact obg [7] [] (!decide ((gd l k).cart=c)) rfl (fun _=>rfl) rfl (fun _ _ _ _ h=>h) fun D ρ w hG hs=>Qac (V:=.slice a l.length ca) rfl ⟨rfl,hs⟩
   ·exact obg [7] [] (!decide ((gd l k).cart=c)) rfl (fun _=>rfl) rfl (fun _ _ _ _ h=>h) fun D ρ w hG hs=>Qac (V:=I6 (k:Int)) rfl ⟨rfl,hs⟩
   ·exact obgy [7,8,9] [] [8,9] (!decide ((gd l k).cart=c)) rfl (fun _=>rfl) rfl (fun _ _ _ _ h=>h) (fun hG=>⟨hG,hG,trivial⟩) fun D ρ w hG hs=>Qat Qbv Qa0.1 (Rd.own' hr hs) rfl rfl (by omega) (by rw [QQ6];omega) ⟨rfl,hs⟩
   ·exact obgy [7,10] [] [10] (!decide ((gd l k).cart=c)) rfl (fun _=>rfl) rfl (fun _ _ _ _ h=>h) (fun hG=>⟨hG,trivial⟩) fun D ρ w hG hs=>Qaf Qcc rfl ⟨rfl,hs⟩
   ·exact obgy [7,11] [] [11] (!decide ((gd l k).cart=c)) rfl (fun _=>rfl) rfl (fun _ _ _ _ h=>h) (fun hG=>⟨hG,trivial⟩) fun D ρ w hG hs=>QaQ (j:=4) (V:=I7 ((gd l k).item)) k Qap (Rd.own' hr hs) (QaY (by omega)) rfl rfl (by omega) ⟨rfl,hs⟩
   ·exact obgy [7,12] [] [12] (!decide ((gd l k).cart=c)) rfl (fun _=>rfl) rfl (fun _ _ _ _ h=>h) (fun hG=>⟨hG,trivial⟩) fun D ρ w hG hs=>QbD Qf4 QfC rfl (Qbh (by omega) (by omega)) ⟨rfl,hs⟩
   ·exact obg [7] [] (!decide ((gd l k).cart=c)) rfl (fun _=>rfl) rfl (fun _ _ _ _ h=>h) fun D ρ w hG hs=>Qac (V:=I6 n) rfl ⟨rfl,hs⟩
   ·exact obgy [7,13,14] [] [13,14] (!decide ((gd l k).cart=c)) rfl (fun _=>rfl) rfl (fun _ _ _ _ h=>h) (fun hG=>⟨hG,hG,trivial⟩) fun D ρ w hG hs=>Qcr rfl rfl ⟨rfl,hs⟩
   ·exact ob [7,15] [] rfl rfl fun D ρ w hs=>QbS (h':=!decide ((gd l k).item=n)) rfl rfl rfl ⟨rfl,hs⟩
   ·exact ob [16] [] rfl rfl fun D ρ w hs=>Qac (V:=.bool ((!decide ((gd l k).cart=c))||(!decide ((gd l k).item=n)))) rfl ⟨rfl,hs⟩
   ·exact obg [17] [] ((!decide ((gd l k).cart=c))||(!decide ((gd l k).item=n))) rfl (fun _=>rfl) rfl (fun _ _ _ _ h=>h) fun D ρ w hG hs=>Qac (V:=.slice a l.length ca) rfl ⟨rfl,hs⟩
   ·exact obg [17] [] ((!decide ((gd l k).cart=c))||(!decide ((gd l k).item=n))) rfl (fun _=>rfl) rfl (fun _ _ _ _ h=>h) fun D ρ w hG hs=>Qac (V:=I6 (k:Int)) rfl ⟨rfl,hs⟩
   ·exact obgy [17,18,19] [] [18,19] ((!decide ((gd l k).cart=c))||(!decide ((gd l k).item=n))) rfl (fun _=>rfl) rfl (fun _ _ _ _ h=>h) (fun hG=>⟨hG,hG,trivial⟩) fun D ρ w hG hs=>Qar (vs:=[.slice a l.length ca,I6 (k:Int)]) (V:=.bool (QaG l (gd l k))) Qnx rfl rfl (QfE _ a ca l k (by omega) hl hlen (Rd.own' hr hs)) hs fun _ hs=>⟨rfl,hs⟩
   ·exact obgy [17,20] [] [20] ((!decide ((gd l k).cart=c))||(!decide ((gd l k).item=n))) rfl (fun _=>rfl) rfl (fun _ _ _ _ h=>h) (fun hG=>⟨hG,trivial⟩) fun D ρ w hG hs=>Qbw rfl ⟨rfl,hs⟩
   ·exact ob [17,21] [] rfl rfl fun D ρ w hs=>QbS (h':=!(QaG l (gd l k))) rfl rfl rfl ⟨rfl,hs⟩
   rintro ρ1 w4 ρ2 hρ hs
   replace hρ:ρ2=upd (mix [16,17,18,19,20,21,22,23,24,25,26,27,28,29,30,31,32,33,34,35,36,37,38] ρ1 _) 38 (.bool (((!decide ((gd l k).cart=c))||(!decide ((gd l k).item=n)))||(!(QaG l (gd l k))))):=hρ
   subst hρ
   refine Qal (t:=((!decide ((gd l k).cart=c))||(!decide ((gd l k).item=n)))||(!(QaG l (gd l k)))) rfl (fun c5=>?_) (fun c5=>?_)
   ·
    refine Qaz (Qab (Qaa (Qac (V:=I6 (k:Int)) rfl (Qaa (Qav (a:=(k:Int)) (b:=1) (c:=((k+1:Nat):Int)) rfl rfl (Qaj (by omega) (by omega)) (Qaa (Qad (V:=I6 ((k+1:Nat):Int)) rfl (Qae ?_))))))))
    have hit:opP l c n (gd l k)=false:=QqH c5
    refine ⟨_,?_,_,k+1,sm,bi,Qah (Qah (Qah (Qam (ds:=[7,8,9,10,11,12,13,14,15,16,17,18,19,20,21,22,23,24,25,26,27,28,29,30,31,32,33,34,35,36,37,38,39,40,41,42,43,44,45,46,47,48,49,50,51,52,53,54,55,56,57,58,59,60,61,62,63,64,65,66,67,68,69]) (by repeat (first|exact Agr.refl _ _|refine Agr.upd ?_ rfl|refine Agr.mix ?_ rfl))) rfl) rfl) rfl,(by omega),(by rw [QkP (by omega) hit];exact hsm),(Qgv hbi (by omega) hit),rfl,hs.take 0⟩
    omega
   ·
    have c5r:=Qfo c5
    replace c5:=Qfl c5
    have c5rr:=Qfo c5
    replace c5:=Qfl c5
    replace c5:=Qbr c5
    replace c5:=QQ1 c5
    replace c5rr:=Qbr c5rr
    replace c5rr:=QQ1 c5rr
    replace c5r:=Qbr c5r
    refine Qan (Qag (Qab (Qaa (Qac (V:=.slice a l.length ca) rfl (Qaa (Qac (V:=I6 (k:Int)) rfl (Qaa (Qat Qbv Qa0.1 (Rd.own' hr hs) rfl rfl (by omega) (by rw [QQ6];omega) (Qaa (Qaf Qbt rfl (Qaa (QaQ (j:=2) (V:=.int .u8 ((gd l k).kind)) k QcF (Rd.own' hr hs) (QaY (by omega)) rfl rfl (by omega) (Qae (Qak (Qag (Qab (Qaa (QaM rfl rfl (Qaa (Qad (V:=.bool (decide ((gd l k).kind=1))) rfl (Qae (Qal (t:=decide ((gd l k).kind=1)) rfl (fun c6=>?_) (fun c6=>?_)))))))))))))))))))))))
    ·
     replace c6:=QQ1 c6
     refine Qab (Qaa (Qac (V:=.int .u32 sm) rfl (Qaa (Qac (V:=.slice a l.length ca) rfl (Qaa (Qac (V:=I6 (k:Int)) rfl (Qaa (Qat Qbv Qa0.1 (Rd.own' hr hs) rfl rfl (by omega) (by rw [QQ6];omega) (Qaa (Qaf Qcu rfl (Qaa (QaQ (j:=5) (V:=I7 ((gd l k).qty)) k Qap (Rd.own' hr hs) (QaY (by omega)) rfl rfl (by omega) (Qaa (QbD Qf4 Qh9 rfl (QeO (by omega) (by omega)) (Qaa (Qav (a:=sm) (b:=(gd l k).qty) (c:=(sm+((gd l k).qty))%4294967296) rfl rfl (QgP _) (Qaa (Qad (V:=.int .u32 ((sm+((gd l k).qty))%4294967296)) rfl (Qae (Qab (Qaa (Qac (V:=I6 (k:Int)) rfl (Qaa (Qav (a:=(k:Int)) (b:=1) (c:=((k+1:Nat):Int)) rfl rfl (Qaj (by omega) (by omega)) (Qaa (Qad (V:=I6 ((k+1:Nat):Int)) rfl (Qae ?_)))))))))))))))))))))))))))
     have hit:opP l c n (gd l k)=true:=Qpv c5 c5rr c5r (by omega)
     refine ⟨_,?_,_,k+1,(sm+((gd l k).qty))%4294967296,bi,Qah (Qah (Qah (Qam (ds:=[7,8,9,10,11,12,13,14,15,16,17,18,19,20,21,22,23,24,25,26,27,28,29,30,31,32,33,34,35,36,37,38,39,40,41,42,43,44,45,46,47,48,49,50,51,52,53,54,55,56,57,58,59,60,61,62,63,64,65,66,67,68,69]) (by repeat (first|exact Agr.refl _ _|refine Agr.upd ?_ rfl|refine Agr.mix ?_ rfl))) rfl) rfl) rfl,(by omega),(QnK hsm (by omega) hit c6),(QlB hbi (by omega) hit c6),rfl,hs.take 0⟩
     omega
    ·
     replace c6:=QQ2 c6
     refine Qag (Qab (Qaa (QaM rfl rfl (Qaa (Qad (V:=.bool (decide ((gd l k).kind=2))) rfl (Qae (Qal (t:=decide ((gd l k).kind=2)) rfl (fun c7=>?_) (fun c7=>?_))))))))
     ·
      replace c7:=QQ1 c7
      refine Qag (QaC HM [some 56,some 57,some 58,some 59,some 60,some 61,some 62,some 63,some 64,some 65,some 66,some 67,some 68] [] [0,1,3,7,7,31,63,7,7,391,903,2047,4095] [pv (I6 bi),pv (.bool (decide (bi<0))),pv (.bool (decide (bi<0))),pg ((decide (bi<0)) == false) (.slice a l.length ca),pg ((decide (bi<0)) == false) (I6 bi),pg ((decide (bi<0)) == false) (.pointer (some ⟨bkS (.slice a l.length ca),ofS (.slice a l.length ca)+bi.toNat*23,none⟩)),pg ((decide (bi<0)) == false) (.agg (oc (gd l bi.toNat)).toArray),pg ((decide (bi<0)) == false) (.slice a l.length ca),pg ((decide (bi<0)) == false) (I6 (k:Int)),pg ((decide (bi<0)) == false) (.pointer (some ⟨bkS (.slice a l.length ca),ofS (.slice a l.length ca)+(k:Int).toNat*23,none⟩)),pg ((decide (bi<0)) == false) (.agg (oc (gd l k)).toArray),pg ((decide (bi<0)) == false) (.bool (QcM (gd l bi.toNat) (gd l k))),pv (.bool ((decide (bi<0))||(QcM (gd l bi.toNat) (gd l k))))] (fun _ _=>_) [12] (by kernel_rfl) hs ⟨?_,?_,?_,?_,?_,?_,?_,?_,?_,?_,?_,?_,?_,trivial⟩ ?_)
      ·exact ob [] [] rfl rfl fun D ρ w hs=>Qac (V:=I6 bi) rfl ⟨rfl,hs⟩
      ·exact ob [0] [] rfl rfl fun D ρ w hs=>QaP rfl rfl ⟨rfl,hs⟩
      ·exact ob [1] [] rfl rfl fun D ρ w hs=>Qac (V:=.bool (decide (bi<0))) rfl ⟨rfl,hs⟩
      ·exact obg [2] [] (decide (bi<0)) rfl (fun _=>rfl) rfl (fun _ _ _ _ h=>h) fun D ρ w hG hs=>Qac (V:=.slice a l.length ca) rfl ⟨rfl,hs⟩
      ·exact obg [2] [] (decide (bi<0)) rfl (fun _=>rfl) rfl (fun _ _ _ _ h=>h) fun D ρ w hG hs=>Qac (V:=I6 bi) rfl ⟨rfl,hs⟩
      ·refine obgy [2,3,4] [] [3,4] (decide (bi<0)) rfl (fun _=>rfl) rfl (fun _ _ _ _ h=>h) (fun hG=>⟨hG,hG,trivial⟩) fun D ρ w hG hs=>?_
       have hgd:=QQ2 (eq_of_beq (hG))
       exact Qat Qbv Qa0.1 (Rd.own' hr hs) rfl rfl (by omega) (by rw [QQ6];omega) ⟨rfl,hs⟩
      ·refine obgy [2,5] [] [5] (decide (bi<0)) rfl (fun _=>rfl) rfl (fun _ _ _ _ h=>h) (fun hG=>⟨hG,trivial⟩) fun D ρ w hG hs=>?_
       have hgd:=QQ2 (eq_of_beq (hG))
       exact QaZ (j:=0) (vs:=oc (gd l bi.toNat)) bi.toNat Qa0 (Rd.own' hr hs) (QaY (by omega)) rfl rfl rfl (by omega) ⟨rfl,hs⟩
      ·exact obg [2] [] (decide (bi<0)) rfl (fun _=>rfl) rfl (fun _ _ _ _ h=>h) fun D ρ w hG hs=>Qac (V:=.slice a l.length ca) rfl ⟨rfl,hs⟩
      ·exact obg [2] [] (decide (bi<0)) rfl (fun _=>rfl) rfl (fun _ _ _ _ h=>h) fun D ρ w hG hs=>Qac (V:=I6 (k:Int)) rfl ⟨rfl,hs⟩
      ·refine obgy [2,7,8] [] [7,8] (decide (bi<0)) rfl (fun _=>rfl) rfl (fun _ _ _ _ h=>h) (fun hG=>⟨hG,hG,trivial⟩) fun D ρ w hG hs=>?_
       have hgd:=QQ2 (eq_of_beq (hG))
       exact Qat Qbv Qa0.1 (Rd.own' hr hs) rfl rfl (by omega) (by rw [QQ6];omega) ⟨rfl,hs⟩
      ·refine obgy [2,9] [] [9] (decide (bi<0)) rfl (fun _=>rfl) rfl (fun _ _ _ _ h=>h) (fun hG=>⟨hG,trivial⟩) fun D ρ w hG hs=>?_
       have hgd:=QQ2 (eq_of_beq (hG))
       exact QaZ (j:=0) (vs:=oc (gd l k)) k Qa0 (Rd.own' hr hs) (QaY (by omega)) rfl rfl rfl (by omega) ⟨rfl,hs⟩
      ·refine obgy [2,6,10] [] [6,10] (decide (bi<0)) rfl (fun _=>rfl) rfl (fun _ _ _ _ h=>h) (fun hG=>⟨hG,hG,trivial⟩) fun D ρ w hG hs=>?_
       have hgd:=QQ2 (eq_of_beq (hG))
       exact Qar (vs:=[.agg (oc (gd l bi.toNat)).toArray,.agg (oc (gd l k)).toArray]) (V:=.bool (QcM (gd l bi.toNat) (gd l k))) Qsu rfl rfl (Qmc _ (gd l bi.toNat) (gd l k) (hl _ (Qbq (by omega))).2.2.2.2.2.2 (hl _ (Qbq (by omega))).2.2.2.2.2.2) hs fun _ hs=>⟨rfl,hs⟩
      ·exact ob [2,11] [] rfl rfl fun D ρ w hs=>QbS (h':=QcM (gd l bi.toNat) (gd l k)) rfl rfl rfl ⟨rfl,hs⟩
      rintro ρ1 w9 ρ2 hρ hs
      replace hρ:ρ2=upd (mix [56,57,58,59,60,61,62,63,64,65,66,67,68] ρ1 _) 68 (.bool ((decide (bi<0))||(QcM (gd l bi.toNat) (gd l k)))):=hρ
      subst hρ
      refine Qal (t:=(decide (bi<0))||(QcM (gd l bi.toNat) (gd l k))) rfl (fun c10=>?_) (fun c10=>?_)
      ·
       refine Qab (Qaa (Qac (V:=I6 (k:Int)) rfl (Qaa (Qad (V:=I6 (k:Int)) rfl (Qae (Qab (Qaa (Qac (V:=I6 (k:Int)) rfl (Qaa (Qav (a:=(k:Int)) (b:=1) (c:=((k+1:Nat):Int)) rfl rfl (Qaj (by omega) (by omega)) (Qaa (Qad (V:=I6 ((k+1:Nat):Int)) rfl (Qae ?_)))))))))))))
       have hit:opP l c n (gd l k)=true:=Qpv c5 c5rr c5r (by omega)
       refine ⟨_,?_,_,k+1,sm,(k:Int),Qah (Qah (Qah (Qam (ds:=[7,8,9,10,11,12,13,14,15,16,17,18,19,20,21,22,23,24,25,26,27,28,29,30,31,32,33,34,35,36,37,38,39,40,41,42,43,44,45,46,47,48,49,50,51,52,53,54,55,56,57,58,59,60,61,62,63,64,65,66,67,68,69]) (by repeat (first|exact Agr.refl _ _|refine Agr.upd ?_ rfl|refine Agr.mix ?_ rfl))) rfl) rfl) rfl,(by omega),(Qmx hsm (by omega) hit c6),(QkA hbi (by omega) hit c6 c10),rfl,hs.take 0⟩
       omega
      ·
       have c10r:=Qfo c10
       replace c10:=Qfl c10
       replace c10:=QQ2 c10
       refine Qan (Qab (Qaa (Qac (V:=I6 (k:Int)) rfl (Qaa (Qav (a:=(k:Int)) (b:=1) (c:=((k+1:Nat):Int)) rfl rfl (Qaj (by omega) (by omega)) (Qaa (Qad (V:=I6 ((k+1:Nat):Int)) rfl (Qae ?_))))))))
       have hit:opP l c n (gd l k)=true:=Qpv c5 c5rr c5r (by omega)
       refine ⟨_,?_,_,k+1,sm,bi,Qah (Qah (Qah (Qam (ds:=[7,8,9,10,11,12,13,14,15,16,17,18,19,20,21,22,23,24,25,26,27,28,29,30,31,32,33,34,35,36,37,38,39,40,41,42,43,44,45,46,47,48,49,50,51,52,53,54,55,56,57,58,59,60,61,62,63,64,65,66,67,68,69]) (by repeat (first|exact Agr.refl _ _|refine Agr.upd ?_ rfl|refine Agr.mix ?_ rfl))) rfl) rfl) rfl,(by omega),(Qmx hsm (by omega) hit c6),(Qkq hbi (by omega) hit c6 (by rw [QQ4 c10,c10r];rfl)),rfl,hs.take 0⟩
       omega
     ·
      replace c7:=QQ2 c7
      refine Qan (Qab (Qaa (Qac (V:=I6 (k:Int)) rfl (Qaa (Qav (a:=(k:Int)) (b:=1) (c:=((k+1:Nat):Int)) rfl rfl (Qaj (by omega) (by omega)) (Qaa (Qad (V:=I6 ((k+1:Nat):Int)) rfl (Qae ?_))))))))
      have hit:opP l c n (gd l k)=false:=Qqc c5r c6 c7
      refine ⟨_,?_,_,k+1,sm,bi,Qah (Qah (Qah (Qam (ds:=[7,8,9,10,11,12,13,14,15,16,17,18,19,20,21,22,23,24,25,26,27,28,29,30,31,32,33,34,35,36,37,38,39,40,41,42,43,44,45,46,47,48,49,50,51,52,53,54,55,56,57,58,59,60,61,62,63,64,65,66,67,68,69]) (by repeat (first|exact Agr.refl _ _|refine Agr.upd ?_ rfl|refine Agr.mix ?_ rfl))) rfl) rfl) rfl,(by omega),(by rw [QkP (by omega) hit];exact hsm),(Qgv hbi (by omega) hit),rfl,hs.take 0⟩
      omega
  ·
   replace c2:=QQ2 c2
   refine Qaz (Qag (Qag ?_))
   have hbb:=Qlb hbi hk
   refine Qab (Qaa (Qac (V:=I6 bi) rfl (Qaa (QcN rfl rfl (Qae (Qal (t:=decide (0≤bi)) rfl (fun c11=>?_) (fun c11=>?_)))))))
   ·
    replace c11:=QQ1 c11
    have ⟨hq1,hq2⟩:=(hl _ (Qbq (l:=l) (i:=bi.toNat) (by omega))).2.2.2.2.1
    refine Qab (Qaa (Qac (V:=.int .u32 sm) rfl (Qaa (Qac (V:=.slice a l.length ca) rfl (Qaa (Qac (V:=I6 bi) rfl (Qaa (Qat Qbv Qa0.1 (Rd.own' hr hs) rfl rfl (by omega) (by rw [QQ6];omega) (Qaa (Qaf Qcu rfl (Qaa (QaQ (j:=5) (V:=I7 ((gd l bi.toNat).qty)) bi.toNat Qap (Rd.own' hr hs) (QaY (by omega)) rfl rfl (by omega) (Qaa (QbD Qf4 Qh9 rfl (QeO (by omega) (by omega)) (Qaa (Qav (a:=sm) (b:=(gd l bi.toNat).qty) (c:=(sm+((gd l bi.toNat).qty))%4294967296) rfl rfl (QgP _) (Qaa (Qad (V:=.int .u32 ((sm+((gd l bi.toNat).qty))%4294967296)) rfl (Qae (Qag (Qab (Qaa (Qac (V:=.int .u32 ((sm+((gd l bi.toNat).qty))%4294967296)) rfl (Qaa (Qad (V:=.int .u32 ((sm+((gd l bi.toNat).qty))%4294967296)) rfl (Qae (Qas ?_)))))))))))))))))))))))))))
    refine ⟨_,Qao (V:=.int .u32 ((sm+((gd l bi.toNat).qty))%4294967296)) Tryz.results64 rfl,?_⟩
    refine ⟨congrArg Ending.returned ?_,hs.take 0⟩
    rw [QmA hsm hbi (by omega) c11]
   ·
    replace c11:=QQ2 c11
    refine Qan (Qag (Qab (Qaa (Qac (V:=.int .u32 sm) rfl (Qaa (Qad (V:=.int .u32 sm) rfl (Qae (Qas ?_))))))))
    refine ⟨_,Qao (V:=.int .u32 sm) Tryz.results64 rfl,?_⟩
    refine ⟨congrArg Ending.returned ?_,hs.take 0⟩
    rw [Ql6 hl hsm hbi (by omega) c11]
end Tt
end Go.Proofs
namespace Go.Proofs
open Go Go.Vx Go.RowKit
namespace Tt
theorem QlU (w:World) (a:Option Addr) (ca:Nat) (l:List Opn) (c:Int) (hl:∀ o∈l,QbH o) (hlen:l.length≤1000) (hr:Rd w (.slice a l.length ca) 23 (l.map oc)):Calls Tryz.prog 22 #[.slice a l.length ca,.int .u16 c] w (fun e w'=>∃ x:Option Addr × Nat,e = .returned (.agg [.int .u16 (Qcm l c).cart,.slice x.1 (Qcm l c).lines.length x.2,.bool (Qcm l c).out,.int .u32 (Qcm l c).tick].toArray)∧Own w no w' [row (.slice x.1 (Qcm l c).lines.length x.2) ((Qcm l c).lines.map lc) 74 2]∧True):=by
 refine Qai (n:=71) Tryz.func22 rfl Tryz.ntmps22 rfl ?_
 have hs:=Own.start w
 have hn:=hr.sml
 refine Qag (Qab (Qaa (QaJ (cs:=[I7 0,.slice none 0 0,.bool false,.int .u32 0]) Qik rfl hs fun b1 w2 hs=>(Qae (Qag (Qab (Qaa (Qac (V:=I7 c) rfl (Qaa (Qcy (vs:=[(0,I7 c)]) (cs:=[I7 c,.slice none 0 0,.bool false,.int .u32 0]) QqD (rfl) rfl (Qaa (QaJ (cs:=[I7 0,.slice none 0 0,.bool false,.int .u32 0]) Qik rfl hs fun b3 w4 hs=>(Qaa (QcC (V:=.agg #[I7 c,.slice none 0 0,.bool false,.int .u32 0]) (vs:=[I7 c,.slice none 0 0,.bool false,.int .u32 0]) (cs':=[I7 c,.slice none 0 0,.bool false,.int .u32 0]) Qeh.1 hs 1 rfl rfl rfl rfl rfl (QQ8 rfl) (Qau rfl (Qau rfl (Qau rfl (Qau rfl Qbu)))) (Qaw rfl) fun w5 hs=>(Qae (Qag (Qag (Qab (Qaa (Qad (V:=I6 0) rfl (Qae (Qak (Qax (fun ρ μ ρ' w'=>∃ (ρo:Env) (k:Nat) (ou:Bool) (tk:Int),ρ'=upd (mix [6,11,12,13,14,15,16,17,18,19,20,21,22,23,24,25,26,27,28,29,30,31,32,33,34,35,36,37,38,39,40,41,42,43,44,45,46,47,48] ρo ρ) 6 (I6 (k:Int))∧(k≤l.length)∧(ou=(l.take k).any (Qn0 l c))∧(tk=tkO (l.take k) c)∧μ=l.length-k∧Own w no w' [blk b1 [I7 0,.slice none 0 0,.bool false,.int .u32 0] 64,blk b3 [I7 c,.slice none 0 0,.bool ou,.int .u32 tk] 64]) ?_ ?_)))))))))))))))))))))))
 ·exact ⟨_,_,0,false,0,Qah (Qam (ds:=[6,11,12,13,14,15,16,17,18,19,20,21,22,23,24,25,26,27,28,29,30,31,32,33,34,35,36,37,38,39,40,41,42,43,44,45,46,47,48]) (Agr.refl _ _)) rfl,(by omega),rfl,rfl,rfl,hs⟩
 ·rintro μ ρ' w6 ⟨ρo,k,ou,tk,rfl,hk,hob,htk,rfl,hs⟩
  refine Qag (Qag (Qab (Qaa (Qac (V:=I6 (k:Int)) rfl (Qaa (Qac (V:=.slice a l.length ca) rfl (Qaa (QaX (n:=l.length) Qbv (Rd.own' hr hs) (by simp) rfl (Qaa (QaP rfl rfl (Qae (Qal (t:=decide ((k:Int)<((l.length:Nat):Int))) rfl (fun c7=>?_) (fun c7=>?_)))))))))))))
  ·
   replace c7:=QQ1 c7
   refine Qan (Qag (Qak (Qag (Qab (Qaa (Qac (V:=.slice a l.length ca) rfl (Qaa (Qac (V:=I6 (k:Int)) rfl (Qaa (Qat Qbv Qa0.1 (Rd.own' hr hs) rfl rfl (by omega) (by rw [QQ6];omega) (Qaa (Qaf QcS rfl (Qaa (QaQ (j:=3) (V:=I7 ((gd l k).cart)) k Qap (Rd.own' hr hs) (QaY (by omega)) rfl rfl (by omega) (Qaa (Qac (V:=I7 c) rfl (Qaa (QaM rfl rfl (Qae (Qal (t:=decide ((gd l k).cart=c)) rfl (fun c8=>?_) (fun c8=>?_)))))))))))))))))))))
   ·
    replace c8:=QQ1 c8
    refine Qag (QaC HM [some 24,some 25,some 26,some 27,some 28,some 29,some 30,some 31,some 32,none] [] [0,1,0,0,12,28,60,127,255,511] [pv (Pt b3 (0+3)),pv (.int .u32 tk),pv (.slice a l.length ca),pv (I6 (k:Int)),pv (.pointer (some ⟨bkS (.slice a l.length ca),ofS (.slice a l.length ca)+(k:Int).toNat*23,none⟩)),pv (.pointer (some ⟨bkS (.slice a l.length ca),ofS (.slice a l.length ca)+(k:Int).toNat*23+6,none⟩)),pv (.int .u32 ((gd l k).tick)),pv (.int .u32 (max tk ((gd l k).tick))),pv (Pt b3 (0+3)),pn] (fun D ρ=>[blk b1 [I7 0,.slice none 0 0,.bool false,.int .u32 0] 64,cond (D 9) (blk b3 [I7 c,.slice none 0 0,.bool ou,.int .u32 (max tk ((gd l k).tick))] 64) (blk b3 [I7 c,.slice none 0 0,.bool ou,.int .u32 tk] 64)]) [] (by kernel_rfl) hs ⟨?_,?_,?_,?_,?_,?_,?_,?_,?_,?_,trivial⟩ ?_)
    ·exact ob [] [] rfl rfl fun D ρ w hs=>Qaf Qey rfl ⟨rfl,hs⟩
    ·exact ob [0] [9] rfl rfl fun D ρ w hs=>QaK (V:=.int .u32 tk) Qa7 hs 1 rfl rfl rfl ⟨rfl,hs⟩
    ·exact ob [] [] rfl rfl fun D ρ w hs=>Qac (V:=.slice a l.length ca) rfl ⟨rfl,hs⟩
    ·exact ob [] [] rfl rfl fun D ρ w hs=>Qac (V:=I6 (k:Int)) rfl ⟨rfl,hs⟩
    ·exact ob [2,3] [] rfl rfl fun D ρ w hs=>Qat Qbv Qa0.1 (Rd.own' hr hs) rfl rfl (by omega) (by rw [QQ6];omega) ⟨rfl,hs⟩
    ·exact ob [4] [] rfl rfl fun D ρ w hs=>Qaf Qf0 rfl ⟨rfl,hs⟩
    ·exact ob [5] [] rfl rfl fun D ρ w hs=>QaQ (j:=6) (V:=.int .u32 ((gd l k).tick)) k Qa7 (Rd.own' hr hs) (QaY (by omega)) rfl rfl (by omega) ⟨rfl,hs⟩
    ·exact ob [1,6] [] rfl rfl fun D ρ w hs=>Qou rfl rfl ⟨rfl,hs⟩
    ·exact ob [] [] rfl rfl fun D ρ w hs=>Qaf Qey rfl ⟨rfl,hs⟩
    ·exact ob [7,8] [] rfl rfl fun D ρ w hs=>Qdd (V:=.int .u32 (max tk ((gd l k).tick))) (cs':=[I7 c,.slice none 0 0,.bool ou,.int .u32 (max tk ((gd l k).tick))]) Qa7 hs 1 rfl rfl rfl rfl (QQ8 rfl) rfl fun _ hs=>⟨trivial,hs⟩
    rintro ρ1 w10 ρ2 hρ hs
    replace hρ:ρ2=mix [24,25,26,27,28,29,30,31,32] ρ1 _:=hρ
    replace hs:Own w no w10 [blk b1 [I7 0,.slice none 0 0,.bool false,.int .u32 0] 64,blk b3 [I7 c,.slice none 0 0,.bool ou,.int .u32 (max tk ((gd l k).tick))] 64]:=hs
    subst hρ
    refine Qbi [some 33,some 34,some 35,some 36,some 37,some 38,some 39,some 40,some 41,some 42,some 43,some 44,some 45,some 46,some 47,some 48,none] [] [0,1,3,7,7,31,63,127,255,511,1023,1023,4095,8191,16383,32767,65535] [pv (Pt b3 (0+2)),pv (.bool ou),pv (.bool ou),pg (ou == false) (.slice a l.length ca),pg (ou == false) (I6 (k:Int)),pg (ou == false) (.pointer (some ⟨bkS (.slice a l.length ca),ofS (.slice a l.length ca)+(k:Int).toNat*23,none⟩)),pg (ou == false) (.pointer (some ⟨bkS (.slice a l.length ca),ofS (.slice a l.length ca)+(k:Int).toNat*23+2,none⟩)),pg (ou == false) (.int .u8 ((gd l k).kind)),pg (ou == false) (.bool (decide ((gd l k).kind=4))),pg (ou == false) (.bool (decide ((gd l k).kind=4))),pg ((ou == false)&&((decide ((gd l k).kind=4)) == true)) (.slice a l.length ca),pg ((ou == false)&&((decide ((gd l k).kind=4)) == true)) (I6 (k:Int)),pg ((ou == false)&&((decide ((gd l k).kind=4)) == true)) (.bool (QaG l (gd l k))),pg (ou == false) (.bool ((decide ((gd l k).kind=4))&&(QaG l (gd l k)))),pv (.bool (ou||((decide ((gd l k).kind=4))&&(QaG l (gd l k))))),pv (Pt b3 (0+2)),pn] (fun D ρ=>[blk b1 [I7 0,.slice none 0 0,.bool false,.int .u32 0] 64,cond (D 16) (blk b3 [I7 c,.slice none 0 0,.bool (ou||((decide ((gd l k).kind=4))&&(QaG l (gd l k)))),.int .u32 (max tk ((gd l k).tick))] 64) (blk b3 [I7 c,.slice none 0 0,.bool ou,.int .u32 (max tk ((gd l k).tick))] 64)]) [] (by kernel_rfl) hs ⟨?_,?_,?_,?_,?_,?_,?_,?_,?_,?_,?_,?_,?_,?_,?_,?_,?_,trivial⟩ ?_
    ·exact ob [] [] rfl rfl fun D ρ w hs=>Qaf QeZ rfl ⟨rfl,hs⟩
    ·exact ob [0] [16] rfl rfl fun D ρ w hs=>QaK (V:=.bool ou) QmZ hs 1 rfl rfl rfl ⟨rfl,hs⟩
    ·exact ob [1] [] rfl rfl fun D ρ w hs=>Qac (V:=.bool ou) rfl ⟨rfl,hs⟩
    ·exact obg [2] [] ou rfl (fun _=>rfl) rfl (fun _ _ _ _ h=>h) fun D ρ w hG hs=>Qac (V:=.slice a l.length ca) rfl ⟨rfl,hs⟩
    ·exact obg [2] [] ou rfl (fun _=>rfl) rfl (fun _ _ _ _ h=>h) fun D ρ w hG hs=>Qac (V:=I6 (k:Int)) rfl ⟨rfl,hs⟩
    ·exact obgy [2,3,4] [] [3,4] ou rfl (fun _=>rfl) rfl (fun _ _ _ _ h=>h) (fun hG=>⟨hG,hG,trivial⟩) fun D ρ w hG hs=>Qat Qbv Qa0.1 (Rd.own' hr hs) rfl rfl (by omega) (by rw [QQ6];omega) ⟨rfl,hs⟩
    ·exact obgy [2,5] [] [5] ou rfl (fun _=>rfl) rfl (fun _ _ _ _ h=>h) (fun hG=>⟨hG,trivial⟩) fun D ρ w hG hs=>Qaf Qbt rfl ⟨rfl,hs⟩
    ·exact obgy [2,6] [] [6] ou rfl (fun _=>rfl) rfl (fun _ _ _ _ h=>h) (fun hG=>⟨hG,trivial⟩) fun D ρ w hG hs=>QaQ (j:=2) (V:=.int .u8 ((gd l k).kind)) k QcF (Rd.own' hr hs) (QaY (by omega)) rfl rfl (by omega) ⟨rfl,hs⟩
    ·exact obgy [2,7] [] [7] ou rfl (fun _=>rfl) rfl (fun _ _ _ _ h=>h) (fun hG=>⟨hG,trivial⟩) fun D ρ w hG hs=>QaM rfl rfl ⟨rfl,hs⟩
    ·exact obgy [2,8] [] [8] ou rfl (fun _=>rfl) rfl (fun _ _ _ _ h=>h) (fun hG=>⟨hG,trivial⟩) fun D ρ w hG hs=>Qac (V:=.bool (decide ((gd l k).kind=4))) rfl ⟨rfl,hs⟩
    ·exact obg [9] [] (decide ((gd l k).kind=4)) rfl (fun _=>rfl) rfl (fun _ _ _ _ h=>h) fun D ρ w hG hs=>Qac (V:=.slice a l.length ca) rfl ⟨rfl,hs⟩
    ·exact obg [9] [] (decide ((gd l k).kind=4)) rfl (fun _=>rfl) rfl (fun _ _ _ _ h=>h) fun D ρ w hG hs=>Qac (V:=I6 (k:Int)) rfl ⟨rfl,hs⟩
    ·refine obgy [9,10,11] [] [10,11] (decide ((gd l k).kind=4)) rfl (fun _=>rfl) rfl (fun _ _ _ _ h=>h) (fun hG=>⟨hG,hG,trivial⟩) fun D ρ w hG hs=>?_
     have hgd1:=QQ1 (eq_of_beq (Qcd (hG)))
     exact Qar (vs:=[.slice a l.length ca,.int .i64 (k:Int)]) (V:=.bool (QaG l (gd l k))) Qnx rfl rfl (QfE _ a ca l k (by omega) hl hlen (Rd.own' hr hs)) hs fun _ hs=>⟨rfl,hs⟩
    ·exact obgy [2,9,12] [] [9] ou rfl (fun _=>rfl) rfl (fun _ _ _ _ h=>h) (fun hG=>⟨hG,trivial⟩) fun D ρ w hG hs=>QeA (h':=QaG l (gd l k)) (G:=(ou == false)) hG rfl rfl rfl ⟨rfl,hs⟩
    ·exact ob [2,13] [] rfl rfl fun D ρ w hs=>QbS (h':=(decide ((gd l k).kind=4))&&(QaG l (gd l k))) rfl rfl rfl ⟨rfl,hs⟩
    ·exact ob [] [] rfl rfl fun D ρ w hs=>Qaf QeZ rfl ⟨rfl,hs⟩
    ·exact ob [14,15] [] rfl rfl fun D ρ w hs=>Qdd (V:=.bool (ou||((decide ((gd l k).kind=4))&&(QaG l (gd l k))))) (cs':=[I7 c,.slice none 0 0,.bool (ou||((decide ((gd l k).kind=4))&&(QaG l (gd l k)))),.int .u32 (max tk ((gd l k).tick))]) QmZ hs 1 rfl rfl rfl rfl (QQ8 rfl) rfl fun _ hs=>⟨trivial,hs⟩
    rintro ρ1 w13 ρ2 hρ hs
    replace hρ:ρ2=mix [33,34,35,36,37,38,39,40,41,42,43,44,45,46,47,48] ρ1 _:=hρ
    replace hs:Own w no w13 [blk b1 [I7 0,.slice none 0 0,.bool false,.int .u32 0] 64,blk b3 [I7 c,.slice none 0 0,.bool (ou||((decide ((gd l k).kind=4))&&(QaG l (gd l k)))),.int .u32 (max tk ((gd l k).tick))] 64]:=hs
    subst hρ
    refine Qab (Qaa (Qac (V:=I6 (k:Int)) rfl (Qaa (Qav (a:=(k:Int)) (b:=1) (c:=((k+1:Nat):Int)) rfl rfl (Qaj (by omega) (by omega)) (Qaa (Qad (V:=I6 ((k+1:Nat):Int)) rfl (Qae ?_)))))))
    refine ⟨_,?_,_,k+1,ou||((decide ((gd l k).kind=4))&&(QaG l (gd l k))),max tk ((gd l k).tick),Qah (Qam (ds:=[6,11,12,13,14,15,16,17,18,19,20,21,22,23,24,25,26,27,28,29,30,31,32,33,34,35,36,37,38,39,40,41,42,43,44,45,46,47,48]) (by repeat (first|exact Agr.refl _ _|refine Agr.upd ?_ rfl|refine Agr.mix ?_ rfl))) rfl,(by omega),(by rw [← Qdt (p:=Qn0 l c) hob (by omega)];unfold Qn0;rw [QQ3 c8,Bool.true_and]),(by rw [QqF hl (by omega) c8,← htk]),rfl,hs.take 2⟩
    omega
   ·
    replace c8:=QQ2 c8
    refine Qan (Qab (Qaa (Qac (V:=I6 (k:Int)) rfl (Qaa (Qav (a:=(k:Int)) (b:=1) (c:=((k+1:Nat):Int)) rfl rfl (Qaj (by omega) (by omega)) (Qaa (Qad (V:=I6 ((k+1:Nat):Int)) rfl (Qae ?_))))))))
    refine ⟨_,?_,_,k+1,ou,tk,Qah (Qam (ds:=[6,11,12,13,14,15,16,17,18,19,20,21,22,23,24,25,26,27,28,29,30,31,32,33,34,35,36,37,38,39,40,41,42,43,44,45,46,47,48]) (by repeat (first|exact Agr.refl _ _|refine Agr.upd ?_ rfl|refine Agr.mix ?_ rfl))) rfl,(by omega),(by rw [← Qdt (p:=Qn0 l c) hob (by omega)];unfold Qn0;rw [QQ4 c8];simp),(by rw [QsW (by omega) c8,← htk]),rfl,hs.take 2⟩
    omega
  ·
   replace c7:=QQ2 c7
   refine Qaz (Qag (Qab (Qaa (Qad (V:=.slice none 0 0) rfl (Qae (Qag (Qag (Qab (Qaa (Qac (V:=.slice a l.length ca) rfl (Qaa (Qac (V:=I7 c) rfl (Qaa (Qar (vs:=[.slice a l.length ca,I7 c,I6 (-1)]) (V:=I6 (QdL l c (-1))) QsA rfl rfl ?hc hs fun w14 hs=>?_))))))))))))))
   case hc=>exact (Qjk _ a ca l c (-1) (by omega) hl hlen (Rd.own' hr hs))
   refine Qaa (Qad (V:=I6 (QdL l c (-1))) rfl (Qae (Qak ?_)))
   replace hs:=hs.more (row (.slice none 0 0) (List.map lc []) 74 2) (QbF _ _ _ _)
   have hc0:∀ x∈Qdf l c l.length,0≤x:=fun x hx=>(QgU hl x hx).1
   refine Qax (fun ρ μ ρ' w'=>∃ (ρo:Env) (last:Int) (nx:Int) (I:List Int) (an6:Option Addr) (cn6:Nat) (ol:List Line),ρ'=upd (upd (mix [7,8,52,53,54,55,56,57,58,59,60,61,62,63,64,65,66,67] ρo ρ) 8 (I6 nx)) 7 (.slice an6 ol.length cn6)∧(-1≤last∧last<65536)∧(nx=QdL l c last)∧(((ol.length:Nat):Int)≤last+1)∧(UpTo (Qdf l c l.length) last I)∧(ol=I.map (QoJ l c))∧μ=(65536-last).toNat∧Own w no w' [blk b1 [I7 0,.slice none 0 0,.bool false,.int .u32 0] 64,blk b3 [I7 c,.slice none 0 0,.bool ou,.int .u32 tk] 64,row (.slice an6 ol.length cn6) (ol.map lc) 74 2]) ?_ ?_
   ·exact ⟨_,_,-1,QdL l c (-1),[],none,0,[],Qah (Qah (Qam (ds:=[7,8,52,53,54,55,56,57,58,59,60,61,62,63,64,65,66,67]) (Agr.refl _ _)) rfl) rfl,(by omega),rfl,(by simp),(Qjl hc0),rfl,rfl,hs⟩
   ·rintro μ ρ' w15 ⟨ρo,last,nx,I,an6,cn6,ol,rfl,hla,hnx,hll,hup,hol,rfl,hs⟩
    have hib:=Qqf (c:=c) hl hla.1
    rw [← hnx] at hib
    refine Qag (Qag (Qab (Qaa (Qac (V:=I6 nx) rfl (Qaa (QcN rfl rfl (Qae (Qal (t:=decide (0≤nx)) rfl (fun c16=>?_) (fun c16=>?_)))))))))
    ·
     replace c16:=QQ1 c16
     refine Qan (Qag (Qak (Qab (Qaa (Qac (V:=.slice an6 ol.length cn6) rfl (Qaa (Qac (V:=I6 nx) rfl (Qaa (QbD QfC Qf4 rfl (Qpg (by omega) (by omega)) (Qaa (Qac (V:=.slice a l.length ca) rfl (Qaa (Qac (V:=I7 c) rfl (Qaa (Qac (V:=I6 nx) rfl (Qaa (Qar (vs:=[.slice a l.length ca,I7 c,I6 nx]) (V:=.int .u32 (QgT l c nx)) QtW rfl rfl ?hc hs fun w17 hs=>?_)))))))))))))))))
     case hc=>exact (Qqz _ a ca l c nx hl hlen (Rd.own' hr hs))
     refine Qaa (Qcy (vs:=[(0,I7 nx),(1,.int .u32 (QgT l c nx))]) (cs:=lc (⟨nx,QgT l c nx⟩:Line)) QpG (rfl) rfl (Qaa (QhD (vals:=[.agg (lc (⟨nx,QgT l c nx⟩:Line)).toArray]) (ls:=List.map lc ([(⟨nx,QgT l c nx⟩:Line)]:List Line)) Qks rfl rfl rfl (Qbl (enc:=lc) (fun _=>rfl) _) (QaU QfV _) (QQ8 rfl) hs fun b18 w19 hs=>?_)))
     replace hs:Own w no w19 [blk b1 [I7 0,.slice none 0 0,.bool false,.int .u32 0] 64,blk b3 [I7 c,.slice none 0 0,.bool ou,.int .u32 tk] 64,row (.slice an6 ol.length cn6) (ol.map lc) 74 2,row (.slice (some ⟨b18,0,none⟩) 1 1) ([(⟨nx,QgT l c nx⟩:Line)].map lc) 74 2]:=hs
     refine Qaa (Qdl (ls':=(ol++[(⟨nx,QgT l c nx⟩:Line)]).map lc) (n:=(ol++[(⟨nx,QgT l c nx⟩:Line)]).length) Qks hs 2 rfl rfl rfl (hs.rd 3 rfl) (QaU QfV _) (by simp only [QQ6,QQ7,List.length_cons,List.length_nil];omega) (by simp) (by simp) fun a20 c20 w21 hs=>(Qaa (Qad (V:=.slice a20 ((ol++[(⟨nx,QgT l c nx⟩:Line)]).length) c20) rfl (Qae (Qab (Qaa (Qac (V:=.slice a l.length ca) rfl (Qaa (Qac (V:=I7 c) rfl (Qaa (Qac (V:=I6 nx) rfl (Qaa (Qar (vs:=[.slice a l.length ca,I7 c,I6 nx]) (V:=I6 (QdL l c nx)) QsA rfl rfl ?hc hs fun w22 hs=>?_)))))))))))))
     case hc=>exact (Qjk _ a ca l c nx (by omega) hl hlen (Rd.own' hr hs))
     refine Qaa (Qad (V:=I6 (QdL l c nx)) rfl (Qae ?_))
     refine ⟨_,?_,_,nx,QdL l c nx,I++[nx],a20,c20,ol++[(⟨nx,QgT l c nx⟩:Line)],Qah (Qah (Qam (ds:=[7,8,52,53,54,55,56,57,58,59,60,61,62,63,64,65,66,67]) (by repeat (first|exact Agr.refl _ _|refine Agr.upd ?_ rfl|refine Agr.mix ?_ rfl))) rfl) rfl,(by omega),rfl,(by simp only [QQ7,List.length_singleton];omega),(by rw [hnx];exact Qj8 hl hup hla.1 (by omega)),(Qj3 hol),rfl,hs.take 3⟩
     omega
    ·
     replace c16:=QQ2 c16
     refine Qaz (Qag (Qab (Qaa (Qac (V:=.slice an6 ol.length cn6) rfl (Qaa (Qaf QcR rfl (Qaa (Qdd (V:=.slice an6 ol.length cn6) (cs':=[I7 c,.slice an6 ol.length cn6,.bool ou,.int .u32 tk]) Qft hs 1 rfl rfl rfl rfl (QQ8 rfl) rfl fun w23 hs=>?_))))))))
     replace hs:Own w no w23 [blk b1 [I7 0,.slice none 0 0,.bool false,.int .u32 0] 64,blk b3 [I7 c,.slice an6 ol.length cn6,.bool ou,.int .u32 tk] 64,row (.slice an6 ol.length cn6) (ol.map lc) 74 2]:=hs
     refine Qae (Qag (Qab (Qaa (QaR (cs:=[I7 c,.slice an6 ol.length cn6,.bool ou,.int .u32 tk]) Qeh hs 1 rfl rfl rfl (Qaa (QcC (V:=.agg #[I7 c,.slice an6 ol.length cn6,.bool ou,.int .u32 tk]) (vs:=[I7 c,.slice an6 ol.length cn6,.bool ou,.int .u32 tk]) (cs':=[I7 c,.slice an6 ol.length cn6,.bool ou,.int .u32 tk]) Qeh.1 hs 0 rfl rfl rfl rfl rfl (QQ8 rfl) (Qau rfl (Qau rfl (Qau rfl (Qau rfl Qbu)))) (Qaw rfl) fun w24 hs=>(Qae (Qas ?_))))))))
     refine ⟨_,Qcx (cs:=[I7 c,.slice an6 ol.length cn6,.bool ou,.int .u32 tk]) Tryz.results22 Qeh hs 0 rfl rfl rfl,?_⟩
     have hV:=Qn2 hl (by omega) hob htk hup hla.1 hnx c16 hol
     rw [hV]
     exact ⟨(an6,cn6),rfl,hs.only 2 rfl,trivial⟩
end Tt
end Go.Proofs
namespace Go.Proofs
open Go Go.Vx Go.RowKit
namespace Tt
theorem QoA (w:World) (a:Option Addr) (c:Nat) (l:List Cen) (hN:l.length*25≤140737488355328) (hr:Rd w (.slice a l.length c) 7 (l.map cec)):Calls Tryz.prog 71 #[.slice a l.length c] w (fun e w'=>∃ x:Option Addr × Nat,e = .returned (.slice x.1 (l).length x.2)∧Own w no w' [row (.slice x.1 (l).length x.2) ((l).map cec) 59 7]∧True):=by
 refine Qai (n:=8) Tryz.func71 rfl Tryz.ntmps71 rfl ?_
 have hs:=Own.start w
 have hn:=hr.sml
 refine Qag (Qab (Qaa (Qad (V:=.slice none 0 0) rfl (Qae (Qag (Qag (Qab (Qaa (Qac (V:=.slice a l.length c) rfl (Qaa (QsR QcW rfl rfl (Qae (Qal (t:=a.isNone) rfl (fun c1=>?_) (fun c1=>?_))))))))))))))
 ·
  refine Qag (Qab (Qaa (Qad (V:=.slice none 0 0) rfl (Qae (Qas ?_)))))
  refine ⟨_,Qao (V:=.slice none 0 0) Tryz.results71 rfl,?_⟩
  have hl0:=hr.isN c1
  subst hl0
  exact ⟨(none,0),rfl,(hs.take 0).more _ (QbF _ _ _ _),trivial⟩
 ·
  refine Qan (Qag (Qab (Qaa (QhD (vals:=[]) (ls:=List.map cec ([]:List Cen)) Qej rfl rfl rfl (Qbl (enc:=cec) (fun _=>rfl) _) (QaU Qa2 _) (QQ8 rfl) hs fun b2 w3 hs=>(Qaa (Qac (V:=.slice a l.length c) rfl (Qaa (Qdl (ls':=l.map cec) (n:=l.length) Qej hs 0 rfl rfl rfl (Rd.own' hr hs) (QaU Qa2 _) (by simp only [QQ6,QQ7,List.length_cons,List.length_nil];omega) (by simp) (by simp) fun a4 c4 w5 hs=>(Qaa (Qad (V:=.slice a4 l.length c4) rfl (Qae (Qas ?_))))))))))))
  refine ⟨_,Qao (V:=.slice a4 l.length c4) Tryz.results71 rfl,?_⟩
  exact ⟨(a4,c4),rfl,hs.only 0 rfl,trivial⟩
theorem QjL (w:World) (a:Option Addr) (c:Nat) (l:List Lst) (hN:l.length*9≤140737488355328) (hr:Rd w (.slice a l.length c) 2 (l.map lsc)):Calls Tryz.prog 67 #[.slice a l.length c] w (fun e w'=>∃ x:Option Addr × Nat,e = .returned (.slice x.1 (l).length x.2)∧Own w no w' [row (.slice x.1 (l).length x.2) ((l).map lsc) 87 2]∧True):=by
 refine Qai (n:=8) Tryz.func67 rfl Tryz.ntmps67 rfl ?_
 have hs:=Own.start w
 have hn:=hr.sml
 refine Qag (Qab (Qaa (Qad (V:=.slice none 0 0) rfl (Qae (Qag (Qag (Qab (Qaa (Qac (V:=.slice a l.length c) rfl (Qaa (QsR QdN rfl rfl (Qae (Qal (t:=a.isNone) rfl (fun c1=>?_) (fun c1=>?_))))))))))))))
 ·
  refine Qag (Qab (Qaa (Qad (V:=.slice none 0 0) rfl (Qae (Qas ?_)))))
  refine ⟨_,Qao (V:=.slice none 0 0) Tryz.results67 rfl,?_⟩
  have hl0:=hr.isN c1
  subst hl0
  exact ⟨(none,0),rfl,(hs.take 0).more _ (QbF _ _ _ _),trivial⟩
 ·
  refine Qan (Qag (Qab (Qaa (QhD (vals:=[]) (ls:=List.map lsc ([]:List Lst)) Qg9 rfl rfl rfl (Qbl (enc:=lsc) (fun _=>rfl) _) (QaU Qcw _) (QQ8 rfl) hs fun b2 w3 hs=>(Qaa (Qac (V:=.slice a l.length c) rfl (Qaa (Qdl (ls':=l.map lsc) (n:=l.length) Qg9 hs 0 rfl rfl rfl (Rd.own' hr hs) (QaU Qcw _) (by simp only [QQ6,QQ7,List.length_cons,List.length_nil];omega) (by simp) (by simp) fun a4 c4 w5 hs=>(Qaa (Qad (V:=.slice a4 l.length c4) rfl (Qae (Qas ?_))))))))))))
  refine ⟨_,Qao (V:=.slice a4 l.length c4) Tryz.results67 rfl,?_⟩
  exact ⟨(a4,c4),rfl,hs.only 0 rfl,trivial⟩
theorem Qnq (w:World) (a:Option Addr) (c:Nat) (l:List Cen) (t:Cen) (hsmall:l.length≤4611686018427387904) (g:Nat) (hg:En Tryz.prog g) (cf:Cen→Int) (hcmp:∀ (w:World) (x:Cen),Calls Tryz.prog g #[.agg (cec x).toArray,.agg (cec t).toArray] w (fun e w'=>e = .returned (.int .i64 (cf x))∧Own w no w' [])) (hm:Qli (fun x=>decide (cf x<0)) l) (hr:Rd w (.slice a l.length c) 7 (l.map cec)):Calls Tryz.prog 34 #[.slice a l.length c,.agg (cec t).toArray,.func (.func g) #[] #[]] w (fun e w'=>e = .returned (.tuple #[.int .i64 ((Qci (fun x=>decide (cf x<0)) l:Nat):Int),.bool (decide (Qci (fun x=>decide (cf x<0)) l<l.length)&&decide (cf (gd l (Qci (fun x=>decide (cf x<0)) l))=0))])∧Own w no w' []):=by
 refine Qai (n:=49) Tryz.func34 rfl Tryz.ntmps34 rfl ?_
 have hs:=Own.start w
 have hn:=hr.sml
 have hn2:l.length≤4611686018427387904:=hsmall
 refine Qag (Qab (Qaa (Qa9 (V:=.agg (cec t).toArray) (cs:=cec t) rfl rfl hs fun b1 w2 hs=>(Qaa (Qad (V:=I6 0) rfl (Qaa (Qad (V:=.bool false) rfl (Qae (Qag (Qab (Qaa (Qac (V:=.slice a l.length c) rfl (Qaa (QaX (n:=l.length) Qbm (Rd.own' hr hs) (by simp) rfl (Qaa (Qad (V:=I6 ((l.length:Nat):Int)) rfl (Qae (Qag (Qab (Qaa (Qac (V:=I6 ((l.length:Nat):Int)) rfl (Qaa (Qad (V:=I6 0) rfl (Qaa (Qad (V:=I6 ((l.length:Nat):Int)) rfl (Qae (Qag (Qak (Qax (fun ρ μ ρ' w'=>∃ (ρo:Env) (i:Nat) (j:Nat),ρ'=upd (upd (mix [9,10,11,15,16,17,18,19,20,21,22,23,24,25,26,27,28,29,30,31,32,33,34] ρo ρ) 9 (I6 (i:Int))) 10 (I6 (j:Int))∧(i≤Qci (fun x=>decide (cf x<0)) l)∧(Qci (fun x=>decide (cf x<0)) l≤j)∧(j≤l.length)∧μ=j-i∧Own w no w' [blk b1 (cec t) 59]) ?_ ?_)))))))))))))))))))))))))))))
 ·exact ⟨_,_,0,l.length,Qah (Qah (Qam (ds:=[9,10,11,15,16,17,18,19,20,21,22,23,24,25,26,27,28,29,30,31,32,33,34]) (Agr.refl _ _)) rfl) rfl,(Nat.zero_le _),QfJ,(Nat.le_refl _),rfl,hs⟩
 ·rintro μ ρ' w3 ⟨ρo,i,j,rfl,hip,hpj,hjl,rfl,hs⟩
  refine Qag (Qag (Qab (Qaa (Qac (V:=I6 (i:Int)) rfl (Qaa (Qac (V:=I6 (j:Int)) rfl (Qaa (QaP rfl rfl (Qae (Qal (t:=decide ((i:Int)<(j:Int))) rfl (fun c4=>?_) (fun c4=>?_)))))))))))
  ·
   replace c4:=QQ1 c4
   refine Qan (Qak (Qag (Qab (Qaa (Qac (V:=I6 (i:Int)) rfl (Qaa (Qac (V:=I6 (j:Int)) rfl (Qaa (Qav (a:=(i:Int)) (b:=(j:Int)) (c:=((i+j:Nat):Int)) rfl rfl (Qaj (by omega) (by omega)) (Qaa (QbD QfC Qdg rfl (QcX (by omega) (by omega)) (Qaa (Qgr rfl rfl (Qaa (QbD Qdg QfC rfl (Qbh (by omega) (by omega)) (Qaa (Qad (V:=I6 (((i+j)/2:Nat):Int)) rfl (Qae (Qag (QaC HM [some 24,some 25,some 26,some 27,some 28,some 29,some 30,some 31] [] [0,0,0,6,14,0,63,127] [pv (.func (.func g) #[] #[]),pv (.slice a l.length c),pv (I6 (((i+j)/2:Nat):Int)),pv (.pointer (some ⟨bkS (.slice a l.length c),ofS (.slice a l.length c)+(((i+j)/2:Nat):Int).toNat*7,none⟩)),pv (.agg (cec (gd l ((i+j)/2))).toArray),pv (.agg (cec t).toArray),pv (I6 (cf (gd l ((i+j)/2)))),pv (.bool (decide (cf (gd l ((i+j)/2))<0)))] (fun _ _=>_) [7] (by kernel_rfl) hs ⟨?_,?_,?_,?_,?_,?_,?_,?_,trivial⟩ ?_))))))))))))))))))))
   ·exact ob [] [] rfl rfl fun D ρ w hs=>Qac (V:=.func (.func g) #[] #[]) rfl ⟨rfl,hs⟩
   ·exact ob [] [] rfl rfl fun D ρ w hs=>Qac (V:=.slice a l.length c) rfl ⟨rfl,hs⟩
   ·exact ob [] [] rfl rfl fun D ρ w hs=>Qac (V:=I6 (((i+j)/2:Nat):Int)) rfl ⟨rfl,hs⟩
   ·exact ob [1,2] [] rfl rfl fun D ρ w hs=>Qat Qbm QaA.1 (Rd.own' hr hs) rfl rfl (by omega) (by rw [QQ6];omega) ⟨rfl,hs⟩
   ·exact ob [3] [] rfl rfl fun D ρ w hs=>QaZ (j:=0) (vs:=cec (gd l ((i+j)/2))) ((i+j)/2) QaA (Rd.own' hr hs) (QaY (by omega)) rfl rfl rfl (by omega) ⟨rfl,hs⟩
   ·exact ob [] [] rfl rfl fun D ρ w hs=>QaR (cs:=cec t) QaA hs 0 rfl rfl rfl ⟨rfl,hs⟩
   ·exact ob [0,4,5] [] rfl rfl fun D ρ w hs=>Qf2 (vs:=[.agg (cec (gd l ((i+j)/2))).toArray,.agg (cec t).toArray]) (cs:=[]) (V:=I6 (cf (gd l ((i+j)/2)))) hg rfl rfl (hcmp _ (gd l ((i+j)/2))) hs fun _ hs=>⟨rfl,hs⟩
   ·exact ob [6] [] rfl rfl fun D ρ w hs=>QaP rfl rfl ⟨rfl,hs⟩
   rintro ρ1 w6 ρ2 hρ hs
   replace hρ:ρ2=upd (mix [24,25,26,27,28,29,30,31] ρ1 _) 31 (.bool (decide (cf (gd l ((i+j)/2))<0))):=hρ
   subst hρ
   refine Qal (t:=decide (cf (gd l ((i+j)/2))<0)) rfl (fun c7=>?_) (fun c7=>?_)
   ·
    replace c7:=QQ1 c7
    refine Qab (Qaa (Qac (V:=I6 (((i+j)/2:Nat):Int)) rfl (Qaa (Qav (a:=(((i+j)/2:Nat):Int)) (b:=1) (c:=((((i+j)/2)+1:Nat):Int)) rfl rfl (Qaj (by omega) (by omega)) (Qaa (Qad (V:=I6 ((((i+j)/2)+1:Nat):Int)) rfl (Qae ?_)))))))
    refine ⟨_,?_,_,((i+j)/2)+1,j,Qah (Qah (Qam (ds:=[9,10,11,15,16,17,18,19,20,21,22,23,24,25,26,27,28,29,30,31,32,33,34]) (by repeat (first|exact Agr.refl _ _|refine Agr.upd ?_ rfl|refine Agr.mix ?_ rfl))) rfl) rfl,(by have:=QlF (f:=(fun x=>decide (cf x<0))) hm (by omega) (QQ3 c7);omega),(by omega),(by omega),rfl,hs.take 1⟩
    omega
   ·
    replace c7:=QQ2 c7
    refine Qab (Qaa (Qac (V:=I6 (((i+j)/2:Nat):Int)) rfl (Qaa (Qad (V:=I6 (((i+j)/2:Nat):Int)) rfl (Qae ?_)))))
    refine ⟨_,?_,_,i,(i+j)/2,Qah (Qah (Qam (ds:=[9,10,11,15,16,17,18,19,20,21,22,23,24,25,26,27,28,29,30,31,32,33,34]) (by repeat (first|exact Agr.refl _ _|refine Agr.upd ?_ rfl|refine Agr.mix ?_ rfl))) rfl) rfl,(by omega),(by have:=QgV (f:=(fun x=>decide (cf x<0))) (l:=l) (QQ4 c7);omega),(by omega),rfl,hs.take 1⟩
    omega
  ·
   replace c4:=QQ2 c4
   refine Qaz (Qag ?_)
   have hij:i=j:=by omega
   refine QaC HM [some 35,some 36,some 37,some 38,some 39,some 40,some 41,some 42,some 43,some 44,some 45,some 46,some 47,some 48,some 6,some 7] [] [0,0,0,6,14,30,30,30,222,478,30,2046,4094,8190,4095,32767] [pv (I6 (i:Int)),pv (I6 (i:Int)),pv (I6 ((l.length:Nat):Int)),pv (.bool (decide ((i:Int)<((l.length:Nat):Int)))),pv (.bool (decide ((i:Int)<((l.length:Nat):Int)))),pg ((decide ((i:Int)<((l.length:Nat):Int))) == true) (.func (.func g) #[] #[]),pg ((decide ((i:Int)<((l.length:Nat):Int))) == true) (.slice a l.length c),pg ((decide ((i:Int)<((l.length:Nat):Int))) == true) (I6 (i:Int)),pg ((decide ((i:Int)<((l.length:Nat):Int))) == true) (.pointer (some ⟨bkS (.slice a l.length c),ofS (.slice a l.length c)+(i:Int).toNat*7,none⟩)),pg ((decide ((i:Int)<((l.length:Nat):Int))) == true) (.agg (cec (gd l i)).toArray),pg ((decide ((i:Int)<((l.length:Nat):Int))) == true) (.agg (cec t).toArray),pg ((decide ((i:Int)<((l.length:Nat):Int))) == true) (I6 (cf (gd l i))),pg ((decide ((i:Int)<((l.length:Nat):Int))) == true) (.bool (decide (cf (gd l i)=0))),pv (.bool ((decide ((i:Int)<((l.length:Nat):Int)))&&(decide (cf (gd l i)=0)))),pv (I6 (i:Int)),pv (.bool ((decide ((i:Int)<((l.length:Nat):Int)))&&(decide (cf (gd l i)=0))))] (fun _ _=>_) [15,14] (by kernel_rfl) hs ⟨?_,?_,?_,?_,?_,?_,?_,?_,?_,?_,?_,?_,?_,?_,?_,?_,trivial⟩ ?_
   ·exact ob [] [] rfl rfl fun D ρ w hs=>Qac (V:=I6 (i:Int)) rfl ⟨rfl,hs⟩
   ·exact ob [] [] rfl rfl fun D ρ w hs=>Qac (V:=I6 (i:Int)) rfl ⟨rfl,hs⟩
   ·exact ob [] [] rfl rfl fun D ρ w hs=>Qac (V:=I6 ((l.length:Nat):Int)) rfl ⟨rfl,hs⟩
   ·exact ob [1,2] [] rfl rfl fun D ρ w hs=>QaP rfl rfl ⟨rfl,hs⟩
   ·exact ob [3] [] rfl rfl fun D ρ w hs=>Qac (V:=.bool (decide ((i:Int)<((l.length:Nat):Int)))) rfl ⟨rfl,hs⟩
   ·exact obg [4] [] (decide ((i:Int)<((l.length:Nat):Int))) rfl (fun _=>rfl) rfl (fun _ _ _ _ h=>h) fun D ρ w hG hs=>Qac (V:=.func (.func g) #[] #[]) rfl ⟨rfl,hs⟩
   ·exact obg [4] [] (decide ((i:Int)<((l.length:Nat):Int))) rfl (fun _=>rfl) rfl (fun _ _ _ _ h=>h) fun D ρ w hG hs=>Qac (V:=.slice a l.length c) rfl ⟨rfl,hs⟩
   ·exact obg [4] [] (decide ((i:Int)<((l.length:Nat):Int))) rfl (fun _=>rfl) rfl (fun _ _ _ _ h=>h) fun D ρ w hG hs=>Qac (V:=I6 (i:Int)) rfl ⟨rfl,hs⟩
   ·refine obgy [4,6,7] [] [6,7] (decide ((i:Int)<((l.length:Nat):Int))) rfl (fun _=>rfl) rfl (fun _ _ _ _ h=>h) (fun hG=>⟨hG,hG,trivial⟩) fun D ρ w hG hs=>?_
    have hgd:=QQ1 (eq_of_beq (hG))
    exact Qat Qbm QaA.1 (Rd.own' hr hs) rfl rfl (by omega) (by rw [QQ6];omega) ⟨rfl,hs⟩
   ·refine obgy [4,8] [] [8] (decide ((i:Int)<((l.length:Nat):Int))) rfl (fun _=>rfl) rfl (fun _ _ _ _ h=>h) (fun hG=>⟨hG,trivial⟩) fun D ρ w hG hs=>?_
    have hgd:=QQ1 (eq_of_beq (hG))
    exact QaZ (j:=0) (vs:=cec (gd l i)) i QaA (Rd.own' hr hs) (QaY (by omega)) rfl rfl rfl (by omega) ⟨rfl,hs⟩
   ·exact obg [4] [] (decide ((i:Int)<((l.length:Nat):Int))) rfl (fun _=>rfl) rfl (fun _ _ _ _ h=>h) fun D ρ w hG hs=>QaR (cs:=cec t) QaA hs 0 rfl rfl rfl ⟨rfl,hs⟩
   ·exact obgy [4,5,9,10] [] [5,9,10] (decide ((i:Int)<((l.length:Nat):Int))) rfl (fun _=>rfl) rfl (fun _ _ _ _ h=>h) (fun hG=>⟨hG,hG,hG,trivial⟩) fun D ρ w hG hs=>Qf2 (vs:=[.agg (cec (gd l i)).toArray,.agg (cec t).toArray]) (cs:=[]) (V:=I6 (cf (gd l i))) hg rfl rfl (hcmp _ (gd l i)) hs fun _ hs=>⟨rfl,hs⟩
   ·exact obgy [4,11] [] [11] (decide ((i:Int)<((l.length:Nat):Int))) rfl (fun _=>rfl) rfl (fun _ _ _ _ h=>h) (fun hG=>⟨hG,trivial⟩) fun D ρ w hG hs=>QaM rfl rfl ⟨rfl,hs⟩
   ·exact ob [4,12] [] rfl rfl fun D ρ w hs=>Qa3 (h':=decide (cf (gd l i)=0)) rfl rfl rfl ⟨rfl,hs⟩
   ·exact ob [0] [] rfl rfl fun D ρ w hs=>Qad (V:=I6 (i:Int)) rfl ⟨rfl,hs⟩
   ·exact ob [13] [] rfl rfl fun D ρ w hs=>Qad (V:=.bool ((decide ((i:Int)<((l.length:Nat):Int)))&&(decide (cf (gd l i)=0)))) rfl ⟨rfl,hs⟩
   rintro ρ1 w9 ρ2 hρ hs
   replace hρ:ρ2=upd (upd (mix [35,36,37,38,39,40,41,42,43,44,45,46,47,48,6,7] ρ1 _) 6 (I6 (i:Int))) 7 (.bool ((decide ((i:Int)<((l.length:Nat):Int)))&&(decide (cf (gd l i)=0)))):=hρ
   subst hρ
   refine Qas ?_
   refine ⟨_,Qce (U:=I6 (i:Int)) (V:=.bool ((decide ((i:Int)<((l.length:Nat):Int)))&&(decide (cf (gd l i)=0)))) Tryz.results34 rfl rfl,?_⟩
   refine ⟨congrArg Ending.returned ?_,hs.take 0⟩
   have hip2:i=Qci (fun x=>decide (cf x<0)) l:=by omega
   rw [← hip2]
   congr 3
   by_cases h:i<l.length<;>simp [h]
theorem QnE (w:World) (a:Option Addr) (c:Nat) (l:List Lst) (t:Int) (hsmall:l.length≤4611686018427387904) (g:Nat) (hg:En Tryz.prog g) (cf:Lst→Int) (hcmp:∀ (w:World) (x:Lst),Calls Tryz.prog g #[.agg (lsc x).toArray,.int .u16 t] w (fun e w'=>e = .returned (.int .i64 (cf x))∧Own w no w' [])) (hm:Qli (fun x=>decide (cf x<0)) l) (hr:Rd w (.slice a l.length c) 2 (l.map lsc)):Calls Tryz.prog 82 #[.slice a l.length c,.int .u16 t,.func (.func g) #[] #[]] w (fun e w'=>e = .returned (.tuple #[.int .i64 ((Qci (fun x=>decide (cf x<0)) l:Nat):Int),.bool (decide (Qci (fun x=>decide (cf x<0)) l<l.length)&&decide (cf (gd l (Qci (fun x=>decide (cf x<0)) l))=0))])∧Own w no w' []):=by
 refine Qai (n:=49) Tryz.func82 rfl Tryz.ntmps82 rfl ?_
 have hs:=Own.start w
 have hn:=hr.sml
 have hn2:l.length≤4611686018427387904:=hsmall
 refine Qag (Qab (Qaa (Qad (V:=I6 0) rfl (Qaa (Qad (V:=.bool false) rfl (Qae (Qag (Qab (Qaa (Qac (V:=.slice a l.length c) rfl (Qaa (QaX (n:=l.length) Qei (Rd.own' hr hs) (by simp) rfl (Qaa (Qad (V:=I6 ((l.length:Nat):Int)) rfl (Qae (Qag (Qab (Qaa (Qac (V:=I6 ((l.length:Nat):Int)) rfl (Qaa (Qad (V:=I6 0) rfl (Qaa (Qad (V:=I6 ((l.length:Nat):Int)) rfl (Qae (Qag (Qak (Qax (fun ρ μ ρ' w'=>∃ (ρo:Env) (i:Nat) (j:Nat),ρ'=upd (upd (mix [9,10,11,15,16,17,18,19,20,21,22,23,24,25,26,27,28,29,30,31,32,33,34] ρo ρ) 9 (I6 (i:Int))) 10 (I6 (j:Int))∧(i≤Qci (fun x=>decide (cf x<0)) l)∧(Qci (fun x=>decide (cf x<0)) l≤j)∧(j≤l.length)∧μ=j-i∧Own w no w' []) ?_ ?_)))))))))))))))))))))))))))
 ·exact ⟨_,_,0,l.length,Qah (Qah (Qam (ds:=[9,10,11,15,16,17,18,19,20,21,22,23,24,25,26,27,28,29,30,31,32,33,34]) (Agr.refl _ _)) rfl) rfl,(Nat.zero_le _),QfJ,(Nat.le_refl _),rfl,hs⟩
 ·rintro μ ρ' w1 ⟨ρo,i,j,rfl,hip,hpj,hjl,rfl,hs⟩
  refine Qag (Qag (Qab (Qaa (Qac (V:=I6 (i:Int)) rfl (Qaa (Qac (V:=I6 (j:Int)) rfl (Qaa (QaP rfl rfl (Qae (Qal (t:=decide ((i:Int)<(j:Int))) rfl (fun c2=>?_) (fun c2=>?_)))))))))))
  ·
   replace c2:=QQ1 c2
   refine Qan (Qak (Qag (Qab (Qaa (Qac (V:=I6 (i:Int)) rfl (Qaa (Qac (V:=I6 (j:Int)) rfl (Qaa (Qav (a:=(i:Int)) (b:=(j:Int)) (c:=((i+j:Nat):Int)) rfl rfl (Qaj (by omega) (by omega)) (Qaa (QbD QfC Qdg rfl (QcX (by omega) (by omega)) (Qaa (Qgr rfl rfl (Qaa (QbD Qdg QfC rfl (Qbh (by omega) (by omega)) (Qaa (Qad (V:=I6 (((i+j)/2:Nat):Int)) rfl (Qae (Qag (Qab (Qaa (Qac (V:=.func (.func g) #[] #[]) rfl (Qaa (Qac (V:=.slice a l.length c) rfl (Qaa (Qac (V:=I6 (((i+j)/2:Nat):Int)) rfl (Qaa (Qat Qei Qcs.1 (Rd.own' hr hs) rfl rfl (by omega) (by rw [QQ6];omega) (Qaa (QaZ (j:=0) (vs:=lsc (gd l ((i+j)/2))) ((i+j)/2) Qcs (Rd.own' hr hs) (QaY (by omega)) rfl rfl rfl (by omega) (Qaa (Qac (V:=I7 t) rfl (Qaa (Qf2 (vs:=[.agg (lsc (gd l ((i+j)/2))).toArray,I7 t]) (cs:=[]) (V:=I6 (cf (gd l ((i+j)/2)))) hg rfl rfl (hcmp _ (gd l ((i+j)/2))) hs fun w3 hs=>(Qaa (QaP rfl rfl (Qae (Qal (t:=decide (cf (gd l ((i+j)/2))<0)) rfl (fun c4=>?_) (fun c4=>?_)))))))))))))))))))))))))))))))))))))))
   ·
    replace c4:=QQ1 c4
    refine Qab (Qaa (Qac (V:=I6 (((i+j)/2:Nat):Int)) rfl (Qaa (Qav (a:=(((i+j)/2:Nat):Int)) (b:=1) (c:=((((i+j)/2)+1:Nat):Int)) rfl rfl (Qaj (by omega) (by omega)) (Qaa (Qad (V:=I6 ((((i+j)/2)+1:Nat):Int)) rfl (Qae ?_)))))))
    refine ⟨_,?_,_,((i+j)/2)+1,j,Qah (Qah (Qam (ds:=[9,10,11,15,16,17,18,19,20,21,22,23,24,25,26,27,28,29,30,31,32,33,34]) (by repeat (first|exact Agr.refl _ _|refine Agr.upd ?_ rfl|refine Agr.mix ?_ rfl))) rfl) rfl,(by have:=QlF (f:=(fun x=>decide (cf x<0))) hm (by omega) (QQ3 c4);omega),(by omega),(by omega),rfl,hs.take 0⟩
    omega
   ·
    replace c4:=QQ2 c4
    refine Qab (Qaa (Qac (V:=I6 (((i+j)/2:Nat):Int)) rfl (Qaa (Qad (V:=I6 (((i+j)/2:Nat):Int)) rfl (Qae ?_)))))
    refine ⟨_,?_,_,i,(i+j)/2,Qah (Qah (Qam (ds:=[9,10,11,15,16,17,18,19,20,21,22,23,24,25,26,27,28,29,30,31,32,33,34]) (by repeat (first|exact Agr.refl _ _|refine Agr.upd ?_ rfl|refine Agr.mix ?_ rfl))) rfl) rfl,(by omega),(by have:=QgV (f:=(fun x=>decide (cf x<0))) (l:=l) (QQ4 c4);omega),(by omega),rfl,hs.take 0⟩
    omega
  ·
   replace c2:=QQ2 c2
   refine Qaz (Qag ?_)
   have hij:i=j:=by omega
   refine Qbi [some 35,some 36,some 37,some 38,some 39,some 40,some 41,some 42,some 43,some 44,some 45,some 46,some 47,some 48,some 6,some 7] [] [0,0,0,6,14,30,30,30,222,478,30,2046,4094,8190,4095,32767] [pv (I6 (i:Int)),pv (I6 (i:Int)),pv (I6 ((l.length:Nat):Int)),pv (.bool (decide ((i:Int)<((l.length:Nat):Int)))),pv (.bool (decide ((i:Int)<((l.length:Nat):Int)))),pg ((decide ((i:Int)<((l.length:Nat):Int))) == true) (.func (.func g) #[] #[]),pg ((decide ((i:Int)<((l.length:Nat):Int))) == true) (.slice a l.length c),pg ((decide ((i:Int)<((l.length:Nat):Int))) == true) (I6 (i:Int)),pg ((decide ((i:Int)<((l.length:Nat):Int))) == true) (.pointer (some ⟨bkS (.slice a l.length c),ofS (.slice a l.length c)+(i:Int).toNat*2,none⟩)),pg ((decide ((i:Int)<((l.length:Nat):Int))) == true) (.agg (lsc (gd l i)).toArray),pg ((decide ((i:Int)<((l.length:Nat):Int))) == true) (I7 t),pg ((decide ((i:Int)<((l.length:Nat):Int))) == true) (I6 (cf (gd l i))),pg ((decide ((i:Int)<((l.length:Nat):Int))) == true) (.bool (decide (cf (gd l i)=0))),pv (.bool ((decide ((i:Int)<((l.length:Nat):Int)))&&(decide (cf (gd l i)=0)))),pv (I6 (i:Int)),pv (.bool ((decide ((i:Int)<((l.length:Nat):Int)))&&(decide (cf (gd l i)=0))))] (fun _ _=>_) [15,14] (by kernel_rfl) hs ⟨?_,?_,?_,?_,?_,?_,?_,?_,?_,?_,?_,?_,?_,?_,?_,?_,trivial⟩ ?_
   ·exact ob [] [] rfl rfl fun D ρ w hs=>Qac (V:=I6 (i:Int)) rfl ⟨rfl,hs⟩
   ·exact ob [] [] rfl rfl fun D ρ w hs=>Qac (V:=I6 (i:Int)) rfl ⟨rfl,hs⟩
   ·exact ob [] [] rfl rfl fun D ρ w hs=>Qac (V:=I6 ((l.length:Nat):Int)) rfl ⟨rfl,hs⟩
   ·exact ob [1,2] [] rfl rfl fun D ρ w hs=>QaP rfl rfl ⟨rfl,hs⟩
   ·exact ob [3] [] rfl rfl fun D ρ w hs=>Qac (V:=.bool (decide ((i:Int)<((l.length:Nat):Int)))) rfl ⟨rfl,hs⟩
   ·exact obg [4] [] (decide ((i:Int)<((l.length:Nat):Int))) rfl (fun _=>rfl) rfl (fun _ _ _ _ h=>h) fun D ρ w hG hs=>Qac (V:=.func (.func g) #[] #[]) rfl ⟨rfl,hs⟩
   ·exact obg [4] [] (decide ((i:Int)<((l.length:Nat):Int))) rfl (fun _=>rfl) rfl (fun _ _ _ _ h=>h) fun D ρ w hG hs=>Qac (V:=.slice a l.length c) rfl ⟨rfl,hs⟩
   ·exact obg [4] [] (decide ((i:Int)<((l.length:Nat):Int))) rfl (fun _=>rfl) rfl (fun _ _ _ _ h=>h) fun D ρ w hG hs=>Qac (V:=I6 (i:Int)) rfl ⟨rfl,hs⟩
   ·refine obgy [4,6,7] [] [6,7] (decide ((i:Int)<((l.length:Nat):Int))) rfl (fun _=>rfl) rfl (fun _ _ _ _ h=>h) (fun hG=>⟨hG,hG,trivial⟩) fun D ρ w hG hs=>?_
    have hgd:=QQ1 (eq_of_beq (hG))
    exact Qat Qei Qcs.1 (Rd.own' hr hs) rfl rfl (by omega) (by rw [QQ6];omega) ⟨rfl,hs⟩
   ·refine obgy [4,8] [] [8] (decide ((i:Int)<((l.length:Nat):Int))) rfl (fun _=>rfl) rfl (fun _ _ _ _ h=>h) (fun hG=>⟨hG,trivial⟩) fun D ρ w hG hs=>?_
    have hgd:=QQ1 (eq_of_beq (hG))
    exact QaZ (j:=0) (vs:=lsc (gd l i)) i Qcs (Rd.own' hr hs) (QaY (by omega)) rfl rfl rfl (by omega) ⟨rfl,hs⟩
   ·exact obg [4] [] (decide ((i:Int)<((l.length:Nat):Int))) rfl (fun _=>rfl) rfl (fun _ _ _ _ h=>h) fun D ρ w hG hs=>Qac (V:=I7 t) rfl ⟨rfl,hs⟩
   ·exact obgy [4,5,9,10] [] [5,9,10] (decide ((i:Int)<((l.length:Nat):Int))) rfl (fun _=>rfl) rfl (fun _ _ _ _ h=>h) (fun hG=>⟨hG,hG,hG,trivial⟩) fun D ρ w hG hs=>Qf2 (vs:=[.agg (lsc (gd l i)).toArray,I7 t]) (cs:=[]) (V:=I6 (cf (gd l i))) hg rfl rfl (hcmp _ (gd l i)) hs fun _ hs=>⟨rfl,hs⟩
   ·exact obgy [4,11] [] [11] (decide ((i:Int)<((l.length:Nat):Int))) rfl (fun _=>rfl) rfl (fun _ _ _ _ h=>h) (fun hG=>⟨hG,trivial⟩) fun D ρ w hG hs=>QaM rfl rfl ⟨rfl,hs⟩
   ·exact ob [4,12] [] rfl rfl fun D ρ w hs=>Qa3 (h':=decide (cf (gd l i)=0)) rfl rfl rfl ⟨rfl,hs⟩
   ·exact ob [0] [] rfl rfl fun D ρ w hs=>Qad (V:=I6 (i:Int)) rfl ⟨rfl,hs⟩
   ·exact ob [13] [] rfl rfl fun D ρ w hs=>Qad (V:=.bool ((decide ((i:Int)<((l.length:Nat):Int)))&&(decide (cf (gd l i)=0)))) rfl ⟨rfl,hs⟩
   rintro ρ1 w6 ρ2 hρ hs
   replace hρ:ρ2=upd (upd (mix [35,36,37,38,39,40,41,42,43,44,45,46,47,48,6,7] ρ1 _) 6 (I6 (i:Int))) 7 (.bool ((decide ((i:Int)<((l.length:Nat):Int)))&&(decide (cf (gd l i)=0)))):=hρ
   subst hρ
   refine Qas ?_
   refine ⟨_,Qce (U:=I6 (i:Int)) (V:=.bool ((decide ((i:Int)<((l.length:Nat):Int)))&&(decide (cf (gd l i)=0)))) Tryz.results82 rfl rfl,?_⟩
   refine ⟨congrArg Ending.returned ?_,hs.take 0⟩
   have hip2:i=Qci (fun x=>decide (cf x<0)) l:=by omega
   rw [← hip2]
   congr 3
   by_cases h:i<l.length<;>simp [h]
end Tt
end Go.Proofs
