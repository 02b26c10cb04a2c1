/- A part of a proof: what functions of the program compute, and plain facts on that. -/
import Derived.Test.YthbbcjimiemdgaaGreatCartFoldP4
set_option linter.unusedVariables false
set_option linter.unusedSimpArgs false
set_option maxHeartbeats 4000000
set_option maxRecDepth 100000
namespace Go.Proofs
open Go Go.Vx Go.RowKit
namespace Tt
theorem place_ok (w:World) (x y:Cen):Calls Tryz.prog 35 #[.agg (cec x).toArray,.agg (cec y).toArray] w (fun e w'=>e = .returned (.int .i64 (QbM x y))∧Own w no w' []):=by
 refine Qai (n:=26) Tryz.func35 rfl Tryz.ntmps35 rfl ?_
 have hs:=Own.start w
 refine Qag (Qab (Qaa (Qa9 (V:=.agg (cec x).toArray) (cs:=cec x) rfl rfl hs fun b1 w2 hs=>(Qaa (Qa9 (V:=.agg (cec y).toArray) (cs:=cec y) rfl rfl hs fun b3 w4 hs=>(Qaa (Qad (V:=I6 0) rfl (Qae (Qag ?_)))))))))
 replace hs:=hs.more emp trivial
 refine QaC HM [some 5,some 6,some 7,some 8,some 9,some 10,some 11,some 12,some 13,some 14,some 15,some 16,some 17,some 18,some 19,some 20,some 21,some 22,some 23,some 24,some 25,some 4] [[],[],[],[],[],[],[],[],[],[],[],[],[],[],[],[],[],[],[],[24]] [0,1,0,4,15,0,32,96,0,256,768,2047,0,4096,12288,0,32768,98304,262143,524287,1048575,2097151] [pv (Pt b1 (0+0)),pv (I7 x.cart),pv (Pt b3 (0+0)),pv (I7 y.cart),pv (I6 (QaW x.cart y.cart)),pv (Pt b1 (0+4)),pv (Pt b1 (0+4+0)),pv (.int .u8 x.dot.rep),pv (Pt b3 (0+4)),pv (Pt b3 (0+4+0)),pv (.int .u8 y.dot.rep),pv (I6 (QaW x.dot.rep y.dot.rep)),pv (Pt b1 (0+4)),pv (Pt b1 (0+4+1)),pv (.int .u32 x.dot.seq),pv (Pt b3 (0+4)),pv (Pt b3 (0+4+1)),pv (.int .u32 y.dot.seq),pv (I6 (QaW x.dot.seq y.dot.seq)),(true,fun ρ=>.slice (some ⟨(bOf (ρ 24)),0,none⟩) 3 3),pv (I6 (orI [QaW x.cart y.cart,QaW x.dot.rep y.dot.rep,QaW x.dot.seq y.dot.seq])),pv (I6 (orI [QaW x.cart y.cart,QaW x.dot.rep y.dot.rep,QaW x.dot.seq y.dot.seq]))] (fun D ρ=>[blk b1 (cec x) 59,blk b3 (cec y) 59,cond (D 19) (row (.slice (some ⟨(bOf (ρ 24)),0,none⟩) 3 3) ([QaW x.cart y.cart,QaW x.dot.rep y.dot.rep,QaW x.dot.seq y.dot.seq].map (ic .i64)) 3 1) (emp)]) [21] (by kernel_rfl) hs ⟨?_,?_,?_,?_,?_,?_,?_,?_,?_,?_,?_,?_,?_,?_,?_,?_,?_,?_,?_,?_,?_,?_,trivial⟩ ?_
 ·exact ob [] [] rfl rfl fun D ρ w hs=>Qaf Qe7 rfl ⟨rfl,hs⟩
 ·exact ob [0] [] rfl rfl fun D ρ w hs=>QaK (V:=I7 x.cart) Qap hs 0 rfl rfl rfl ⟨rfl,hs⟩
 ·exact ob [] [] rfl rfl fun D ρ w hs=>Qaf Qe7 rfl ⟨rfl,hs⟩
 ·exact ob [2] [] rfl rfl fun D ρ w hs=>QaK (V:=I7 y.cart) Qap hs 1 rfl rfl rfl ⟨rfl,hs⟩
 ·exact ob [1,3] [] rfl rfl fun D ρ w hs=>Qar (vs:=[I7 x.cart,I7 y.cart]) (V:=I6 (QaW x.cart y.cart)) Qqm rfl rfl (QdE _ x.cart y.cart) hs fun _ hs=>⟨rfl,hs⟩
 ·exact ob [] [] rfl rfl fun D ρ w hs=>Qaf QbW rfl ⟨rfl,hs⟩
 ·exact ob [5] [] rfl rfl fun D ρ w hs=>Qaf QbK rfl ⟨rfl,hs⟩
 ·exact ob [6] [] rfl rfl fun D ρ w hs=>QaK (V:=.int .u8 x.dot.rep) QcF hs 0 rfl rfl rfl ⟨rfl,hs⟩
 ·exact ob [] [] rfl rfl fun D ρ w hs=>Qaf QbW rfl ⟨rfl,hs⟩
 ·exact ob [8] [] rfl rfl fun D ρ w hs=>Qaf QbK rfl ⟨rfl,hs⟩
 ·exact ob [9] [] rfl rfl fun D ρ w hs=>QaK (V:=.int .u8 y.dot.rep) QcF hs 1 rfl rfl rfl ⟨rfl,hs⟩
 ·exact ob [7,10] [] rfl rfl fun D ρ w hs=>Qar (vs:=[.int .u8 x.dot.rep,.int .u8 y.dot.rep]) (V:=I6 (QaW x.dot.rep y.dot.rep)) Qpr rfl rfl (QdT _ x.dot.rep y.dot.rep) hs fun _ hs=>⟨rfl,hs⟩
 ·exact ob [] [] rfl rfl fun D ρ w hs=>Qaf QbW rfl ⟨rfl,hs⟩
 ·exact ob [12] [] rfl rfl fun D ρ w hs=>Qaf QbN rfl ⟨rfl,hs⟩
 ·exact ob [13] [] rfl rfl fun D ρ w hs=>QaK (V:=.int .u32 x.dot.seq) Qa7 hs 0 rfl rfl rfl ⟨rfl,hs⟩
 ·exact ob [] [] rfl rfl fun D ρ w hs=>Qaf QbW rfl ⟨rfl,hs⟩
 ·exact ob [15] [] rfl rfl fun D ρ w hs=>Qaf QbN rfl ⟨rfl,hs⟩
 ·exact ob [16] [] rfl rfl fun D ρ w hs=>QaK (V:=.int .u32 y.dot.seq) Qa7 hs 1 rfl rfl rfl ⟨rfl,hs⟩
 ·exact ob [14,17] [] rfl rfl fun D ρ w hs=>Qar (vs:=[.int .u32 x.dot.seq,.int .u32 y.dot.seq]) (V:=I6 (QaW x.dot.seq y.dot.seq)) Qqe rfl rfl (QdH _ x.dot.seq y.dot.seq) hs fun _ hs=>⟨rfl,hs⟩
 ·exact ob [4,11,18] [] rfl rfl fun D ρ w hs=>QhD (vals:=[I6 (QaW x.cart y.cart),I6 (QaW x.dot.rep y.dot.rep),I6 (QaW x.dot.seq y.dot.seq)]) (ls:=List.map (ic .i64) ([QaW x.cart y.cart,QaW x.dot.rep y.dot.rep,QaW x.dot.seq y.dot.seq]:List Int)) QlA rfl rfl rfl (Qbl (enc:=(ic .i64)) (fun _=>rfl) _) (QaU (QeL .i64) _) (QQ8 rfl) hs fun _ _ hs=>⟨rfl,hs.put 2 (QQ8 rfl)⟩
 ·exact ob [19] [] rfl rfl fun D ρ w hs=>Qar (vs:=[.slice (some ⟨(bOf (ρ 24)),0,none⟩) 3 3]) (V:=I6 (orI [QaW x.cart y.cart,QaW x.dot.rep y.dot.rep,QaW x.dot.seq y.dot.seq])) QpT rfl rfl (Qqk _ (some ⟨(bOf (ρ 24)),0,none⟩) 3 [QaW x.cart y.cart,QaW x.dot.rep y.dot.rep,QaW x.dot.seq y.dot.seq] (hs.rd 2 rfl)) hs fun _ hs=>⟨rfl,hs⟩
 ·exact ob [20] [] rfl rfl fun D ρ w hs=>Qad (V:=I6 (orI [QaW x.cart y.cart,QaW x.dot.rep y.dot.rep,QaW x.dot.seq y.dot.seq])) rfl ⟨rfl,hs⟩
 rintro ρ1 w10 ρ2 hρ hs
 replace hρ:ρ2=upd (mix [5,6,7,8,9,10,11,12,13,14,15,16,17,18,19,20,21,22,23,24,25,4] ρ1 _) 4 (I6 (orI [QaW x.cart y.cart,QaW x.dot.rep y.dot.rep,QaW x.dot.seq y.dot.seq])):=hρ
 replace hs:Own w no w10 [blk b1 (cec x) 59,blk b3 (cec y) 59,row (.slice (some ⟨(bOf (ρ1 24)),0,none⟩) 3 3) ([QaW x.cart y.cart,QaW x.dot.rep y.dot.rep,QaW x.dot.seq y.dot.seq].map (ic .i64)) 3 1]:=hs
 generalize (bOf (ρ1 24))=b11 at hs
 subst hρ
 refine Qas ?_
 refine ⟨_,Qao (V:=I6 (orI [QaW x.cart y.cart,QaW x.dot.rep y.dot.rep,QaW x.dot.seq y.dot.seq])) Tryz.results35 rfl,?_⟩
 refine ⟨congrArg Ending.returned ?_,hs.take 0⟩
 rfl
theorem Qj1 (w:World) (x:Cen) (hx:QiJ x):Calls Tryz.prog 46 #[.agg (cec x).toArray] w (fun e w'=>e = .returned (.bool (Qdq x))∧Own w no w' []):=by
 refine Qai (n:=25) Tryz.func46 rfl Tryz.ntmps46 rfl ?_
 have hs:=Own.start w
 refine Qag (Qab (Qaa (Qa9 (V:=.agg (cec x).toArray) (cs:=cec x) rfl rfl hs fun b1 w2 hs=>(Qaa (Qad (V:=.bool false) rfl (Qae (Qag (Qag (Qab (Qaa (Qaf Qe5 rfl (Qaa (QaK (V:=.int .u8 x.kind) QcF hs 0 rfl rfl rfl (Qae (Qak (Qag (Qab (Qaa (QaM rfl rfl (Qaa (Qad (V:=.bool (decide (x.kind=1))) rfl (Qae (Qal (t:=decide (x.kind=1)) rfl (fun c3=>?_) (fun c3=>?_))))))))))))))))))))))))
 ·
  replace c3:=QQ1 c3
  refine Qag (Qab (Qaa (Qaf Qe3 rfl (Qaa (QaK (V:=I7 x.qty) Qap hs 0 rfl rfl rfl (Qaa (Qcb rfl rfl (Qaa (Qad (V:=.bool (decide (0<x.qty))) rfl (Qae (Qas ?_)))))))))))
  refine ⟨_,Qao (V:=.bool (decide (0<x.qty))) Tryz.results46 rfl,?_⟩
  refine ⟨congrArg Ending.returned ?_,hs.take 0⟩
  refine congrArg Value.bool ?_
  unfold Qdq
  have ⟨_,_,⟨hq1,hq2⟩,_,_,_⟩:=hx
  simp_all [Bool.and_assoc]
  try omega
 ·
  replace c3:=QQ2 c3
  refine Qag (Qab (Qaa (QaM rfl rfl (Qaa (Qad (V:=.bool (decide (x.kind=2))) rfl (Qae (Qal (t:=decide (x.kind=2)) rfl (fun c4=>?_) (fun c4=>?_))))))))
  ·
   replace c4:=QQ1 c4
   refine Qag (Qab (Qaa (Qad (V:=.bool true) rfl (Qae (Qas ?_)))))
   refine ⟨_,Qao (V:=.bool true) Tryz.results46 rfl,?_⟩
   refine ⟨congrArg Ending.returned ?_,hs.take 0⟩
   refine congrArg Value.bool ?_
   unfold Qdq
   have ⟨_,_,⟨hq1,hq2⟩,_,_,_⟩:=hx
   simp_all [Bool.and_assoc]
   try omega
  ·
   replace c4:=QQ2 c4
   refine Qan (Qag (Qbi [some 12,some 13,some 14,some 15,some 16,some 17,some 18,some 19,some 20,some 21,some 22,some 23,some 24,some 2] [] [0,1,3,7,15,31,63,127,255,511,1023,2047,4095,8191] [pv (Pt b1 (0+3)),pv (.int .u8 x.kind),pv (.bool (decide (x.kind=4))),pv (.bool (decide (x.kind=4))),pg ((decide (x.kind=4)) == true) (Pt b1 (0+1)),pg ((decide (x.kind=4)) == true) (I7 x.item),pg ((decide (x.kind=4)) == true) (.bool (decide (x.item=0))),pv (.bool ((decide (x.kind=4))&&(decide (x.item=0)))),pv (.bool ((decide (x.kind=4))&&(decide (x.item=0)))),pg (((decide (x.kind=4))&&(decide (x.item=0))) == true) (Pt b1 (0+2)),pg (((decide (x.kind=4))&&(decide (x.item=0))) == true) (I7 x.qty),pg (((decide (x.kind=4))&&(decide (x.item=0))) == true) (.bool (decide (x.qty=0))),pv (.bool (((decide (x.kind=4))&&(decide (x.item=0)))&&(decide (x.qty=0)))),pv (.bool (((decide (x.kind=4))&&(decide (x.item=0)))&&(decide (x.qty=0))))] (fun _ _=>_) [13] (by kernel_rfl) hs ⟨?_,?_,?_,?_,?_,?_,?_,?_,?_,?_,?_,?_,?_,?_,trivial⟩ ?_))
   ·exact ob [] [] rfl rfl fun D ρ w hs=>Qaf Qe5 rfl ⟨rfl,hs⟩
   ·exact ob [0] [] rfl rfl fun D ρ w hs=>QaK (V:=.int .u8 x.kind) QcF hs 0 rfl rfl rfl ⟨rfl,hs⟩
   ·exact ob [1] [] rfl rfl fun D ρ w hs=>QaM rfl rfl ⟨rfl,hs⟩
   ·exact ob [2] [] rfl rfl fun D ρ w hs=>Qac (V:=.bool (decide (x.kind=4))) rfl ⟨rfl,hs⟩
   ·exact obg [3] [] (decide (x.kind=4)) rfl (fun _=>rfl) rfl (fun _ _ _ _ h=>h) fun D ρ w hG hs=>Qaf QdV rfl ⟨rfl,hs⟩
   ·exact obgy [3,4] [] [4] (decide (x.kind=4)) rfl (fun _=>rfl) rfl (fun _ _ _ _ h=>h) (fun hG=>⟨hG,trivial⟩) fun D ρ w hG hs=>QaK (V:=I7 x.item) Qap hs 0 rfl rfl rfl ⟨rfl,hs⟩
   ·exact obgy [3,5] [] [5] (decide (x.kind=4)) rfl (fun _=>rfl) rfl (fun _ _ _ _ h=>h) (fun hG=>⟨hG,trivial⟩) fun D ρ w hG hs=>QaM rfl rfl ⟨rfl,hs⟩
   ·exact ob [3,6] [] rfl rfl fun D ρ w hs=>Qa3 (h':=decide (x.item=0)) rfl rfl rfl ⟨rfl,hs⟩
   ·exact ob [7] [] rfl rfl fun D ρ w hs=>Qac (V:=.bool ((decide (x.kind=4))&&(decide (x.item=0)))) rfl ⟨rfl,hs⟩
   ·exact obg [8] [] ((decide (x.kind=4))&&(decide (x.item=0))) rfl (fun _=>rfl) rfl (fun _ _ _ _ h=>h) fun D ρ w hG hs=>Qaf Qe3 rfl ⟨rfl,hs⟩
   ·exact obgy [8,9] [] [9] ((decide (x.kind=4))&&(decide (x.item=0))) rfl (fun _=>rfl) rfl (fun _ _ _ _ h=>h) (fun hG=>⟨hG,trivial⟩) fun D ρ w hG hs=>QaK (V:=I7 x.qty) Qap hs 0 rfl rfl rfl ⟨rfl,hs⟩
   ·exact obgy [8,10] [] [10] ((decide (x.kind=4))&&(decide (x.item=0))) rfl (fun _=>rfl) rfl (fun _ _ _ _ h=>h) (fun hG=>⟨hG,trivial⟩) fun D ρ w hG hs=>QaM rfl rfl ⟨rfl,hs⟩
   ·exact ob [8,11] [] rfl rfl fun D ρ w hs=>Qa3 (h':=decide (x.qty=0)) rfl rfl rfl ⟨rfl,hs⟩
   ·exact ob [12] [] rfl rfl fun D ρ w hs=>Qad (V:=.bool (((decide (x.kind=4))&&(decide (x.item=0)))&&(decide (x.qty=0)))) rfl ⟨rfl,hs⟩
   rintro ρ1 w5 ρ2 hρ hs
   replace hρ:ρ2=upd (mix [12,13,14,15,16,17,18,19,20,21,22,23,24,2] ρ1 _) 2 (.bool (((decide (x.kind=4))&&(decide (x.item=0)))&&(decide (x.qty=0)))):=hρ
   subst hρ
   refine Qas ?_
   refine ⟨_,Qao (V:=.bool (((decide (x.kind=4))&&(decide (x.item=0)))&&(decide (x.qty=0)))) Tryz.results46 rfl,?_⟩
   refine ⟨congrArg Ending.returned ?_,hs.take 0⟩
   refine congrArg Value.bool ?_
   unfold Qdq
   have ⟨_,_,⟨hq1,hq2⟩,_,_,_⟩:=hx
   simp_all [Bool.and_assoc]
   try omega
theorem QnV (w:World) (x:Lst) (c:Int):Calls Tryz.prog 83 #[.agg (lsc x).toArray,.int .u16 c] w (fun e w'=>e = .returned (.int .i64 (QaW x.cart c))∧Own w no w' []):=by
 refine Qai (n:=9) Tryz.func83 rfl Tryz.ntmps83 rfl ?_
 have hs:=Own.start w
 refine Qag (Qab (Qaa (Qa9 (V:=.agg (lsc x).toArray) (cs:=lsc x) rfl rfl hs fun b1 w2 hs=>(Qaa (Qad (V:=I6 0) rfl (Qae (Qag (Qab (Qaa (Qaf Qgj rfl (Qaa (QaK (V:=I7 x.cart) Qap hs 0 rfl rfl rfl (Qaa (Qac (V:=I7 c) rfl (Qaa (Qar (vs:=[I7 x.cart,I7 c]) (V:=I6 (QaW x.cart c)) Qqm rfl rfl ?hc hs fun w3 hs=>?_))))))))))))))))
 case hc=>exact (QdE _ x.cart c)
 refine Qaa (Qad (V:=I6 (QaW x.cart c)) rfl (Qae (Qas ?_)))
 refine ⟨_,Qao (V:=I6 (QaW x.cart c)) Tryz.results83 rfl,?_⟩
 refine ⟨congrArg Ending.returned ?_,hs.take 0⟩
 rfl
theorem QgX (w:World) (kn:Vec) (v1:Value) (a2:Option Addr) (c2:Nat) (ts:List Lst) (c:Int) (hlt:ts.length≤100000) (hT:QeN ts) (hr2:Rd w (.slice a2 ts.length c2) 2 (ts.map lsc)):Calls Tryz.prog 45 #[.agg ((vc kn)++[(v1:Value),(.slice a2 ts.length c2:Value) ]).toArray,.int .u16 c] w (fun e w'=>e = .returned (.tuple #[.int .i64 ((QbI ts c:Nat):Int),.bool (QaV ts c).isSome])∧Own w no w' []):=by
 refine Qai (n:=12) Tryz.func45 rfl Tryz.ntmps45 rfl ?_
 have hs:=Own.start w
 refine Qag (Qab (Qaa (Qa9 (V:=.agg ((vc kn)++[(v1:Value),(.slice a2 ts.length c2:Value) ]).toArray) (cs:=(vc kn)++[(v1:Value),(.slice a2 ts.length c2:Value) ]) rfl rfl hs fun b1 w2 hs=>(Qaa (Qad (V:=I6 0) rfl (Qaa (Qad (V:=.bool false) rfl (Qae (Qag (Qab (Qaa (Qaf QcU rfl (Qaa (QaK (V:=.slice a2 ts.length c2) Qfu hs 0 rfl rfl rfl (Qaa (Qac (V:=I7 c) rfl (Qaa (QdD (vs:=[.slice a2 ts.length c2,I7 c,.func (.func 83) #[] #[]]) (V:=.tuple #[I6 ((Qci (fun x=>decide ((fun x:Lst=>QaW x.cart c) x<0)) ts:Nat):Int),.bool (decide (Qci (fun x=>decide ((fun x:Lst=>QaW x.cart c) x<0)) ts<ts.length)&&decide ((fun x:Lst=>QaW x.cart c) (gd ts (Qci (fun x=>decide ((fun x:Lst=>QaW x.cart c) x<0)) ts))=0))]) (V':=.tuple #[I6 ((QbI ts c:Nat):Int),.bool ((QaV ts c).isSome)]) (by rw [← Qkk hT c];rfl) Qt5 rfl rfl (QnE _ a2 c2 ts c (by omega) 83 Qt7 (fun x:Lst=>QaW x.cart c) (fun w x=>QnV w x c) (QlD hT c) (Rd.own' hr2 hs)) hs fun w3 hs=>(Qaa (QaB (V:=I6 ((QbI ts c:Nat):Int)) rfl rfl (Qaa (QaB (V:=.bool ((QaV ts c).isSome)) rfl rfl (Qaa (Qad (V:=I6 ((QbI ts c:Nat):Int)) rfl (Qaa (Qad (V:=.bool ((QaV ts c).isSome)) rfl (Qae (Qas ?_))))))))))))))))))))))))))))
 refine ⟨_,Qce (U:=I6 ((QbI ts c:Nat):Int)) (V:=.bool ((QaV ts c).isSome)) Tryz.results45 rfl rfl,?_⟩
 refine ⟨congrArg Ending.returned ?_,hs.take 0⟩
 rfl
end Tt
end Go.Proofs
namespace Go.Proofs
open Go Go.Vx Go.RowKit
namespace Tt
theorem Qc7 (w:World) (s:Sta) (a1:Option Addr) (c1:Nat) (a2:Option Addr) (c2:Nat) (hok:QcT s) (hle:s.ents.length≤1000) (hlt:s.ticks.length≤1000) (hr1:Rd w (.slice a1 s.ents.length c1) 7 (s.ents.map cec)) (hr2:Rd w (.slice a2 s.ticks.length c2) 2 (s.ticks.map lsc)):Calls Tryz.prog 10 #[.agg ((vc s.known)++[(.slice a1 s.ents.length c1:Value),(.slice a2 s.ticks.length c2:Value) ]).toArray] w (fun e w'=>e = .returned (.bool (QaO s))∧Own w no w' []):=by
 refine Qai (n:=107) Tryz.func10 rfl Tryz.ntmps10 rfl ?_
 have hs:=Own.start w
 have ⟨hv0,hE0,hT0⟩:=hok
 have hn1:=hr1.sml
 have hn2:=hr2.sml
 refine Qag (Qab (Qaa (Qa9 (V:=.agg ((vc s.known)++[(.slice a1 s.ents.length c1:Value),(.slice a2 s.ticks.length c2:Value) ]).toArray) (cs:=(vc s.known)++[(.slice a1 s.ents.length c1:Value),(.slice a2 s.ticks.length c2:Value) ]) rfl rfl hs fun b1 w2 hs=>(Qaa (Qad (V:=.bool false) rfl (Qae (Qag (Qag (Qab (Qaa (Qaf Qc9 rfl (Qaa (QbO (vs:=vc s.known) QbT hs 0 rfl rfl rfl rfl (Qaa (Qar (vs:=[.agg (vc s.known).toArray,I6 16]) (V:=.bool (QaH s.known 16)) QsG rfl rfl ?hc hs fun w3 hs=>?_)))))))))))))))
 case hc=>exact (QhE _ s.known 16 (by first|assumption|exact QcG))
 refine Qaa (Qbw rfl (Qae (Qal (t:=!(QaH s.known 16)) rfl (fun c4=>?_) (fun c4=>?_))))
 ·
  replace c4:=QbL c4
  refine Qag (Qab (Qaa (Qad (V:=.bool false) rfl (Qae (Qas ?_)))))
  refine ⟨_,Qao (V:=.bool false) Tryz.results10 rfl,?_⟩
  refine ⟨congrArg Ending.returned ?_,hs.take 0⟩
  exact congrArg Value.bool (Qj4 c4).symm
 ·
  replace c4:=Qbr c4
  refine Qan (Qag (Qag (Qab (Qaa (Qaf QcU rfl (Qaa (QaK (V:=.slice a2 s.ticks.length c2) Qfu hs 0 rfl rfl rfl (Qaa (QaX (n:=s.ticks.length) Qei (Rd.own' hr2 hs) (by simp) rfl (Qaa (Qac (V:=I6 0) rfl (Qae (Qak (Qax (fun ρ μ ρ' w'=>∃ (ρo:Env) (k:Nat),ρ'=upd (mix [2,3,4,19,20,21,22,23,24,25,26,27,28,29,30,31,32,33,34,35,36,37,38,39,40,41,42,43] ρo ρ) 19 (I6 (k:Int))∧(k≤s.ticks.length)∧(∀ j:Nat,j<k→Qm0 s.ticks j=false)∧μ=s.ticks.length-k∧Own w no w' [blk b1 ((vc s.known)++[(.slice a1 s.ents.length c1:Value),(.slice a2 s.ticks.length c2:Value) ]) 39]) ?_ ?_))))))))))))))
  ·exact ⟨_,_,0,Qah (Qam (ds:=[2,3,4,19,20,21,22,23,24,25,26,27,28,29,30,31,32,33,34,35,36,37,38,39,40,41,42,43]) (Agr.refl _ _)) rfl,(by omega),(fun j hj=>absurd hj (Nat.not_lt_zero j)),rfl,hs⟩
  ·rintro μ ρ' w5 ⟨ρo,k,rfl,hk,hbt,rfl,hs⟩
   refine Qag (Qab (Qaa (QaP rfl rfl (Qae (Qag (Qal (t:=decide ((k:Int)<((s.ticks.length:Nat):Int))) rfl (fun c6=>?_) (fun c6=>?_)))))))
   ·
    replace c6:=QQ1 c6
    refine Qan (Qag (Qak (Qag (Qab (Qaa (Qac (V:=I6 (k:Int)) rfl (Qaa (Qat Qei Qcs.1 (Rd.own' hr2 hs) rfl rfl (by omega) (by rw [QQ6];omega) (Qaa (QaZ (j:=0) (vs:=lsc (gd s.ticks k)) k Qcs (Rd.own' hr2 hs) (QaY (by omega)) rfl rfl rfl (by omega) (Qaa (QaJ (cs:=lsc (⟨0,0⟩:Lst)) Qm3 rfl hs fun b7 w8 hs=>(Qaa (Qad (V:=I6 (k:Int)) rfl (Qaa (QcC (V:=.agg (lsc (gd s.ticks k)).toArray) (vs:=lsc (gd s.ticks k)) (cs':=lsc (gd s.ticks k)) Qcs.1 hs 1 rfl rfl rfl rfl rfl (QQ8 rfl) (Qcw _) (Qaw rfl) fun w9 hs=>(Qae (Qag (QaC HM [some 24,some 25,some 26,some 27,some 28,some 29,some 30,some 31,some 32,some 33,some 34,some 35,some 36,some 37,some 38,some 39,some 40,some 41,some 42] [] [0,1,3,7,15,31,63,127,255,127,639,2047,4095,8191,127,16511,65535,131071,262143] [pv (Pt b7 (0+1)),pv (.int .u32 ((gd s.ticks k).tick)),pv (.bool (decide (1073741824<(gd s.ticks k).tick))),pv (.bool (decide (1073741824<(gd s.ticks k).tick))),pg ((decide (1073741824<(gd s.ticks k).tick)) == false) (I6 (k:Int)),pg ((decide (1073741824<(gd s.ticks k).tick)) == false) (.bool (decide (0<(k:Int)))),pg ((decide (1073741824<(gd s.ticks k).tick)) == false) (.bool (decide (0<(k:Int)))),pg (((decide (1073741824<(gd s.ticks k).tick)) == false)&&((decide (0<(k:Int))) == true)) (Pt b1 (0+17)),pg (((decide (1073741824<(gd s.ticks k).tick)) == false)&&((decide (0<(k:Int))) == true)) (.slice a2 s.ticks.length c2),pg (((decide (1073741824<(gd s.ticks k).tick)) == false)&&((decide (0<(k:Int))) == true)) (I6 (k:Int)),pg (((decide (1073741824<(gd s.ticks k).tick)) == false)&&((decide (0<(k:Int))) == true)) (I6 ((k-1:Nat):Int)),pg (((decide (1073741824<(gd s.ticks k).tick)) == false)&&((decide (0<(k:Int))) == true)) (.pointer (some ⟨bkS (.slice a2 s.ticks.length c2),ofS (.slice a2 s.ticks.length c2)+((k-1:Nat):Int).toNat*2,none⟩)),pg (((decide (1073741824<(gd s.ticks k).tick)) == false)&&((decide (0<(k:Int))) == true)) (.pointer (some ⟨bkS (.slice a2 s.ticks.length c2),ofS (.slice a2 s.ticks.length c2)+((k-1:Nat):Int).toNat*2+0,none⟩)),pg (((decide (1073741824<(gd s.ticks k).tick)) == false)&&((decide (0<(k:Int))) == true)) (I7 ((gd s.ticks (k-1)).cart)),pg (((decide (1073741824<(gd s.ticks k).tick)) == false)&&((decide (0<(k:Int))) == true)) (Pt b7 (0+0)),pg (((decide (1073741824<(gd s.ticks k).tick)) == false)&&((decide (0<(k:Int))) == true)) (I7 ((gd s.ticks k).cart)),pg (((decide (1073741824<(gd s.ticks k).tick)) == false)&&((decide (0<(k:Int))) == true)) (.bool (decide ((gd s.ticks k).cart≤(gd s.ticks (k-1)).cart))),pg ((decide (1073741824<(gd s.ticks k).tick)) == false) (.bool ((decide (0<(k:Int)))&&(decide ((gd s.ticks k).cart≤(gd s.ticks (k-1)).cart)))),pv (.bool ((decide (1073741824<(gd s.ticks k).tick))||((decide (0<(k:Int)))&&(decide ((gd s.ticks k).cart≤(gd s.ticks (k-1)).cart)))))] (fun _ _=>_) [18] (by kernel_rfl) hs ⟨?_,?_,?_,?_,?_,?_,?_,?_,?_,?_,?_,?_,?_,?_,?_,?_,?_,?_,?_,trivial⟩ ?_)))))))))))))))))))
    ·exact ob [] [] rfl rfl fun D ρ w hs=>Qaf Qf9 rfl ⟨rfl,hs⟩
    ·exact ob [0] [] rfl rfl fun D ρ w hs=>QaK (V:=.int .u32 ((gd s.ticks k).tick)) Qa7 hs 1 rfl rfl rfl ⟨rfl,hs⟩
    ·exact ob [1] [] rfl rfl fun D ρ w hs=>Qcb rfl rfl ⟨rfl,hs⟩
    ·exact ob [2] [] rfl rfl fun D ρ w hs=>Qac (V:=.bool (decide (1073741824<(gd s.ticks k).tick))) rfl ⟨rfl,hs⟩
    ·exact obg [3] [] (decide (1073741824<(gd s.ticks k).tick)) rfl (fun _=>rfl) rfl (fun _ _ _ _ h=>h) fun D ρ w hG hs=>Qac (V:=I6 (k:Int)) rfl ⟨rfl,hs⟩
    ·exact obgy [3,4] [] [4] (decide (1073741824<(gd s.ticks k).tick)) rfl (fun _=>rfl) rfl (fun _ _ _ _ h=>h) (fun hG=>⟨hG,trivial⟩) fun D ρ w hG hs=>Qcb rfl rfl ⟨rfl,hs⟩
    ·exact obgy [3,5] [] [5] (decide (1073741824<(gd s.ticks k).tick)) rfl (fun _=>rfl) rfl (fun _ _ _ _ h=>h) (fun hG=>⟨hG,trivial⟩) fun D ρ w hG hs=>Qac (V:=.bool (decide (0<(k:Int)))) rfl ⟨rfl,hs⟩
    ·exact obg [6] [] (decide (0<(k:Int))) rfl (fun _=>rfl) rfl (fun _ _ _ _ h=>h) fun D ρ w hG hs=>Qaf QcU rfl ⟨rfl,hs⟩
    ·exact obgy [6,7] [] [7] (decide (0<(k:Int))) rfl (fun _=>rfl) rfl (fun _ _ _ _ h=>h) (fun hG=>⟨hG,trivial⟩) fun D ρ w hG hs=>QaK (V:=.slice a2 s.ticks.length c2) Qfu hs 0 rfl rfl rfl ⟨rfl,hs⟩
    ·exact obg [6] [] (decide (0<(k:Int))) rfl (fun _=>rfl) rfl (fun _ _ _ _ h=>h) fun D ρ w hG hs=>Qac (V:=I6 (k:Int)) rfl ⟨rfl,hs⟩
    ·refine obgy [6,9] [] [9] (decide (0<(k:Int))) rfl (fun _=>rfl) rfl (fun _ _ _ _ h=>h) (fun hG=>⟨hG,trivial⟩) fun D ρ w hG hs=>?_
     have hgd0:=QQ2 (eq_of_beq (QbQ (hG)))
     have hgd1:=QQ1 (eq_of_beq (Qcd (hG)))
     exact Qa4 (a:=(k:Int)) (b:=1) (c:=((k-1:Nat):Int)) rfl rfl (Qaj (by omega) (by omega)) ⟨rfl,hs⟩
    ·refine obgy [6,8,10] [] [8,10] (decide (0<(k:Int))) rfl (fun _=>rfl) rfl (fun _ _ _ _ h=>h) (fun hG=>⟨hG,hG,trivial⟩) fun D ρ w hG hs=>?_
     have hgd0:=QQ2 (eq_of_beq (QbQ (hG)))
     have hgd1:=QQ1 (eq_of_beq (Qcd (hG)))
     exact Qat Qei Qcs.1 (Rd.own' hr2 hs) rfl rfl (by omega) (by rw [QQ6];omega) ⟨rfl,hs⟩
    ·exact obgy [6,11] [] [11] (decide (0<(k:Int))) rfl (fun _=>rfl) rfl (fun _ _ _ _ h=>h) (fun hG=>⟨hG,trivial⟩) fun D ρ w hG hs=>Qaf Qgj rfl ⟨rfl,hs⟩
    ·refine obgy [6,12] [] [12] (decide (0<(k:Int))) rfl (fun _=>rfl) rfl (fun _ _ _ _ h=>h) (fun hG=>⟨hG,trivial⟩) fun D ρ w hG hs=>?_
     have hgd0:=QQ2 (eq_of_beq (QbQ (hG)))
     have hgd1:=QQ1 (eq_of_beq (Qcd (hG)))
     exact QaQ (j:=0) (V:=.int .u16 ((gd s.ticks (k-1)).cart)) (k-1) Qap (Rd.own' hr2 hs) (QaY (by omega)) rfl rfl (by omega) ⟨rfl,hs⟩
    ·exact obg [6] [] (decide (0<(k:Int))) rfl (fun _=>rfl) rfl (fun _ _ _ _ h=>h) fun D ρ w hG hs=>Qaf Qgj rfl ⟨rfl,hs⟩
    ·exact obgy [6,14] [] [14] (decide (0<(k:Int))) rfl (fun _=>rfl) rfl (fun _ _ _ _ h=>h) (fun hG=>⟨hG,trivial⟩) fun D ρ w hG hs=>QaK (V:=I7 ((gd s.ticks k).cart)) Qap hs 1 rfl rfl rfl ⟨rfl,hs⟩
    ·exact obgy [6,13,15] [] [13,15] (decide (0<(k:Int))) rfl (fun _=>rfl) rfl (fun _ _ _ _ h=>h) (fun hG=>⟨hG,hG,trivial⟩) fun D ρ w hG hs=>QcN rfl rfl ⟨rfl,hs⟩
    ·exact obgy [3,6,16] [] [6] (decide (1073741824<(gd s.ticks k).tick)) rfl (fun _=>rfl) rfl (fun _ _ _ _ h=>h) (fun hG=>⟨hG,trivial⟩) fun D ρ w hG hs=>QeA (h':=decide ((gd s.ticks k).cart≤(gd s.ticks (k-1)).cart)) (G:=((decide (1073741824<(gd s.ticks k).tick)) == false)) hG rfl rfl rfl ⟨rfl,hs⟩
    ·exact ob [3,17] [] rfl rfl fun D ρ w hs=>QbS (h':=(decide (0<(k:Int)))&&(decide ((gd s.ticks k).cart≤(gd s.ticks (k-1)).cart))) rfl rfl rfl ⟨rfl,hs⟩
    rintro ρ1 w10 ρ2 hρ hs
    replace hρ:ρ2=upd (mix [24,25,26,27,28,29,30,31,32,33,34,35,36,37,38,39,40,41,42] ρ1 _) 42 (.bool ((decide (1073741824<(gd s.ticks k).tick))||((decide (0<(k:Int)))&&(decide ((gd s.ticks k).cart≤(gd s.ticks (k-1)).cart))))):=hρ
    subst hρ
    refine Qal (t:=(decide (1073741824<(gd s.ticks k).tick))||((decide (0<(k:Int)))&&(decide ((gd s.ticks k).cart≤(gd s.ticks (k-1)).cart)))) rfl (fun c11=>?_) (fun c11=>?_)
    ·
     refine Qag (Qab (Qaa (Qad (V:=.bool false) rfl (Qae (Qas ?_)))))
     refine ⟨_,Qao (V:=.bool false) Tryz.results10 rfl,?_⟩
     refine ⟨congrArg Ending.returned ?_,hs.take 0⟩
     exact congrArg Value.bool (Qkm (i:=k) (by omega) (by unfold Qm0;have hq:=c11;simpa using hq)).symm
    ·
     have c11r:=Qfo c11
     replace c11:=Qfl c11
     replace c11:=QQ2 c11
     refine Qan (Qab (Qaa (Qav (a:=(k:Int)) (b:=1) (c:=((k+1:Nat):Int)) rfl rfl (Qaj (by omega) (by omega)) (Qaa (Qac (V:=I6 ((k+1:Nat):Int)) rfl (Qae ?_))))))
     refine ⟨_,?_,_,k+1,Qah (Qam (ds:=[2,3,4,19,20,21,22,23,24,25,26,27,28,29,30,31,32,33,34,35,36,37,38,39,40,41,42,43]) (by repeat (first|exact Agr.refl _ _|refine Agr.upd ?_ rfl|refine Agr.mix ?_ rfl))) rfl,(by omega),(Qdh hbt (by unfold Qm0;rw [QQ4 c11,Bool.false_or];have hq:=c11r;simpa using hq)),rfl,hs.take 1⟩
     omega
   ·
    replace c6:=QQ2 c6
    refine Qaz (Qag (Qab (Qaa (QfS rfl hs dv uv fun mr12 w13 hs=>(Qaa (Qad (V:=.map (some mr12)) rfl (Qae (Qag (Qag (Qab (Qaa (Qaf QbG rfl (Qaa (QaK (V:=.slice a1 s.ents.length c1) Qdc hs 0 rfl rfl rfl (Qaa (QaX (n:=s.ents.length) Qbm (Rd.own' hr1 hs) (by simp) rfl (Qaa (Qac (V:=I6 0) rfl (Qae (Qak ?_))))))))))))))))))))
    have hbt2:=fun j (hj:j<s.ticks.length)=>hbt j (by omega)
    have hT:QeN s.ticks:=by have:=Qo1 (Nat.le_refl _) hbt2;rwa [List.take_length] at this
    refine Qax (fun ρ μ ρ' w'=>∃ (ρo:Env) (k2:Nat) (sm:List (Dot × Unit)),ρ'=upd (mix [2,6,7,8,9,10,11,48,49,50,51,52,53,54,55,56,57,58,59,60,61,62,63,64,65,66,67,68,69,70,71,72,73,74,75,76,77,78,79,80,81,82,83,84,85,86,87,88,89,90,91,92,93,94,95,96,97,98,99,100,101,102,103,104,105,106] ρo ρ) 48 (I6 (k2:Int))∧(k2≤s.ents.length)∧(∀ j:Nat,j<k2→QjK s j=false)∧(sm=Qid (s.ents.take k2))∧μ=s.ents.length-k2∧Own w no w' [blk b1 ((vc s.known)++[(.slice a1 s.ents.length c1:Value),(.slice a2 s.ticks.length c2:Value) ]) 39,Qde mr12 dv uv sm]) ?_ ?_
    ·exact ⟨_,_,0,[],Qah (Qam (ds:=[2,6,7,8,9,10,11,48,49,50,51,52,53,54,55,56,57,58,59,60,61,62,63,64,65,66,67,68,69,70,71,72,73,74,75,76,77,78,79,80,81,82,83,84,85,86,87,88,89,90,91,92,93,94,95,96,97,98,99,100,101,102,103,104,105,106]) (Agr.refl _ _)) rfl,(by omega),(fun j hj=>absurd hj (Nat.not_lt_zero j)),rfl,rfl,hs⟩
    ·rintro μ ρ' w14 ⟨ρo,k2,sm,rfl,hk2,hbe,hsm,rfl,hs⟩
     refine Qag (Qab (Qaa (QaP rfl rfl (Qae (Qag (Qal (t:=decide ((k2:Int)<((s.ents.length:Nat):Int))) rfl (fun c15=>?_) (fun c15=>?_)))))))
     ·
      replace c15:=QQ1 c15
      refine Qan (Qag (Qak (Qag (Qab (Qaa (Qac (V:=I6 (k2:Int)) rfl (Qaa (Qat Qbm QaA.1 (Rd.own' hr1 hs) rfl rfl (by omega) (by rw [QQ6];omega) (Qaa (QaZ (j:=0) (vs:=cec (gd s.ents k2)) k2 QaA (Rd.own' hr1 hs) (QaY (by omega)) rfl rfl rfl (by omega) (Qaa (QaJ (cs:=cec (⟨0,0,0,0,(⟨0,0⟩:Dot),0⟩:Cen)) Qek rfl hs fun b16 w17 hs=>(Qaa (Qad (V:=I6 (k2:Int)) rfl (Qaa (QcC (V:=.agg (cec (gd s.ents k2)).toArray) (vs:=cec (gd s.ents k2)) (cs':=cec (gd s.ents k2)) QaA.1 hs 2 rfl rfl rfl rfl rfl (QQ8 rfl) (Qa2 _) (Qaw rfl) fun w18 hs=>?_))))))))))))))))
      replace hs:Own w no w18 [blk b1 ((vc s.known)++[(.slice a1 s.ents.length c1:Value),(.slice a2 s.ticks.length c2:Value) ]) 39,Qde mr12 dv uv sm,blk b16 (cec (gd s.ents k2)) 59]:=hs
      refine Qae (Qag ?_)
      have hce:=hE0 _ (Qbq (l:=s.ents) (i:=k2) (by omega))
      have ⟨_,_,_,_,hdk,_⟩:=hce
      refine Qab (Qaa (QaR (cs:=(vc s.known)++[(.slice a1 s.ents.length c1:Value),(.slice a2 s.ticks.length c2:Value) ]) Qbz hs 0 rfl rfl rfl (Qaa (Qaf Qe7 rfl (Qaa (QaK (V:=I7 ((gd s.ents k2).cart)) Qap hs 2 rfl rfl rfl (Qaa (Qar (vs:=[.agg ((vc s.known)++[(.slice a1 s.ents.length c1:Value),(.slice a2 s.ticks.length c2:Value) ]).toArray,I7 ((gd s.ents k2).cart)]) (V:=.tuple #[I6 ((QbI s.ticks ((gd s.ents k2).cart):Nat):Int),.bool ((QaV s.ticks ((gd s.ents k2).cart)).isSome)]) Qqr rfl rfl ?hc hs fun w19 hs=>?_))))))))
      case hc=>exact (QgX _ s.known (.slice a1 s.ents.length c1) a2 c2 s.ticks ((gd s.ents k2).cart) (by omega) hT (Rd.own' hr2 hs))
      refine Qaa (Qac (V:=.tuple #[I6 ((QbI s.ticks ((gd s.ents k2).cart):Nat):Int),.bool ((QaV s.ticks ((gd s.ents k2).cart)).isSome)]) rfl (Qaa (QaB (V:=I6 ((QbI s.ticks ((gd s.ents k2).cart):Nat):Int)) rfl rfl (Qaa (QaB (V:=.bool ((QaV s.ticks ((gd s.ents k2).cart)).isSome)) rfl rfl (Qaa (Qad (V:=I6 ((QbI s.ticks ((gd s.ents k2).cart):Nat):Int)) rfl (Qaa (Qad (V:=.bool ((QaV s.ticks ((gd s.ents k2).cart)).isSome)) rfl (Qae (Qag (Qab (Qaa (Qac (V:=.map (some mr12)) rfl (Qaa (Qaf QbW rfl (Qaa (QbO (vs:=dc ((gd s.ents k2).dot)) Qcv hs 2 rfl rfl rfl rfl (Qaa (QiC (k:=(gd s.ents k2).dot) Qrp Ql2 QrY (hs.mapf 1 rfl) rfl rfl (Qaa (Qac (V:=.tuple #[.agg #[],.bool ((mget ((gd s.ents k2).dot) sm).isSome)]) rfl (Qaa (QaB (V:=.agg #[]) rfl rfl (Qaa (QaB (V:=.bool ((mget ((gd s.ents k2).dot) sm).isSome)) rfl rfl (Qaa (QaJ (cs:=[]) QrY rfl hs fun b20 w21 hs=>(Qaa (QcC (V:=.agg #[]) (vs:=[]) (cs':=[]) Qtn.1 hs 3 rfl rfl rfl rfl rfl (QQ8 rfl) Qbu (Qaw rfl) fun w22 hs=>(Qaa (Qad (V:=.bool ((mget ((gd s.ents k2).dot) sm).isSome)) rfl (Qae (Qag (Qak (Qag (Qag (Qab (Qaa (Qac (V:=.bool ((QaV s.ticks ((gd s.ents k2).cart)).isSome)) rfl (Qaa (Qbw rfl (Qaa (Qad (V:=.bool (!((QaV s.ticks ((gd s.ents k2).cart)).isSome))) rfl (Qae (Qal (t:=!((QaV s.ticks ((gd s.ents k2).cart)).isSome)) rfl (fun c23=>?_) (fun c23=>?_)))))))))))))))))))))))))))))))))))))))))))))))
      ·
       replace c23:=QbL c23
       refine Qan (Qc6 (congrArg Value.bool (by rw [c23];rfl)) ?_)
       refine Qag (Qab (Qaa (Qad (V:=.bool false) rfl (Qae (Qas ?_)))))
       refine ⟨_,Qao (V:=.bool false) Tryz.results10 rfl,?_⟩
       refine ⟨congrArg Ending.returned ?_,hs.take 0⟩
       refine congrArg Value.bool (Qc2 (i:=k2) (by omega) ?_).symm
       unfold QjK Qmu;rw [c23];simp
      ·
       replace c23:=Qbr c23
       refine Qag (Qab (Qaa (Qac (V:=.bool ((mget ((gd s.ents k2).dot) sm).isSome)) rfl (Qaa (Qad (V:=.bool ((mget ((gd s.ents k2).dot) sm).isSome)) rfl (Qae (Qal (t:=(mget ((gd s.ents k2).dot) sm).isSome) rfl (fun c24=>?_) (fun c24=>?_))))))))
       ·
        refine Qan (Qc6 (congrArg Value.bool c24) ?_)
        refine Qag (Qab (Qaa (Qad (V:=.bool false) rfl (Qae (Qas ?_)))))
        refine ⟨_,Qao (V:=.bool false) Tryz.results10 rfl,?_⟩
        refine ⟨congrArg Ending.returned ?_,hs.take 0⟩
        refine congrArg Value.bool (Qc2 (i:=k2) (by omega) ?_).symm
        unfold QjK;rw [← QhU,← hsm,c24];simp
       ·
        refine Qag (Qab (Qaa (QaR (cs:=cec (gd s.ents k2)) QaA hs 2 rfl rfl rfl (Qaa (Qar (vs:=[.agg (cec (gd s.ents k2)).toArray]) (V:=.bool (Qdq (gd s.ents k2))) Qtm rfl rfl ?hc hs fun w25 hs=>?_)))))
        case hc=>exact (Qj1 _ (gd s.ents k2) (by assumption))
        refine Qaa (Qbw rfl (Qaa (Qad (V:=.bool (!(Qdq (gd s.ents k2)))) rfl (Qae (Qal (t:=!(Qdq (gd s.ents k2))) rfl (fun c26=>?_) (fun c26=>?_))))))
        ·
         replace c26:=QbL c26
         refine Qan (Qc6 (congrArg Value.bool (by rw [c26];rfl)) ?_)
         refine Qag (Qab (Qaa (Qad (V:=.bool false) rfl (Qae (Qas ?_)))))
         refine ⟨_,Qao (V:=.bool false) Tryz.results10 rfl,?_⟩
         refine ⟨congrArg Ending.returned ?_,hs.take 0⟩
         refine congrArg Value.bool (Qc2 (i:=k2) (by omega) ?_).symm
         unfold QjK Qmu;rw [c26];simp
        ·
         replace c26:=Qbr c26
         refine Qag (Qab (Qaa (Qaf Qc9 rfl (Qaa (QbO (vs:=vc s.known) QbT hs 0 rfl rfl rfl rfl (Qaa (Qaf QbW rfl (Qaa (QbO (vs:=dc ((gd s.ents k2).dot)) Qcv hs 2 rfl rfl rfl rfl (Qaa (Qar (vs:=[.agg (vc s.known).toArray,.agg (dc ((gd s.ents k2).dot)).toArray]) (V:=.bool (QbC s.known ((gd s.ents k2).dot))) QmG rfl rfl ?hc hs fun w27 hs=>?_)))))))))))
         case hc=>exact (Qgf _ s.known ((gd s.ents k2).dot) (by first|assumption|exact QcZ (by omega) (by omega) (by omega) (by omega)))
         refine Qaa (Qbw rfl (Qaa (Qad (V:=.bool (!(QbC s.known ((gd s.ents k2).dot)))) rfl (Qae (Qal (t:=!(QbC s.known ((gd s.ents k2).dot))) rfl (fun c28=>?_) (fun c28=>?_))))))
         ·
          replace c28:=QbL c28
          refine Qan (Qc6 (congrArg Value.bool (by rw [c28];rfl)) ?_)
          refine Qag (Qab (Qaa (Qad (V:=.bool false) rfl (Qae (Qas ?_)))))
          refine ⟨_,Qao (V:=.bool false) Tryz.results10 rfl,?_⟩
          refine ⟨congrArg Ending.returned ?_,hs.take 0⟩
          refine congrArg Value.bool (Qc2 (i:=k2) (by omega) ?_).symm
          unfold QjK Qmu;rw [c28];simp
         ·
          replace c28:=Qbr c28
          refine Qbi [some 80,some 81,some 82,some 83,some 84,some 85,some 86,some 87,some 67] [] [0,1,3,7,15,31,63,127,255] [pv (Pt b16 (0+6)),pv (.int .u64 ((gd s.ents k2).count)),pv (.bool (decide ((gd s.ents k2).count<1))),pv (.bool (decide ((gd s.ents k2).count<1))),pg ((decide ((gd s.ents k2).count<1)) == false) (Pt b16 (0+6)),pg ((decide ((gd s.ents k2).count<1)) == false) (.int .u64 ((gd s.ents k2).count)),pg ((decide ((gd s.ents k2).count<1)) == false) (.bool (decide (16777217<(gd s.ents k2).count))),pv (.bool ((decide ((gd s.ents k2).count<1))||(decide (16777217<(gd s.ents k2).count)))),pv (.bool ((decide ((gd s.ents k2).count<1))||(decide (16777217<(gd s.ents k2).count))))] (fun _ _=>_) [8] (by kernel_rfl) hs ⟨?_,?_,?_,?_,?_,?_,?_,?_,?_,trivial⟩ ?_
          ·exact ob [] [] rfl rfl fun D ρ w hs=>Qaf QfK rfl ⟨rfl,hs⟩
          ·exact ob [0] [] rfl rfl fun D ρ w hs=>QaK (V:=.int .u64 ((gd s.ents k2).count)) QmK hs 2 rfl rfl rfl ⟨rfl,hs⟩
          ·exact ob [1] [] rfl rfl fun D ρ w hs=>QaP rfl rfl ⟨rfl,hs⟩
          ·exact ob [2] [] rfl rfl fun D ρ w hs=>Qac (V:=.bool (decide ((gd s.ents k2).count<1))) rfl ⟨rfl,hs⟩
          ·exact obg [3] [] (decide ((gd s.ents k2).count<1)) rfl (fun _=>rfl) rfl (fun _ _ _ _ h=>h) fun D ρ w hG hs=>Qaf QfK rfl ⟨rfl,hs⟩
          ·exact obgy [3,4] [] [4] (decide ((gd s.ents k2).count<1)) rfl (fun _=>rfl) rfl (fun _ _ _ _ h=>h) (fun hG=>⟨hG,trivial⟩) fun D ρ w hG hs=>QaK (V:=.int .u64 ((gd s.ents k2).count)) QmK hs 2 rfl rfl rfl ⟨rfl,hs⟩
          ·exact obgy [3,5] [] [5] (decide ((gd s.ents k2).count<1)) rfl (fun _=>rfl) rfl (fun _ _ _ _ h=>h) (fun hG=>⟨hG,trivial⟩) fun D ρ w hG hs=>Qcb rfl rfl ⟨rfl,hs⟩
          ·exact ob [3,6] [] rfl rfl fun D ρ w hs=>QbS (h':=decide (16777217<(gd s.ents k2).count)) rfl rfl rfl ⟨rfl,hs⟩
          ·exact ob [7] [] rfl rfl fun D ρ w hs=>Qad (V:=.bool ((decide ((gd s.ents k2).count<1))||(decide (16777217<(gd s.ents k2).count)))) rfl ⟨rfl,hs⟩
          rintro ρ1 w29 ρ2 hρ hs
          replace hρ:ρ2=upd (mix [80,81,82,83,84,85,86,87,67] ρ1 _) 67 (.bool ((decide ((gd s.ents k2).count<1))||(decide (16777217<(gd s.ents k2).count)))):=hρ
          subst hρ
          refine Qal (t:=(decide ((gd s.ents k2).count<1))||(decide (16777217<(gd s.ents k2).count))) rfl (fun c30=>?_) (fun c30=>?_)
          ·
           refine Qag (Qab (Qaa (Qad (V:=.bool false) rfl (Qae (Qas ?_)))))
           refine ⟨_,Qao (V:=.bool false) Tryz.results10 rfl,?_⟩
           refine ⟨congrArg Ending.returned ?_,hs.take 0⟩
           refine congrArg Value.bool (Qc2 (i:=k2) (by omega) ?_).symm
           have hq:=c30
           unfold QjK Qmu
           rcases Int.lt_or_le (gd s.ents k2).count 1 with q|q
           ·rw [QQ4 (p:=1≤_) (by omega)];simp
           ·rw [QQ4 (p:=_≤16777217) (by simp at hq;omega)];simp
          ·
           have c30r:=Qfo c30
           replace c30:=Qfl c30
           replace c30:=QQ2 c30
           replace c30r:=QQ2 c30r
           refine Qag (QaC HM [some 89,some 90,some 91,some 92,some 93,some 94,some 95,some 96,some 97,some 98,some 99,some 100,some 101,some 88] [] [0,1,3,7,15,7,39,127,255,7,1023,2047,4095,8191] [pv (I6 (k2:Int)),pv (.bool (decide (0<(k2:Int)))),pv (.bool (decide (0<(k2:Int)))),pg ((decide (0<(k2:Int))) == true) (Pt b1 (0+16)),pg ((decide (0<(k2:Int))) == true) (.slice a1 s.ents.length c1),pg ((decide (0<(k2:Int))) == true) (I6 (k2:Int)),pg ((decide (0<(k2:Int))) == true) (I6 ((k2-1:Nat):Int)),pg ((decide (0<(k2:Int))) == true) (.pointer (some ⟨bkS (.slice a1 s.ents.length c1),ofS (.slice a1 s.ents.length c1)+((k2-1:Nat):Int).toNat*7,none⟩)),pg ((decide (0<(k2:Int))) == true) (.agg (cec (gd s.ents (k2-1))).toArray),pg ((decide (0<(k2:Int))) == true) (.agg (cec (gd s.ents k2)).toArray),pg ((decide (0<(k2:Int))) == true) (I6 (QbM (gd s.ents (k2-1)) (gd s.ents k2))),pg ((decide (0<(k2:Int))) == true) (.bool (decide (0≤QbM (gd s.ents (k2-1)) (gd s.ents k2)))),pv (.bool ((decide (0<(k2:Int)))&&(decide (0≤QbM (gd s.ents (k2-1)) (gd s.ents k2))))),pv (.bool ((decide (0<(k2:Int)))&&(decide (0≤QbM (gd s.ents (k2-1)) (gd s.ents k2)))))] (fun _ _=>_) [13] (by kernel_rfl) hs ⟨?_,?_,?_,?_,?_,?_,?_,?_,?_,?_,?_,?_,?_,?_,trivial⟩ ?_)
           ·exact ob [] [] rfl rfl fun D ρ w hs=>Qac (V:=I6 (k2:Int)) rfl ⟨rfl,hs⟩
           ·exact ob [0] [] rfl rfl fun D ρ w hs=>Qcb rfl rfl ⟨rfl,hs⟩
           ·exact ob [1] [] rfl rfl fun D ρ w hs=>Qac (V:=.bool (decide (0<(k2:Int)))) rfl ⟨rfl,hs⟩
           ·exact obg [2] [] (decide (0<(k2:Int))) rfl (fun _=>rfl) rfl (fun _ _ _ _ h=>h) fun D ρ w hG hs=>Qaf QbG rfl ⟨rfl,hs⟩
           ·exact obgy [2,3] [] [3] (decide (0<(k2:Int))) rfl (fun _=>rfl) rfl (fun _ _ _ _ h=>h) (fun hG=>⟨hG,trivial⟩) fun D ρ w hG hs=>QaK (V:=.slice a1 s.ents.length c1) Qdc hs 0 rfl rfl rfl ⟨rfl,hs⟩
           ·exact obg [2] [] (decide (0<(k2:Int))) rfl (fun _=>rfl) rfl (fun _ _ _ _ h=>h) fun D ρ w hG hs=>Qac (V:=I6 (k2:Int)) rfl ⟨rfl,hs⟩
           ·refine obgy [2,5] [] [5] (decide (0<(k2:Int))) rfl (fun _=>rfl) rfl (fun _ _ _ _ h=>h) (fun hG=>⟨hG,trivial⟩) fun D ρ w hG hs=>?_
            have hgd:=QQ1 (eq_of_beq (hG))
            exact Qa4 (a:=(k2:Int)) (b:=1) (c:=((k2-1:Nat):Int)) rfl rfl (Qaj (by omega) (by omega)) ⟨rfl,hs⟩
           ·refine obgy [2,4,6] [] [4,6] (decide (0<(k2:Int))) rfl (fun _=>rfl) rfl (fun _ _ _ _ h=>h) (fun hG=>⟨hG,hG,trivial⟩) fun D ρ w hG hs=>?_
            have hgd:=QQ1 (eq_of_beq (hG))
            exact Qat Qbm QaA.1 (Rd.own' hr1 hs) rfl rfl (by omega) (by rw [QQ6];omega) ⟨rfl,hs⟩
           ·refine obgy [2,7] [] [7] (decide (0<(k2:Int))) rfl (fun _=>rfl) rfl (fun _ _ _ _ h=>h) (fun hG=>⟨hG,trivial⟩) fun D ρ w hG hs=>?_
            have hgd:=QQ1 (eq_of_beq (hG))
            exact QaZ (j:=0) (vs:=cec (gd s.ents (k2-1))) (k2-1) QaA (Rd.own' hr1 hs) (QaY (by omega)) rfl rfl rfl (by omega) ⟨rfl,hs⟩
           ·exact obg [2] [] (decide (0<(k2:Int))) rfl (fun _=>rfl) rfl (fun _ _ _ _ h=>h) fun D ρ w hG hs=>QaR (cs:=cec (gd s.ents k2)) QaA hs 2 rfl rfl rfl ⟨rfl,hs⟩
           ·exact obgy [2,8,9] [] [8,9] (decide (0<(k2:Int))) rfl (fun _=>rfl) rfl (fun _ _ _ _ h=>h) (fun hG=>⟨hG,hG,trivial⟩) fun D ρ w hG hs=>Qar (vs:=[.agg (cec (gd s.ents (k2-1))).toArray,.agg (cec (gd s.ents k2)).toArray]) (V:=I6 (QbM (gd s.ents (k2-1)) (gd s.ents k2))) Qsa rfl rfl (place_ok _ (gd s.ents (k2-1)) (gd s.ents k2)) hs fun _ hs=>⟨rfl,hs⟩
           ·exact obgy [2,10] [] [10] (decide (0<(k2:Int))) rfl (fun _=>rfl) rfl (fun _ _ _ _ h=>h) (fun hG=>⟨hG,trivial⟩) fun D ρ w hG hs=>QcN rfl rfl ⟨rfl,hs⟩
           ·exact ob [2,11] [] rfl rfl fun D ρ w hs=>Qa3 (h':=decide (0≤QbM (gd s.ents (k2-1)) (gd s.ents k2))) rfl rfl rfl ⟨rfl,hs⟩
           ·exact ob [12] [] rfl rfl fun D ρ w hs=>Qad (V:=.bool ((decide (0<(k2:Int)))&&(decide (0≤QbM (gd s.ents (k2-1)) (gd s.ents k2))))) rfl ⟨rfl,hs⟩
           rintro ρ1 w32 ρ2 hρ hs
           replace hρ:ρ2=upd (mix [89,90,91,92,93,94,95,96,97,98,99,100,101,88] ρ1 _) 88 (.bool ((decide (0<(k2:Int)))&&(decide (0≤QbM (gd s.ents (k2-1)) (gd s.ents k2))))):=hρ
           subst hρ
           refine Qal (t:=(decide (0<(k2:Int)))&&(decide (0≤QbM (gd s.ents (k2-1)) (gd s.ents k2)))) rfl (fun c33=>?_) (fun c33=>?_)
           ·
            have c33r:=Qcd c33
            replace c33:=QbQ c33
            replace c33:=QQ1 c33
            replace c33r:=QQ1 c33r
            refine Qag (Qab (Qaa (Qad (V:=.bool false) rfl (Qae (Qas ?_)))))
            refine ⟨_,Qao (V:=.bool false) Tryz.results10 rfl,?_⟩
            refine ⟨congrArg Ending.returned ?_,hs.take 0⟩
            refine congrArg Value.bool (Qc2 (i:=k2) (by omega) ?_).symm
            have hq:=QQ3 c33r
            rw [Qjg] at hq
            unfold QjK
            rw [hq,QQ3 (by omega:0<k2)]
            simp
           ·
            refine Qan (Qab (Qaa (Qac (V:=.map (some mr12)) rfl (Qaa (Qaf QbW rfl (Qaa (QbO (vs:=dc ((gd s.ents k2).dot)) Qcv hs 2 rfl rfl rfl rfl (Qaa (Qcy (vs:=[]) (cs:=[]) Qtv (rfl) rfl (Qaa (QgW (k:=(gd s.ents k2).dot) (v:=()) Qrp Ql2 hs 1 rfl rfl rfl rfl fun w34 hs=>(Qae (Qab (Qaa (Qav (a:=(k2:Int)) (b:=1) (c:=((k2+1:Nat):Int)) rfl rfl (Qaj (by omega) (by omega)) (Qaa (Qac (V:=I6 ((k2+1:Nat):Int)) rfl (Qae ?_))))))))))))))))))
            have hbk:QjK s k2=false:=by
             unfold QjK Qmu
             rw [c23,c26,c28,QQ3 (p:=1≤_) (by omega),QQ3 (p:=_≤16777217) (by omega),← QhU,← hsm,c24]
             have hq:=c33
             rw [Qjg] at hq
             simpa using hq
            refine ⟨_,?_,_,k2+1,mput ((gd s.ents k2).dot) () sm,Qah (Qam (ds:=[2,6,7,8,9,10,11,48,49,50,51,52,53,54,55,56,57,58,59,60,61,62,63,64,65,66,67,68,69,70,71,72,73,74,75,76,77,78,79,80,81,82,83,84,85,86,87,88,89,90,91,92,93,94,95,96,97,98,99,100,101,102,103,104,105,106]) (by repeat (first|exact Agr.refl _ _|refine Agr.upd ?_ rfl|refine Agr.mix ?_ rfl))) rfl,(by omega),(Qdh hbe hbk),(by rw [Qkr (by omega),← hsm]),rfl,hs.take 2⟩
            omega
     ·
      replace c15:=QQ2 c15
      refine Qaz (Qag (Qab (Qaa (Qad (V:=.bool true) rfl (Qae (Qas ?_))))))
      refine ⟨_,Qao (V:=.bool true) Tryz.results10 rfl,?_⟩
      refine ⟨congrArg Ending.returned ?_,hs.take 0⟩
      exact congrArg Value.bool (QbP.2 (Qhr c4 hbt2 fun j hj=>hbe j (by omega))).symm
end Tt
end Go.Proofs
namespace Go.Proofs
open Go Go.Vx Go.RowKit
namespace Tt
theorem QhN (w:World) (s:Sta) (a1:Option Addr) (c1:Nat) (a2:Option Addr) (c2:Nat) (hok:QcT s) (hle:s.ents.length≤1000) (hlt:s.ticks.length≤1000) (hr1:Rd w (.slice a1 s.ents.length c1) 7 (s.ents.map cec)) (hr2:Rd w (.slice a2 s.ticks.length c2) 2 (s.ticks.map lsc)):Calls Tryz.prog 24 #[.agg ((vc s.known)++[(.slice a1 s.ents.length c1:Value),(.slice a2 s.ticks.length c2:Value) ]).toArray] w (fun e w'=>∃ x:Option Addr × Nat,e = .returned (.slice x.1 (QcV s).length x.2)∧Own w no w' [row (.slice x.1 (QcV s).length x.2) ((QcV s).map (ic .u16)) 31 1]∧True):=by
 refine Qai (n:=23) Tryz.func24 rfl Tryz.ntmps24 rfl ?_
 have hs:=Own.start w
 have ⟨hv0,hE0,hT0⟩:=hok
 refine Qag (Qab (Qaa (Qa9 (V:=.agg ((vc s.known)++[(.slice a1 s.ents.length c1:Value),(.slice a2 s.ticks.length c2:Value) ]).toArray) (cs:=(vc s.known)++[(.slice a1 s.ents.length c1:Value),(.slice a2 s.ticks.length c2:Value) ]) rfl rfl hs fun b1 w2 hs=>(Qaa (Qad (V:=.slice none 0 0) rfl (Qae (Qag (Qag (Qab (Qaa (QaR (cs:=(vc s.known)++[(.slice a1 s.ents.length c1:Value),(.slice a2 s.ticks.length c2:Value) ]) Qbz hs 0 rfl rfl rfl (Qaa (Qar (vs:=[.agg ((vc s.known)++[(.slice a1 s.ents.length c1:Value),(.slice a2 s.ticks.length c2:Value) ]).toArray]) (V:=.bool (QaO s)) QiA rfl rfl ?hc hs fun w3 hs=>?_)))))))))))))
 case hc=>exact (Qc7 _ s a1 c1 a2 c2 hok (by omega) (by omega) (Rd.own' hr1 hs) (Rd.own' hr2 hs))
 refine Qaa (Qbw rfl (Qae (Qal (t:=!(QaO s)) rfl (fun c4=>?_) (fun c4=>?_))))
 ·
  replace c4:=QbL c4
  refine Qag (Qab (Qaa (Qad (V:=.slice none 0 0) rfl (Qae (Qas ?_)))))
  refine ⟨_,Qao (V:=.slice none 0 0) Tryz.results24 rfl,?_⟩
  have hX:QcV s=[]:=by unfold QcV;rw [if_neg (by rw [c4];decide)]
  rw [hX]
  exact ⟨(none,0),rfl,(hs.take 0).more _ (QbF _ _ _ _),trivial⟩
 ·
  replace c4:=Qbr c4
  refine Qan (Qag (Qab (Qaa (Qad (V:=.slice none 0 0) rfl (Qae (Qag (Qag (Qab (Qaa (Qaf QcU rfl (Qaa (QaK (V:=.slice a2 s.ticks.length c2) Qfu hs 0 rfl rfl rfl (Qaa (QaX (n:=s.ticks.length) Qei (Rd.own' hr2 hs) (by simp) rfl (Qaa (Qac (V:=I6 0) rfl (Qae (Qak ?_))))))))))))))))))
  replace hs:=hs.more (row (.slice none 0 0) (List.map (ic .u16) []) 31 1) (QbF _ _ _ _)
  refine Qax (fun ρ μ ρ' w'=>∃ (ρo:Env) (k:Nat) (a9:Option Addr) (c9:Nat) (L9:List Int),ρ'=upd (upd (mix [3,5,12,13,14,15,16,17,18,19,20,21] ρo ρ) 12 (I6 (k:Int))) 3 (.slice a9 L9.length c9)∧(k≤s.ticks.length)∧(L9=(s.ticks.take k).map (·.cart))∧(L9.length≤k)∧μ=s.ticks.length-k∧Own w no w' [blk b1 ((vc s.known)++[(.slice a1 s.ents.length c1:Value),(.slice a2 s.ticks.length c2:Value) ]) 39,row (.slice a9 L9.length c9) (L9.map (ic .u16)) 31 1]) ?_ ?_
  ·exact ⟨_,_,0,none,0,[],Qah (Qah (Qam (ds:=[3,5,12,13,14,15,16,17,18,19,20,21]) (Agr.refl _ _)) rfl) rfl,(by omega),rfl,(Nat.le_refl _),rfl,hs⟩
  ·rintro μ ρ' w5 ⟨ρo,k,a9,c9,L9,rfl,hk,hL9,hl9,rfl,hs⟩
   refine Qag (Qab (Qaa (QaP rfl rfl (Qae (Qag (Qal (t:=decide ((k:Int)<((s.ticks.length:Nat):Int))) rfl (fun c6=>?_) (fun c6=>?_)))))))
   ·
    replace c6:=QQ1 c6
    refine Qan (Qag (Qak (Qag (Qab (Qaa (Qat Qei Qcs.1 (Rd.own' hr2 hs) rfl rfl (by omega) (by rw [QQ6];omega) (Qaa (QaZ (j:=0) (vs:=lsc (gd s.ticks k)) k Qcs (Rd.own' hr2 hs) (QaY (by omega)) rfl rfl rfl (by omega) (Qaa (QaJ (cs:=lsc (⟨0,0⟩:Lst)) Qm3 rfl hs fun b7 w8 hs=>(Qaa (QcC (V:=.agg (lsc (gd s.ticks k)).toArray) (vs:=lsc (gd s.ticks k)) (cs':=lsc (gd s.ticks k)) Qcs.1 hs 2 rfl rfl rfl rfl rfl (QQ8 rfl) (Qcw _) (Qaw rfl) fun w9 hs=>(Qae (Qab (Qaa (Qac (V:=.slice a9 L9.length c9) rfl (Qaa (Qaf Qgj rfl (Qaa (QaK (V:=I7 ((gd s.ticks k).cart)) Qap hs 2 rfl rfl rfl (Qaa (QhD (vals:=[I7 ((gd s.ticks k).cart)]) (ls:=List.map (ic .u16) ([(gd s.ticks k).cart]:List Int)) QjY rfl rfl rfl (Qbl (enc:=(ic .u16)) (fun _=>rfl) _) (QaU (QeL .u16) _) (QQ8 rfl) hs fun b10 w11 hs=>?_))))))))))))))))))))))
    replace hs:Own w no w11 [blk b1 ((vc s.known)++[(.slice a1 s.ents.length c1:Value),(.slice a2 s.ticks.length c2:Value) ]) 39,row (.slice a9 L9.length c9) (L9.map (ic .u16)) 31 1,blk b7 (lsc (gd s.ticks k)) 87,row (.slice (some ⟨b10,0,none⟩) 1 1) ([(gd s.ticks k).cart].map (ic .u16)) 31 1]:=hs
    refine Qaa (Qdl (ls':=(L9++[(gd s.ticks k).cart]).map (ic .u16)) (n:=(L9++[(gd s.ticks k).cart]).length) QjY hs 1 rfl rfl rfl (hs.rd 3 rfl) (QaU (QeL .u16) _) (by simp only [QQ6,QQ7,List.length_cons,List.length_nil];omega) (by simp) (by simp) fun a12 c12 w13 hs=>(Qaa (Qad (V:=.slice a12 ((L9++[(gd s.ticks k).cart]).length) c12) rfl (Qae (Qab (Qaa (Qav (a:=(k:Int)) (b:=1) (c:=((k+1:Nat):Int)) rfl rfl (Qaj (by omega) (by omega)) (Qaa (Qac (V:=I6 ((k+1:Nat):Int)) rfl (Qae ?_))))))))))
    refine ⟨_,?_,_,k+1,a12,c12,L9++[(gd s.ticks k).cart],Qah (Qah (Qam (ds:=[3,5,12,13,14,15,16,17,18,19,20,21]) (by repeat (first|exact Agr.refl _ _|refine Agr.upd ?_ rfl|refine Agr.mix ?_ rfl))) rfl) rfl,(by omega),(Qhk (f:=fun x:Lst=>x.cart) hL9 (by omega)),(by rw [QQ7,List.length_singleton];omega),rfl,hs.take 2⟩
    omega
   ·
    replace c6:=QQ2 c6
    refine Qaz (Qag (Qab (Qaa (Qac (V:=.slice a9 L9.length c9) rfl (Qaa (Qad (V:=.slice a9 L9.length c9) rfl (Qae (Qas ?_))))))))
    refine ⟨_,Qao (V:=.slice a9 L9.length c9) Tryz.results24 rfl,?_⟩
    have hX:L9=QcV s:=by unfold QcV;rw [if_pos c4,hL9,Qb6 (by omega)]
    rw [hX] at hs ⊢
    exact ⟨(a9,c9),rfl,hs.only 1 rfl,trivial⟩
end Tt
end Go.Proofs
namespace Go.Proofs
open Go Go.Vx Go.RowKit
namespace Tt
theorem Qnj (w:World) (x o:Opn) (bx:Nat) (he:Qc8 o.dot) (hc:QcL w bx (oc o)):Calls Tryz.prog 95 #[.agg (oc x).toArray,.pointer (some ⟨bx,0,none⟩)] w (fun r w'=>r = .returned (.bool (Qay x o))∧Own w no w' []):=by
 refine Qai (n:=7) Tryz.func95 rfl Tryz.ntmps95 rfl ?_
 have hs:=Own.start w
 refine Qag (Qab (Qaa (Qa9 (V:=.agg (oc x).toArray) (cs:=oc x) rfl rfl hs fun b1 w2 hs=>(Qaa (Qad (V:=.bool false) rfl (Qae (Qag (Qab (Qaa (QaR (cs:=oc x) Qa0 hs 0 rfl rfl rfl (Qaa (Qph (vs:=oc o) Qa0 (hc.own' hs) rfl rfl rfl (Qaa (Qar (vs:=[.agg (oc x).toArray,.agg (oc o).toArray]) (V:=.bool (Qay x o)) QrX rfl rfl ?hc hs fun w3 hs=>?_))))))))))))))
 case hc=>exact (Qja _ x o (by assumption))
 refine Qaa (Qad (V:=.bool (Qay x o)) rfl (Qae (Qas ?_)))
 refine ⟨_,Qao (V:=.bool (Qay x o)) Tryz.results95 rfl,?_⟩
 refine ⟨congrArg Ending.returned ?_,hs.take 0⟩
 rfl
theorem QrK (w:World) (a:Option Addr) (c:Nat) (l:List Opn) (o:Opn) (bx:Nat) (he:Qc8 o.dot) (hc:QcL w bx (oc o)) (hr:Rd w (.slice a l.length c) 23 (l.map oc)):Calls Tryz.prog 113 #[.slice a l.length c,.func (.func 95) #[] #[.pointer (some ⟨bx,0,none⟩)]] w (fun e w'=>e = .returned (.int .i64 (QmW (fun x=>Qay x o) l))∧Own w no w' []):=by
 refine Qai (n:=19) Tryz.func113 rfl Tryz.ntmps113 rfl ?_
 have hs:=Own.start w
 have hn:=hr.sml
 refine Qag (Qab (Qaa (Qad (V:=I6 0) rfl (Qae (Qag (Qag (Qab (Qaa (Qac (V:=.slice a l.length c) rfl (Qaa (QaX (n:=l.length) Qbv (Rd.own' hr hs) (by simp) rfl (Qaa (Qac (V:=I6 0) rfl (Qae (Qak (Qax (fun ρ μ ρ' w'=>∃ (ρo:Env) (k:Nat),ρ'=upd (mix [4,5,8,9,10,11,12,13,14,15,16,17,18] ρo ρ) 8 (I6 (k:Int))∧(k≤l.length)∧(∀ j:Nat,j<k→Qay (gd l j) o=false)∧μ=l.length-k∧Own w no w' []) ?_ ?_))))))))))))))))
 ·exact ⟨_,_,0,Qah (Qam (ds:=[4,5,8,9,10,11,12,13,14,15,16,17,18]) (Agr.refl _ _)) rfl,(by omega),(fun j hj=>absurd hj (Nat.not_lt_zero j)),rfl,hs⟩
 ·rintro μ ρ' w1 ⟨ρo,k,rfl,hk,hno,rfl,hs⟩
  refine Qag (Qab (Qaa (QaP rfl rfl (Qae (Qag (Qal (t:=decide ((k:Int)<((l.length:Nat):Int))) rfl (fun c2=>?_) (fun c2=>?_)))))))
  ·
   replace c2:=QQ1 c2
   refine Qan (Qag (Qak (Qag (Qab (Qaa (Qac (V:=I6 (k:Int)) rfl (Qaa (Qad (V:=I6 (k:Int)) rfl (Qae (Qag (Qab (Qaa (Qac (V:=.func (.func 95) #[] #[Pt bx 0]) rfl (Qaa (Qac (V:=.slice a l.length c) rfl (Qaa (Qac (V:=I6 (k:Int)) rfl (Qaa (Qat Qbv Qa0.1 (Rd.own' hr hs) rfl rfl (by omega) (by rw [QQ6];omega) (Qaa (QaZ (j:=0) (vs:=oc (gd l k)) k Qa0 (Rd.own' hr hs) (QaY (by omega)) rfl rfl rfl (by omega) (Qaa (Qf2 (vs:=[.agg (oc (gd l k)).toArray]) (cs:=[Pt bx 0]) (V:=.bool (Qay (gd l k) o)) Qta rfl rfl (Qnj _ (gd l k) o bx he (hc.own' hs)) hs fun w3 hs=>(Qae (Qal (t:=Qay (gd l k) o) rfl (fun c4=>?_) (fun c4=>?_))))))))))))))))))))))))))
   ·
    refine Qag (Qab (Qaa (Qac (V:=I6 (k:Int)) rfl (Qaa (Qad (V:=I6 (k:Int)) rfl (Qae (Qas ?_)))))))
    refine ⟨_,Qao (V:=I6 (k:Int)) Tryz.results113 rfl,?_⟩
    refine ⟨congrArg Ending.returned ?_,hs.take 0⟩
    exact congrArg (Value.int .i64) (QpH (p:=fun x=>Qay x o) (by omega) hno c4).symm
   ·
    refine Qan (Qab (Qaa (Qav (a:=(k:Int)) (b:=1) (c:=(k:Int)+1) rfl rfl (Qbh (by omega) (by omega)) (Qaa (Qac (V:=I6 ((k:Int)+1)) rfl (Qae ?_))))))
    refine ⟨_,?_,_,k+1,Qah (Qam (ds:=[4,5,8,9,10,11,12,13,14,15,16,17,18]) (by repeat (first|exact Agr.refl _ _|refine Agr.upd ?_ rfl|refine Agr.mix ?_ rfl))) rfl,(by omega),(Qk8 (p:=fun x=>Qay x o) hno c4),rfl,hs.take 0⟩
    omega
  ·
   replace c2:=QQ2 c2
   refine Qaz (Qag (Qab (Qaa (Qad (V:=I6 (-1)) rfl (Qae (Qas ?_))))))
   refine ⟨_,Qao (V:=I6 (-1)) Tryz.results113 rfl,?_⟩
   refine ⟨congrArg Ending.returned ?_,hs.take 0⟩
   exact congrArg (Value.int .i64) (Qsr (p:=fun x=>Qay x o) fun j hj=>hno j (by omega)).symm
theorem QpA (w:World) (a:Option Addr) (c:Nat) (l:List Opn) (o:Opn) (bx:Nat) (he:Qc8 o.dot) (hc:QcL w bx (oc o)) (hr:Rd w (.slice a l.length c) 23 (l.map oc)):Calls Tryz.prog 94 #[.slice a l.length c,.func (.func 95) #[] #[.pointer (some ⟨bx,0,none⟩)]] w (fun e w'=>e = .returned (.bool (l.any fun x=>Qay x o))∧Own w no w' []):=by
 refine Qai (n:=9) Tryz.func94 rfl Tryz.ntmps94 rfl ?_
 have hs:=Own.start w
 refine Qag (Qab (Qaa (Qad (V:=.bool false) rfl (Qae (Qag (Qab (Qaa (Qac (V:=.slice a l.length c) rfl (Qaa (Qac (V:=.func (.func 95) #[] #[Pt bx 0]) rfl (Qaa (Qar (vs:=[.slice a l.length c,.func (.func 95) #[] #[Pt bx 0]]) (V:=I6 (QmW (fun x=>Qay x o) l)) Qry rfl rfl ?hc hs fun w1 hs=>?_))))))))))))
 case hc=>exact (QrK _ a c l o bx (by assumption) (hc.own' hs) (Rd.own' hr hs))
 refine Qaa (QcN rfl rfl (Qaa (Qad (V:=.bool (decide (0≤QmW (fun x=>Qay x o) l))) rfl (Qae (Qas ?_)))))
 refine ⟨_,Qao (V:=.bool (decide (0≤QmW (fun x=>Qay x o) l))) Tryz.results94 rfl,?_⟩
 refine ⟨congrArg Ending.returned ?_,hs.take 0⟩
 exact congrArg Value.bool QpX
theorem Qnm (w:World) (a:Option Addr) (c:Nat) (l:List Opn) (o:Opn) (he:Qc8 o.dot) (hr:Rd w (.slice a l.length c) 23 (l.map oc)):Calls Tryz.prog 59 #[.slice a l.length c,.agg (oc o).toArray] w (fun e w'=>e = .returned (.bool (QaG l o))∧Own w no w' []):=by
 refine Qai (n:=13) Tryz.func59 rfl Tryz.ntmps59 rfl ?_
 have hs:=Own.start w
 refine Qag (Qab (Qaa (Qa9 (V:=.agg (oc o).toArray) (cs:=oc o) rfl rfl hs fun b1 w2 hs=>(Qaa (Qad (V:=.bool false) rfl (Qae (Qag (Qbi [some 5,some 6,some 7,some 8,some 9,some 10,some 11,some 12,some 4] [] [0,1,3,7,7,31,63,127,255] [pv (.agg (oc o).toArray),pv (.bool (QaF o)),pv (.bool (QaF o)),pg ((QaF o) == true) (.slice a l.length c),pg ((QaF o) == true) (.func (.func 95) #[] #[Pt b1 0]),pg ((QaF o) == true) (.bool (l.any fun x=>Qay x o)),pg ((QaF o) == true) (.bool (!(l.any fun x=>Qay x o))),pv (.bool ((QaF o)&&(!(l.any fun x=>Qay x o)))),pv (.bool ((QaF o)&&(!(l.any fun x=>Qay x o))))] (fun _ _=>_) [8] (by kernel_rfl) hs ⟨?_,?_,?_,?_,?_,?_,?_,?_,?_,trivial⟩ ?_))))))))
 ·exact ob [] [] rfl rfl fun D ρ w hs=>QaR (cs:=oc o) Qa0 hs 0 rfl rfl rfl ⟨rfl,hs⟩
 ·exact ob [0] [] rfl rfl fun D ρ w hs=>Qar (vs:=[.agg (oc o).toArray]) (V:=.bool (QaF o)) Qt1 rfl rfl (QoH _ o) hs fun _ hs=>⟨rfl,hs⟩
 ·exact ob [1] [] rfl rfl fun D ρ w hs=>Qac (V:=.bool (QaF o)) rfl ⟨rfl,hs⟩
 ·exact obg [2] [] (QaF o) rfl (fun _=>rfl) rfl (fun _ _ _ _ h=>h) fun D ρ w hG hs=>Qac (V:=.slice a l.length c) rfl ⟨rfl,hs⟩
 ·exact obg [2] [] (QaF o) rfl (fun _=>rfl) rfl (fun _ _ _ _ h=>h) fun D ρ w hG hs=>Qe2 (cs:=[Pt b1 0]) rfl rfl ⟨rfl,hs⟩
 ·exact obgy [2,3,4] [] [3,4] (QaF o) rfl (fun _=>rfl) rfl (fun _ _ _ _ h=>h) (fun hG=>⟨hG,hG,trivial⟩) fun D ρ w hG hs=>Qar (vs:=[.slice a l.length c,.func (.func 95) #[] #[Pt b1 0]]) (V:=.bool (l.any fun x=>Qay x o)) Qt8 rfl rfl (QpA _ a c l o b1 (by assumption) (hs.cellsf 0 rfl) (Rd.own' hr hs)) hs fun _ hs=>⟨rfl,hs⟩
 ·exact obgy [2,5] [] [5] (QaF o) rfl (fun _=>rfl) rfl (fun _ _ _ _ h=>h) (fun hG=>⟨hG,trivial⟩) fun D ρ w hG hs=>Qbw rfl ⟨rfl,hs⟩
 ·exact ob [2,6] [] rfl rfl fun D ρ w hs=>Qa3 (h':=!(l.any fun x=>Qay x o)) rfl rfl rfl ⟨rfl,hs⟩
 ·exact ob [7] [] rfl rfl fun D ρ w hs=>Qad (V:=.bool ((QaF o)&&(!(l.any fun x=>Qay x o)))) rfl ⟨rfl,hs⟩
 rintro ρ1 w5 ρ2 hρ hs
 replace hρ:ρ2=upd (mix [5,6,7,8,9,10,11,12,4] ρ1 _) 4 (.bool ((QaF o)&&(!(l.any fun x=>Qay x o)))):=hρ
 subst hρ
 refine Qas ?_
 refine ⟨_,Qao (V:=.bool ((QaF o)&&(!(l.any fun x=>Qay x o)))) Tryz.results59 rfl,?_⟩
 refine ⟨congrArg Ending.returned ?_,hs.take 0⟩
 rfl
end Tt
end Go.Proofs
namespace Go.Proofs
open Go Go.Vx Go.RowKit
namespace Tt
theorem QoD (w:World) (t:Tal) (o:Opn) (ht:Qca t.set.ctx) (hO:QbH o):Calls Tryz.prog 60 #[.agg (talc t).toArray,.agg (oc o).toArray] w (fun e w'=>e = .returned (tv (Qcz t o))∧Own w no w' []):=by
 refine Qai (n:=30) Tryz.func60 rfl Tryz.ntmps60 rfl ?_
 have hs:=Own.start w
 have ⟨_,_,_,_,⟨hq1,hq2⟩,_,ho⟩:=hO
 refine Qag (Qab (Qaa (Qa9 (V:=.agg (talc t).toArray) (cs:=talc t) rfl rfl hs fun b1 w2 hs=>(Qaa (Qa9 (V:=.agg (oc o).toArray) (cs:=oc o) rfl rfl hs fun b3 w4 hs=>(Qaa (QaJ (cs:=talc (⟨0,(⟨(⟨0,0⟩:Dot),0,0,0,0,0,vzero⟩:Opn),false⟩:Tal)) QjO rfl hs fun b5 w6 hs=>(Qae (Qag (Qak (Qag (Qab (Qaa (Qaf Qbt rfl (Qaa (QaK (V:=.int .u8 o.kind) QcF hs 1 rfl rfl rfl (Qaa (QaM rfl rfl (Qaa (Qad (V:=.bool (decide (o.kind=1))) rfl (Qae (Qal (t:=decide (o.kind=1)) rfl (fun c7=>?_) (fun c7=>?_)))))))))))))))))))))))
 ·
  replace c7:=QQ1 c7
  refine Qab (Qaa (Qaf Qg3 rfl (Qaa (QaK (V:=.int .u32 t.sum) Qa7 hs 0 rfl rfl rfl (Qaa (Qaf Qcu rfl (Qaa (QaK (V:=I7 o.qty) Qap hs 1 rfl rfl rfl (Qaa (QbD Qf4 Qh9 rfl (QeO (by omega) (by omega)) (Qaa (Qav (a:=t.sum) (b:=o.qty) (c:=(t.sum+o.qty)%4294967296) rfl rfl (QgP _) (Qaa (Qaf Qg3 rfl (Qaa (Qdd (V:=.int .u32 ((t.sum+o.qty)%4294967296)) (cs':=talc (⟨(t.sum+o.qty)%4294967296,t.set,t.has⟩:Tal)) Qa7 hs 0 rfl rfl rfl rfl (QQ8 rfl) rfl fun w8 hs=>?_))))))))))))))))
  replace hs:Own w no w8 [blk b1 (talc (⟨(t.sum+o.qty)%4294967296,t.set,t.has⟩:Tal)) 111,blk b3 (oc o) 33,blk b5 (talc (⟨0,(⟨(⟨0,0⟩:Dot),0,0,0,0,0,vzero⟩:Opn),false⟩:Tal)) 111]:=hs
  refine Qae (Qag (Qab (Qaa (QaR (cs:=talc (⟨(t.sum+o.qty)%4294967296,t.set,t.has⟩:Tal)) Qen hs 0 rfl rfl rfl (Qaa (QcC (V:=.agg (talc (⟨(t.sum+o.qty)%4294967296,t.set,t.has⟩:Tal)).toArray) (vs:=talc (⟨(t.sum+o.qty)%4294967296,t.set,t.has⟩:Tal)) (cs':=talc (⟨(t.sum+o.qty)%4294967296,t.set,t.has⟩:Tal)) Qen.1 hs 2 rfl rfl rfl rfl rfl (QQ8 rfl) (QfI _) (Qaw rfl) fun w9 hs=>(Qae (Qas ?_))))))))
  refine ⟨_,Qcx (cs:=talc (⟨(t.sum+o.qty)%4294967296,t.set,t.has⟩:Tal)) Tryz.results60 Qen hs 2 rfl rfl rfl,?_⟩
  refine ⟨congrArg Ending.returned ?_,hs.take 0⟩
  unfold Qcz
  rw [if_pos c7];rfl
 ·
  replace c7:=QQ2 c7
  refine Qag (Qbi [some 17,some 18,some 19,some 20,some 21,some 22,some 23,some 24,some 25,some 16] [] [0,1,3,7,15,31,15,127,255,511] [pv (Pt b1 (0+24)),pv (.bool t.has),pv (.bool (!t.has)),pv (.bool (!t.has)),pg ((!t.has) == false) (Pt b1 (0+1)),pg ((!t.has) == false) (.agg (oc t.set).toArray),pg ((!t.has) == false) (.agg (oc o).toArray),pg ((!t.has) == false) (.bool (QcM t.set o)),pv (.bool ((!t.has)||(QcM t.set o))),pv (.bool ((!t.has)||(QcM t.set o)))] (fun _ _=>_) [9] (by kernel_rfl) hs ⟨?_,?_,?_,?_,?_,?_,?_,?_,?_,?_,trivial⟩ ?_)
  ·exact ob [] [] rfl rfl fun D ρ w hs=>Qaf Qjy rfl ⟨rfl,hs⟩
  ·exact ob [0] [] rfl rfl fun D ρ w hs=>QaK (V:=.bool t.has) QmZ hs 0 rfl rfl rfl ⟨rfl,hs⟩
  ·exact ob [1] [] rfl rfl fun D ρ w hs=>Qbw rfl ⟨rfl,hs⟩
  ·exact ob [2] [] rfl rfl fun D ρ w hs=>Qac (V:=.bool (!t.has)) rfl ⟨rfl,hs⟩
  ·exact obg [3] [] (!t.has) rfl (fun _=>rfl) rfl (fun _ _ _ _ h=>h) fun D ρ w hG hs=>Qaf Qhe rfl ⟨rfl,hs⟩
  ·exact obgy [3,4] [] [4] (!t.has) rfl (fun _=>rfl) rfl (fun _ _ _ _ h=>h) (fun hG=>⟨hG,trivial⟩) fun D ρ w hG hs=>QbO (vs:=oc t.set) Qa0 hs 0 rfl rfl rfl rfl ⟨rfl,hs⟩
  ·exact obg [3] [] (!t.has) rfl (fun _=>rfl) rfl (fun _ _ _ _ h=>h) fun D ρ w hG hs=>QaR (cs:=oc o) Qa0 hs 1 rfl rfl rfl ⟨rfl,hs⟩
  ·exact obgy [3,5,6] [] [5,6] (!t.has) rfl (fun _=>rfl) rfl (fun _ _ _ _ h=>h) (fun hG=>⟨hG,hG,trivial⟩) fun D ρ w hG hs=>Qar (vs:=[.agg (oc t.set).toArray,.agg (oc o).toArray]) (V:=.bool (QcM t.set o)) Qus rfl rfl (QnX _ t.set o (by assumption) (by assumption)) hs fun _ hs=>⟨rfl,hs⟩
  ·exact ob [3,7] [] rfl rfl fun D ρ w hs=>QbS (h':=QcM t.set o) rfl rfl rfl ⟨rfl,hs⟩
  ·exact ob [8] [] rfl rfl fun D ρ w hs=>Qad (V:=.bool ((!t.has)||(QcM t.set o))) rfl ⟨rfl,hs⟩
  rintro ρ1 w11 ρ2 hρ hs
  replace hρ:ρ2=upd (mix [17,18,19,20,21,22,23,24,25,16] ρ1 _) 16 (.bool ((!t.has)||(QcM t.set o))):=hρ
  subst hρ
  refine Qal (t:=(!t.has)||(QcM t.set o)) rfl (fun c12=>?_) (fun c12=>?_)
  ·
   refine Qab (Qaa (QaR (cs:=oc o) Qa0 hs 1 rfl rfl rfl (Qaa (Qaf Qhe rfl (Qaa (QcC (V:=.agg (oc o).toArray) (vs:=oc o) (cs':=talc (⟨t.sum,o,t.has⟩:Tal)) Qa0.1 hs 0 rfl rfl rfl rfl rfl (QQ8 rfl) (Qfs _) (QoG _ _) fun w13 hs=>?_))))))
   replace hs:Own w no w13 [blk b1 (talc (⟨t.sum,o,t.has⟩:Tal)) 111,blk b3 (oc o) 33,blk b5 (talc (⟨0,(⟨(⟨0,0⟩:Dot),0,0,0,0,0,vzero⟩:Opn),false⟩:Tal)) 111]:=hs
   refine Qaa (Qaf Qjy rfl (Qaa (Qdd (V:=.bool true) (cs':=talc (⟨t.sum,o,true⟩:Tal)) QmZ hs 0 rfl rfl rfl rfl (QQ8 rfl) rfl fun w14 hs=>(Qae (Qag (Qab (Qaa (QaR (cs:=talc (⟨t.sum,o,true⟩:Tal)) Qen hs 0 rfl rfl rfl (Qaa (QcC (V:=.agg (talc (⟨t.sum,o,true⟩:Tal)).toArray) (vs:=talc (⟨t.sum,o,true⟩:Tal)) (cs':=talc (⟨t.sum,o,true⟩:Tal)) Qen.1 hs 2 rfl rfl rfl rfl rfl (QQ8 rfl) (QfI _) (Qaw rfl) fun w15 hs=>(Qae (Qas ?_))))))))))))
   refine ⟨_,Qcx (cs:=talc (⟨t.sum,o,true⟩:Tal)) Tryz.results60 Qen hs 2 rfl rfl rfl,?_⟩
   refine ⟨congrArg Ending.returned ?_,hs.take 0⟩
   unfold Qcz
   rw [if_neg c7,if_pos c12];rfl
  ·
   have c12r:=Qfo c12
   replace c12:=Qfl c12
   replace c12:=Qbr c12
   refine Qan (Qag (Qab (Qaa (QaR (cs:=talc t) Qen hs 0 rfl rfl rfl (Qaa (QcC (V:=.agg (talc t).toArray) (vs:=talc t) (cs':=talc t) Qen.1 hs 2 rfl rfl rfl rfl rfl (QQ8 rfl) (QfI _) (Qaw rfl) fun w16 hs=>?_))))))
   replace hs:Own w no w16 [blk b1 (talc t) 111,blk b3 (oc o) 33,blk b5 (talc t) 111]:=hs
   refine Qae (Qas ?_)
   refine ⟨_,Qcx (cs:=talc t) Tryz.results60 Qen hs 2 rfl rfl rfl,?_⟩
   refine ⟨congrArg Ending.returned ?_,hs.take 0⟩
   unfold Qcz
   rw [if_neg c7,if_neg (by rw [c12,c12r];decide)];rfl
end Tt
end Go.Proofs
namespace Go.Proofs
open Go Go.Vx Go.RowKit
namespace Tt
theorem Qln (w:World) (S:Nat→Prop) (bx r l:Nat) (lm:List (Int × Tal)) (R:List Value→Res) (ok:List Value→Value→Prop) (hok:∀ (pre:List Int) (k:Int),pre.length<lm.length→k∈lm.map (·.1)→ok (pre.map (Value.int .u16)) ((Value.int .u16) k)) (hy:Qhz Tryz.prog l R ok) (hR:(R []).holds w S) (hlt:∀ x,S x→x<w.heap.size) (hSb:¬S bx) (hSr:¬S r) (hc:QcL w bx [.map (some r)]) (hm:Qih w r (Value.int .u16) tv lm):Calls Tryz.prog 99 #[.func (.yield l) #[] #[],.pointer (some ⟨bx,0,none⟩)] w (fun e w'=>∃ v xs,e = .returned v∧xs.Perm ((lm.map (·.1)).map (Value.int .u16))∧Own w S w' [R xs]):=by
 refine Qai (n:=14) Tryz.func99 rfl Tryz.ntmps99 rfl ?_
 have hs:=Own.lent hR hlt
 obtain ⟨es,clock,hm0,hE⟩:=hm
 refine Qag (Qab (Qaa (QtP (V:=.map (some r)) QrQ (QcL.own hc hs hSb) rfl rfl ?_)))
 have hat:=hs.at hm0 hSr
 refine Qaa (QpS QiZ hat hs rfl fun it w1 hs=>(Qae (Qak (Qax (fun ρ μ ρ' w'=>∃ (ρo:Env) (pre:List Int) (seen:Array Nat),ρ'=mix [3,6,7,8,9,10,11,12,13] ρo ρ∧(((left es seen).map (·.key)++pre.map (Value.int .u16)).Perm ((lm.map (·.1)).map (Value.int .u16)))∧μ=(left es seen).length∧Own w S w' [R (pre.map (Value.int .u16)),Qkf it r clock seen]) ?_ ?_))))
 ·exact ⟨_,_,[],#[],Qam (ds:=[3,6,7,8,9,10,11,12,13]) (Agr.refl _ _),(by rw [Qmn,hE.keys];simp),rfl,hs⟩
 ·rintro μ ρ' w2 ⟨ρo,pre,seen,rfl,hp,rfl,hs⟩
  refine Qag (Qab (Qaa (QsJ (seen:=seen) (hs.at hm0 hSr) hE.old hs 1 rfl rfl (fun h0=>?_) (fun e3 ha w4 hs=>?_))))
  ·
   refine Qaa (QaB (V:=.bool false) rfl rfl (Qae (Qag (Qb3 rfl ?_))))
   refine Qaz ?_
   refine ⟨_,Qbo Tryz.results99,?_⟩
   rw [h0] at hp
   exact ⟨_,pre.map (Value.int .u16),rfl,hp,hs.only 0 rfl⟩
  ·
   obtain ⟨k,hk,hkey⟩:=Qnt hE (QjC ha)
   refine Qaa (QaB (V:=.bool true) rfl rfl (Qae (Qag (Qc6 rfl ?_))))
   refine Qan (Qak (Qag (Qab (Qaa (QnU (V:=(Value.int .u16) k) (hs.at hm0 hSr) hE.inc (QjC ha) hkey hs 1 rfl rfl (Qaa (QaB (V:=I7 k) rfl rfl (Qaa (Qad (V:=I7 k) rfl (Qae (Qag (Qab (Qaa (Qac (V:=.func (.yield l) #[] #[]) rfl (Qaa (Qac (V:=I7 k) rfl ?_))))))))))))))))
   have hst:=Ql4 hE ha hkey hp
   refine Qaa (Qnh (R:=R) (pre:=pre.map (Value.int .u16)) (v:=(Value.int .u16) k) hy rfl rfl (hok pre k hst.2.2 hk) hs 0 rfl fun w5 hs=>(Qaa (Qbw rfl (Qae (Qb3 rfl ?_)))))
   refine Qan ?_
   have e1:(pre++[k]).map (Value.int .u16)=pre.map (Value.int .u16)++[(Value.int .u16) k]:=by simp
   rw [← e1] at hs
   refine ⟨_,?_,_,pre++[k],seen.push e3.born,Qam (ds:=[3,6,7,8,9,10,11,12,13]) (by repeat (first|exact Agr.refl _ _|refine Agr.upd ?_ rfl|refine Agr.mix ?_ rfl)),hst.1,rfl,hs.take 2⟩
   exact hst.2.1
theorem Qop (w:World) (r:Nat):Calls Tryz.prog 62 #[.map (some r)] w (fun e w'=>∃ x:Nat,e = .returned (.func (.func 99) #[] #[.pointer (some ⟨x,0,none⟩)])∧Own w no w' [blk x [.map (some r)] 108]∧True):=by
 refine Qai (n:=4) Tryz.func62 rfl Tryz.ntmps62 rfl ?_
 have hs:=Own.start w
 refine Qag (Qab (Qaa (Qa9 (V:=.map (some r)) (cs:=[.map (some r)]) rfl rfl hs fun b1 w2 hs=>(Qaa (Qad (V:=.nilFunc) rfl (Qae (Qag (Qab (Qaa (Qe2 (cs:=[Pt b1 0]) rfl rfl (Qaa (Qad (V:=.func (.func 99) #[] #[Pt b1 0]) rfl (Qae (Qas ?_))))))))))))))
 refine ⟨_,Qao (V:=.func (.func 99) #[] #[Pt b1 0]) Tryz.results62 rfl,?_⟩
 exact ⟨b1,rfl,hs.only 0 rfl,trivial⟩
theorem Qsf {w:World} {bx r N:Nat} {lm:List (Int × Tal)} (hc:QcL w bx [.map (some r)]) (hm:Qih w r (Value.int .u16) tv lm) (hN:lm.length≤N) :
  Gives Tryz.prog 99 [.pointer (some ⟨bx,0,none⟩)] (okS (Value.int .u16) N) (fun xs=>xs.Perm ((lm.map (·.1)).map (Value.int .u16))) w:=by
 rintro l w1 R S ⟨L1,hs1⟩ hlt hS hR hy
 have hb:bx<w.heap.size:=World.block_lt_of_cell? _ _ (hc 0 _ rfl)
 have hr:r<w.heap.size:=by obtain ⟨es,clock,h,_⟩:=hm;exact (Array.getElem?_eq_some_iff.1 h).1
 exact Qln w1 S bx r l lm R (okS (Value.int .u16) N) (fun pre k hp _=>⟨⟨k,rfl⟩,by rw [QQ6];omega⟩) hy hR hlt (fun h=>hS _ h hb) (fun h=>hS _ h hr) (hc.own' hs1) (hm.own' hs1)
theorem QlJ (w:World) (f N:Nat) (caps:List Value) (hf:En Tryz.prog f) (hN:N*3≤140737488355328) (G:List Value→Prop) (hcall:Gives Tryz.prog f caps (okS (Value.int .u16) N) G w):Calls Tryz.prog 114 #[.slice none 0 0,.func (.func f) #[] caps.toArray] w (fun e w'=>∃ x:List Int × Option Addr × Nat,e = .returned (.slice x.2.1 x.1.length x.2.2)∧Own w no w' [row (.slice x.2.1 x.1.length x.2.2) (x.1.map (ic .u16)) 31 1]∧G (x.1.map (Value.int .u16))∧x.1.length≤N):=by
 refine QiO (n:=13) Tryz.func114 rfl Tryz.ntmps114 rfl ?_
 have hs:=Own.start w
 refine QmI (Qab (Qaa (Qa9 (V:=.slice none 0 0) (cs:=[.slice none 0 0]) rfl rfl hs fun b1 w2 hs=>(Qaa (Qad (V:=.slice none 0 0) rfl (Qae (Qqx (QmI (Qab (Qaa (Qac (V:=.func (.func f) #[] caps.toArray) rfl (Qae (Qom ?_)))))))))))))
 replace hs:=hs.more (row (.slice none 0 0) (List.map (ic .u16) []) 31 1) (QbF _ _ _ _)
 replace hs:=hs.join 0 1 (by decide) rfl rfl
 replace hs:=hs.conv 0 rfl (R':=QtM N b1 68 31 1 (ic .u16) (Value.int .u16) []) (fun S h=>⟨⟨([],none,0),rfl,Nat.zero_le _⟩,h⟩)
 refine QhS (caps:=caps) (ok:=okS (Value.int .u16) N) (G:=G) rfl rfl hf hs 0 (QtM N b1 68 31 1 (ic .u16) (Value.int .u16)) rfl ?_ hcall ?_
 ·rintro l fn dd pre x w2 S ⟨⟨d,rfl⟩,hpN⟩ hs
  refine Qab (Qaa (Qad (V:=I7 d) rfl (Qae ?_)))
  refine ⟨[],hs,?_⟩
  intro w3 hs
  obtain ⟨⟨⟨l0,a0,c0⟩,hx,hxN⟩,hs⟩:=hs.unpack 0 rfl
  replace hs:=hs.split 0 rfl
  dsimp only at hx
  have hlen:=congrArg List.length hx
  rw [QQ6] at hlen
  refine Qak (Qab (Qaa (QaK (V:=.slice a0 l0.length c0) Qp1 hs 0 rfl rfl rfl (Qaa (Qac (V:=I7 d) rfl (Qaa (QhD (vals:=[I7 d]) (ls:=List.map (ic .u16) ([d]:List Int)) QjY rfl rfl rfl (Qbl (enc:=(ic .u16)) (fun _=>rfl) _) (QaU (QeL .u16) _) (QQ8 rfl) hs fun b3 w4 hs=>(Qaa (Qdl (ls':=(l0++[d]).map (ic .u16)) (n:=(l0++[d]).length) QjY hs 2 rfl rfl rfl (hs.rd 3 rfl) (QaU (QeL .u16) _) (by simp only [QQ6,QQ7,List.length_cons,List.length_nil];omega) (by simp) (by simp) fun a5 c5 w6 hs=>(Qaa (Qdd (V:=.slice a5 ((l0++[d]).length) c5) (cs':=[.slice a5 ((l0++[d]).length) c5]) Qp1 hs 0 rfl rfl rfl rfl (QQ8 rfl) rfl fun w7 hs=>(Qae ?_))))))))))))
  replace hs:=hs.join 0 2 (by decide) rfl rfl
  replace hs:=hs.conv 0 rfl (R':=QtM N b1 68 31 1 (ic .u16) (Value.int .u16) (pre++[(Value.int .u16) d])) (fun S h=>⟨⟨(l0++[d],a5,c5),by rw [List.map_append,hx];rfl,by rw [QQ7];exact hpN⟩,h⟩)
  exact hs.take 2
 ·rintro xs dd w3 hG hs
  obtain ⟨⟨⟨l1,a1,c1⟩,hx,hxN⟩,hs⟩:=hs.unpack 0 rfl
  dsimp only at hx
  subst hx
  replace hs:=hs.split 0 rfl
  refine Qt0 (Qag (Qab (Qaa (QaK (V:=.slice a1 l1.length c1) Qp1 hs 0 rfl rfl rfl (Qaa (Qad (V:=.slice a1 l1.length c1) rfl (Qae (Qas (QmB (V:=.slice a1 l1.length c1) hs 2 rfl (fun w=>Qao (V:=.slice a1 l1.length c1) Tryz.results114 rfl) fun w hs=>?_)))))))))
  exact ⟨(l1,a1,c1),rfl,hs.only 3 rfl,hG,by simpa using hxN⟩
end Tt
end Go.Proofs
namespace Go.Proofs
open Go Go.Vx Go.RowKit
namespace Tt
theorem Qij (w:World) (f N:Nat) (caps:List Value) (hf:En Tryz.prog f) (hN:N*3≤140737488355328) (G:List Value→Prop) (hcall:Gives Tryz.prog f caps (okS (Value.int .u16) N) G w):Calls Tryz.prog 97 #[.func (.func f) #[] caps.toArray] w (fun e w'=>∃ x:List Int × Option Addr × Nat,e = .returned (.slice x.2.1 x.1.length x.2.2)∧Own w no w' [row (.slice x.2.1 x.1.length x.2.2) (x.1.map (ic .u16)) 31 1]∧G (x.1.map (Value.int .u16))∧x.1.length≤N):=by
 refine Qai (n:=5) Tryz.func97 rfl Tryz.ntmps97 rfl ?_
 have hs:=Own.start w
 refine Qag (Qab (Qaa (Qad (V:=.slice none 0 0) rfl (Qae (Qag (Qab (Qaa (Qac (V:=.func (.func f) #[] caps.toArray) rfl (Qaa (Qby (vs:=[.slice none 0 0,.func (.func f) #[] caps.toArray]) Qrd rfl rfl (QlJ _ f N caps hf hN G hcall) hs fun x1 w2 hs hF3=>(Qaa (Qad (V:=.slice x1.2.1 x1.1.length x1.2.2) rfl (Qae (Qas ?_))))))))))))))
 refine ⟨_,Qao (V:=.slice x1.2.1 x1.1.length x1.2.2) Tryz.results97 rfl,?_⟩
 exact ⟨(x1.1,x1.2.1,x1.2.2),rfl,hs.only 0 rfl,hF3⟩
theorem Qj2 (w:World) (f N:Nat) (caps:List Value) (hf:En Tryz.prog f) (hN:N*3≤140737488355328) (G:List Value→Prop) (hcall:Gives Tryz.prog f caps (okS (Value.int .u16) N) G w) (hsortU:Qmr Tryz.prog 98 .u16 31):Calls Tryz.prog 61 #[.func (.func f) #[] caps.toArray] w (fun e w'=>∃ x:List Int × Option Addr × Nat,e = .returned (.slice x.2.1 x.1.length x.2.2)∧Own w no w' [row (.slice x.2.1 x.1.length x.2.2) (x.1.map (ic .u16)) 31 1]∧∃ m,G (m.map (Value.int .u16))∧x.1=QbA m):=by
 refine Qai (n:=9) Tryz.func61 rfl Tryz.ntmps61 rfl ?_
 have hs:=Own.start w
 refine Qag (Qab (Qaa (Qad (V:=.slice none 0 0) rfl (Qae (Qag (Qab (Qaa (Qac (V:=.func (.func f) #[] caps.toArray) rfl (Qaa (Qby (vs:=[.func (.func f) #[] caps.toArray]) QtI rfl rfl (Qij _ f N caps hf hN G hcall) hs fun x1 w2 hs hF3=>(Qaa (Qad (V:=.slice x1.2.1 x1.1.length x1.2.2) rfl (Qae (Qag ?_))))))))))))))
 have hn:=hF3.2
 refine Qab (Qaa (Qac (V:=.slice x1.2.1 x1.1.length x1.2.2) rfl (Qaa (Qbn (vs:=[.slice x1.2.1 x1.1.length x1.2.2]) (V:=fun _:Unit=>.tuple #[]) (R:=row (.slice x1.2.1 x1.1.length x1.2.2) (x1.1.map (ic .u16)) 31 1) (R':=fun _=>row (.slice x1.2.1 x1.1.length x1.2.2) ((QbA x1.1).map (ic .u16)) 31 1) (Lo:=fun _=>[]) (F:=fun _ _=>True) Qtw rfl rfl hs 0 rfl (fun S hS hlt=>(hsortU _ S _ _ _ hS hlt (by omega)).mono fun e w' ⟨he,ho⟩=>⟨(),he,ho,trivial⟩) fun _ w4 hs _=>(Qae (Qag (Qab (Qaa (Qac (V:=.slice x1.2.1 x1.1.length x1.2.2) rfl (Qaa (Qad (V:=.slice x1.2.1 x1.1.length x1.2.2) rfl (Qae (Qas ?_)))))))))))))
 refine ⟨_,Qao (V:=.slice x1.2.1 x1.1.length x1.2.2) Tryz.results61 rfl,?_⟩
 have hl:x1.1.length=(QbA x1.1).length:=(Qic _).symm
 refine ⟨(QbA x1.1,x1.2.1,x1.2.2),by rw [hl],?_,⟨x1.1,hF3.1,rfl⟩⟩
 have ho:=hs.only 0 rfl
 rw [hl] at ho
 exact ho
end Tt
end Go.Proofs
namespace Go.Proofs
open Go Go.Vx Go.RowKit
namespace Tt
theorem QnD (w:World) (a:Option Addr) (c:Nat) (l:List Opn) (cart:Int) (hl:∀ o∈l,QbH o) (hlen:l.length≤1000) (hr:Rd w (.slice a l.length c) 23 (l.map oc)) (hsortU:Qmr Tryz.prog 98 .u16 31):Calls Tryz.prog 21 #[.slice a l.length c,.int .u16 cart] w (fun e w'=>∃ x:Option Addr × Nat,e = .returned (.agg [.int .u16 (Qa5 l cart).cart,.slice x.1 (Qa5 l cart).lines.length x.2,.bool (Qa5 l cart).out,.int .u32 (Qa5 l cart).tick].toArray)∧Own w no w' [row (.slice x.1 (Qa5 l cart).lines.length x.2) ((Qa5 l cart).lines.map lc) 74 2]∧True):=by
 refine Qai (n:=78) Tryz.func21 rfl Tryz.ntmps21 rfl ?_
 have hs:=Own.start w
 have hn:=hr.sml
 refine Qag (Qab (Qaa (QaJ (cs:=[I7 0,.slice none 0 0,.bool false,.int .u32 0]) Qik rfl hs fun b1 w2 hs=>(Qae (Qag (Qab (Qaa (Qac (V:=I7 cart) rfl (Qaa (Qcy (vs:=[(0,I7 cart)]) (cs:=[I7 cart,.slice none 0 0,.bool false,.int .u32 0]) QqD (rfl) rfl (Qaa (QaJ (cs:=[I7 0,.slice none 0 0,.bool false,.int .u32 0]) Qik rfl hs fun b3 w4 hs=>(Qaa (QcC (V:=.agg #[I7 cart,.slice none 0 0,.bool false,.int .u32 0]) (vs:=[I7 cart,.slice none 0 0,.bool false,.int .u32 0]) (cs':=[I7 cart,.slice none 0 0,.bool false,.int .u32 0]) Qeh.1 hs 1 rfl rfl rfl rfl rfl (QQ8 rfl) (Qau rfl (Qau rfl (Qau rfl (Qau rfl Qbu)))) (Qaw rfl) fun w5 hs=>(Qae (Qag (Qab (Qaa (QfS rfl hs (Value.int .u16) tv fun mr6 w7 hs=>?_)))))))))))))))))))
 replace hs:Own w no w7 [blk b1 [I7 0,.slice none 0 0,.bool false,.int .u32 0] 64,blk b3 [I7 cart,.slice none 0 0,.bool false,.int .u32 0] 64,Qde mr6 (Value.int .u16) tv []]:=hs
 refine Qaa (Qad (V:=.map (some mr6)) rfl (Qae (Qag (Qag (Qab (Qaa (Qac (V:=.slice a l.length c) rfl (Qaa (QaX (n:=l.length) Qbv (Rd.own' hr hs) (by simp) rfl (Qaa (Qac (V:=I6 0) rfl (Qae (Qak (Qax (fun ρ μ ρ' w'=>∃ (ρo:Env) (k:Nat) (s:VSt),ρ'=upd (mix [8,17,18,19,20,21,22,23,24,25,26,27,28,29,30,31,32,33,34,35,36,37,38,39,40,41,42,43,44,45,46,47,48,49,50] ρo ρ) 17 (I6 (k:Int))∧(k≤l.length)∧(s=vst l cart k)∧μ=l.length-k∧Own w no w' [blk b1 [I7 0,.slice none 0 0,.bool false,.int .u32 0] 64,blk b3 [I7 cart,.slice none 0 0,.bool s.out,.int .u32 s.tick] 64,Qde mr6 (Value.int .u16) tv s.items]) ?_ ?_))))))))))))))
 ·exact ⟨_,_,0,⟨0,false,[]⟩,Qah (Qam (ds:=[8,17,18,19,20,21,22,23,24,25,26,27,28,29,30,31,32,33,34,35,36,37,38,39,40,41,42,43,44,45,46,47,48,49,50]) (Agr.refl _ _)) rfl,(by omega),rfl,rfl,hs⟩
 ·rintro μ ρ' w8 ⟨ρo,k,s,rfl,hk,hs1,rfl,hs⟩
  refine Qag (Qab (Qaa (QaP rfl rfl (Qae (Qag (Qal (t:=decide ((k:Int)<((l.length:Nat):Int))) rfl (fun c9=>?_) (fun c9=>?_)))))))
  ·
   replace c9:=QQ1 c9
   refine Qan (Qag (Qak (Qag (Qab (Qaa (Qat Qbv Qa0.1 (Rd.own' hr hs) rfl rfl (by omega) (by rw [QQ6];omega) (Qaa (QaZ (j:=0) (vs:=oc (gd l k)) k Qa0 (Rd.own' hr hs) (QaY (by omega)) rfl rfl rfl (by omega) (Qaa (QaJ (cs:=oc (⟨(⟨0,0⟩:Dot),0,0,0,0,0,vzero⟩:Opn)) Qj9 rfl hs fun b10 w11 hs=>(Qaa (QcC (V:=.agg (oc (gd l k)).toArray) (vs:=oc (gd l k)) (cs':=oc (gd l k)) Qa0.1 hs 3 rfl rfl rfl rfl rfl (QQ8 rfl) (Qfs _) (Qaw rfl) fun w12 hs=>(Qae (Qag (Qag ?_)))))))))))))))
   have hok:=hl _ (Qbq (l:=l) (i:=k) (by omega))
   have hdk:=hok.1
   refine Qab (Qaa (Qaf QcS rfl (Qaa (QaK (V:=I7 ((gd l k).cart)) Qap hs 3 rfl rfl rfl (Qaa (Qac (V:=I7 cart) rfl (Qaa (Qcr rfl rfl (Qae (Qal (t:=!decide ((gd l k).cart=cart)) rfl (fun c13=>?_) (fun c13=>?_)))))))))))
   ·
    replace c13:=QbL c13
    replace c13:=QQ2 c13
    refine Qaz (Qab (Qaa (Qav (a:=(k:Int)) (b:=1) (c:=(k:Int)+1) rfl rfl (Qbh (by omega) (by omega)) (Qaa (Qac (V:=I6 ((k:Int)+1)) rfl (Qae ?_))))))
    refine ⟨_,?_,_,k+1,s,Qah (Qam (ds:=[8,17,18,19,20,21,22,23,24,25,26,27,28,29,30,31,32,33,34,35,36,37,38,39,40,41,42,43,44,45,46,47,48,49,50]) (by repeat (first|exact Agr.refl _ _|refine Agr.upd ?_ rfl|refine Agr.mix ?_ rfl))) rfl,(by omega),(Qpo hs1 (by omega) c13),rfl,hs.take 3⟩
    omega
   ·
    replace c13:=Qbr c13
    replace c13:=QQ1 c13
    refine Qan (Qag (Qab (Qaa (Qaf Qey rfl (Qaa (QaK (V:=.int .u32 s.tick) Qa7 hs 1 rfl rfl rfl (Qaa (Qaf Qf0 rfl (Qaa (QaK (V:=.int .u32 ((gd l k).tick)) Qa7 hs 3 rfl rfl rfl (Qaa (Qou rfl rfl (Qaa (Qaf Qey rfl (Qaa (Qdd (V:=.int .u32 (max s.tick ((gd l k).tick))) (cs':=[I7 cart,.slice none 0 0,.bool s.out,.int .u32 (max s.tick ((gd l k).tick))]) Qa7 hs 1 rfl rfl rfl rfl (QQ8 rfl) rfl fun w14 hs=>(Qae (Qak (Qag (Qab (Qaa (Qac (V:=.slice a l.length c) rfl (Qaa (QaR (cs:=oc (gd l k)) Qa0 hs 3 rfl rfl rfl (Qaa (Qar (vs:=[.slice a l.length c,.agg (oc (gd l k)).toArray]) (V:=.bool (QaG l (gd l k))) QtT rfl rfl ?hc hs fun w15 hs=>?_))))))))))))))))))))))))))
    case hc=>exact (Qnm _ a c l (gd l k) hdk (Rd.own' hr hs))
    refine Qaa (Qbw rfl (Qaa (Qad (V:=.bool (!(QaG l (gd l k)))) rfl (Qae (Qal (t:=!(QaG l (gd l k))) rfl (fun c16=>?_) (fun c16=>?_))))))
    ·
     replace c16:=QbL c16
     refine Qan (Qab (Qaa (Qav (a:=(k:Int)) (b:=1) (c:=(k:Int)+1) rfl rfl (Qbh (by omega) (by omega)) (Qaa (Qac (V:=I6 ((k:Int)+1)) rfl (Qae ?_))))))
     refine ⟨_,?_,_,k+1,(⟨max s.tick ((gd l k).tick),s.out,s.items⟩:VSt),Qah (Qam (ds:=[8,17,18,19,20,21,22,23,24,25,26,27,28,29,30,31,32,33,34,35,36,37,38,39,40,41,42,43,44,45,46,47,48,49,50]) (by repeat (first|exact Agr.refl _ _|refine Agr.upd ?_ rfl|refine Agr.mix ?_ rfl))) rfl,(by omega),(Qqw hs1 (by omega) c13 c16),rfl,hs.take 3⟩
     omega
    ·
     replace c16:=Qbr c16
     refine Qag (Qab (Qaa (Qaf Qbt rfl (Qaa (QaK (V:=.int .u8 ((gd l k).kind)) QcF hs 3 rfl rfl rfl (Qaa (QaM rfl rfl (Qaa (Qad (V:=.bool (decide ((gd l k).kind=4))) rfl (Qae (Qal (t:=decide ((gd l k).kind=4)) rfl (fun c17=>?_) (fun c17=>?_))))))))))))
     ·
      replace c17:=QQ1 c17
      refine Qab (Qaa (Qaf QeZ rfl (Qaa (Qdd (V:=.bool true) (cs':=[I7 cart,.slice none 0 0,.bool true,.int .u32 (max s.tick ((gd l k).tick))]) QmZ hs 1 rfl rfl rfl rfl (QQ8 rfl) rfl fun w18 hs=>?_))))
      replace hs:Own w no w18 [blk b1 [I7 0,.slice none 0 0,.bool false,.int .u32 0] 64,blk b3 [I7 cart,.slice none 0 0,.bool true,.int .u32 (max s.tick ((gd l k).tick))] 64,Qde mr6 (Value.int .u16) tv s.items,blk b10 (oc (gd l k)) 33]:=hs
      refine Qae (Qab (Qaa (Qav (a:=(k:Int)) (b:=1) (c:=(k:Int)+1) rfl rfl (Qbh (by omega) (by omega)) (Qaa (Qac (V:=I6 ((k:Int)+1)) rfl (Qae ?_))))))
      refine ⟨_,?_,_,k+1,(⟨max s.tick ((gd l k).tick),true,s.items⟩:VSt),Qah (Qam (ds:=[8,17,18,19,20,21,22,23,24,25,26,27,28,29,30,31,32,33,34,35,36,37,38,39,40,41,42,43,44,45,46,47,48,49,50]) (by repeat (first|exact Agr.refl _ _|refine Agr.upd ?_ rfl|refine Agr.mix ?_ rfl))) rfl,(by omega),(Qsy hs1 (by omega) c13 c16 c17),rfl,hs.take 3⟩
      omega
     ·
      replace c17:=QQ2 c17
      have hctx:Qca ((mget (gd l k).item s.items).getD tz).set.ctx:=by rw [hs1];exact QlM hl k (by omega) _
      refine QaC HM [some 31,some 32,some 33,some 34,some 35,some 36,some 37,some 38,some 39,none] [] [0,0,2,0,0,16,56,0,248,511] [pv (.map (some mr6)),pv (Pt b10 (0+4)),pv (I7 ((gd l k).item)),pv (.map (some mr6)),pv (Pt b10 (0+4)),pv (I7 ((gd l k).item)),pv (.agg (talc ((mget ((gd l k).item) s.items).getD tz)).toArray),pv (.agg (oc (gd l k)).toArray),pv (.agg (talc (Qcz ((mget ((gd l k).item) s.items).getD tz) (gd l k))).toArray),pn] (fun D ρ=>[blk b1 [I7 0,.slice none 0 0,.bool false,.int .u32 0] 64,blk b3 [I7 cart,.slice none 0 0,.bool s.out,.int .u32 (max s.tick ((gd l k).tick))] 64,cond (D 9) (Qde mr6 (Value.int .u16) tv (mput ((gd l k).item) (Qcz ((mget ((gd l k).item) s.items).getD tz) (gd l k)) s.items)) (Qde mr6 (Value.int .u16) tv s.items),blk b10 (oc (gd l k)) 33]) [] (by kernel_rfl) hs ⟨?_,?_,?_,?_,?_,?_,?_,?_,?_,?_,trivial⟩ ?_
      ·exact ob [] [] rfl rfl fun D ρ w hs=>Qac (V:=.map (some mr6)) rfl ⟨rfl,hs⟩
      ·exact ob [] [] rfl rfl fun D ρ w hs=>Qaf Qcc rfl ⟨rfl,hs⟩
      ·exact ob [1] [] rfl rfl fun D ρ w hs=>QaK (V:=I7 ((gd l k).item)) Qap hs 3 rfl rfl rfl ⟨rfl,hs⟩
      ·exact ob [] [] rfl rfl fun D ρ w hs=>Qac (V:=.map (some mr6)) rfl ⟨rfl,hs⟩
      ·exact ob [] [] rfl rfl fun D ρ w hs=>Qaf Qcc rfl ⟨rfl,hs⟩
      ·exact ob [4] [] rfl rfl fun D ρ w hs=>QaK (V:=I7 ((gd l k).item)) Qap hs 3 rfl rfl rfl ⟨rfl,hs⟩
      ·exact ob [3,5] [9] rfl rfl fun D ρ w hs=>QhC (k:=(gd l k).item) (z:=tz) QiZ Qqj QjO (hs.mapf 2 rfl) rfl rfl ⟨rfl,hs⟩
      ·exact ob [] [] rfl rfl fun D ρ w hs=>QaR (cs:=oc (gd l k)) Qa0 hs 3 rfl rfl rfl ⟨rfl,hs⟩
      ·exact ob [6,7] [] rfl rfl fun D ρ w hs=>Qar (vs:=[.agg (talc ((mget ((gd l k).item) s.items).getD tz)).toArray,.agg (oc (gd l k)).toArray]) (V:=.agg (talc (Qcz ((mget ((gd l k).item) s.items).getD tz) (gd l k))).toArray) Qur rfl rfl (QoD _ ((mget ((gd l k).item) s.items).getD tz) (gd l k) (by assumption) (by assumption)) hs fun _ hs=>⟨rfl,hs⟩
      ·exact ob [0,2,8] [] rfl rfl fun D ρ w hs=>QgW (k:=(gd l k).item) (v:=Qcz ((mget ((gd l k).item) s.items).getD tz) (gd l k)) QiZ Qqj hs 2 rfl rfl rfl rfl fun _ hs=>⟨trivial,hs⟩
      rintro ρ1 w21 ρ2 hρ hs
      replace hρ:ρ2=mix [31,32,33,34,35,36,37,38,39] ρ1 _:=hρ
      replace hs:Own w no w21 [blk b1 [I7 0,.slice none 0 0,.bool false,.int .u32 0] 64,blk b3 [I7 cart,.slice none 0 0,.bool s.out,.int .u32 (max s.tick ((gd l k).tick))] 64,Qde mr6 (Value.int .u16) tv (mput ((gd l k).item) (Qcz ((mget ((gd l k).item) s.items).getD tz) (gd l k)) s.items),blk b10 (oc (gd l k)) 33]:=hs
      subst hρ
      refine Qab (Qaa (Qav (a:=(k:Int)) (b:=1) (c:=(k:Int)+1) rfl rfl (Qbh (by omega) (by omega)) (Qaa (Qac (V:=I6 ((k:Int)+1)) rfl (Qae ?_)))))
      refine ⟨_,?_,_,k+1,(⟨max s.tick ((gd l k).tick),s.out,mput ((gd l k).item) (Qcz ((mget ((gd l k).item) s.items).getD tz) (gd l k)) s.items⟩:VSt),Qah (Qam (ds:=[8,17,18,19,20,21,22,23,24,25,26,27,28,29,30,31,32,33,34,35,36,37,38,39,40,41,42,43,44,45,46,47,48,49,50]) (by repeat (first|exact Agr.refl _ _|refine Agr.upd ?_ rfl|refine Agr.mix ?_ rfl))) rfl,(by omega),(QqU hs1 (by omega) c13 c16 c17),rfl,hs.take 3⟩
      omega
  ·
   replace c9:=QQ2 c9
   refine Qaz (Qag (Qag ?_))
   have hitl:s.items.length≤1000:=by rw [hs1];exact Nat.le_trans (Qhu k hk) (by omega)
   refine Qab (Qaa (Qac (V:=.map (some mr6)) rfl (Qaa (Qby (vs:=[.map (some mr6)]) (V:=fun x:Nat=>.func (.func 99) #[] #[Pt x 0]) Qut rfl rfl (Qop _ mr6) hs fun x22 w23 hs _=>(Qaa (Qby (vs:=[.func (.func 99) #[] #[Pt x22 0]]) (V:=fun x:Option Addr × Nat=>.slice x.1 (QbA (s.items.map (·.1))).length x.2) (Lo:=fun x=>[row (.slice x.1 (QbA (s.items.map (·.1))).length x.2) ((QbA (s.items.map (·.1))).map (ic .u16)) 31 1]) (F:=fun _ _=>True) Qto rfl rfl ?hc hs fun x24 w25 hs hF26=>?_))))))
   case hc=>exact ((Qj2 _ 99 1000000 [.pointer (some ⟨x22,0,none⟩)] Qug (by decide) (fun xs=>xs.Perm ((s.items.map (·.1)).map (Value.int .u16))) (Qsf (hs.cellsf 3 rfl) (hs.mapf 2 rfl) (by omega)) hsortU).mono fun e w' ⟨y,he,ho,m0,hm0,hy⟩=>by
   have hy2:y.1=QbA (s.items.map (·.1)):=by rw [hy];exact QmJ hm0
   rw [hy2] at he ho
   exact ⟨(y.2.1,y.2.2),he,ho,trivial⟩)
   refine Qaa (QaX (n:=(QbA (s.items.map (·.1))).length) QaI (hs.rd 4 rfl) (by simp) rfl (Qaa (Qac (V:=I6 0) rfl (Qae (Qak ?_)))))
   replace hs:=hs.more (row (.slice none 0 0) (List.map lc []) 74 2) (QbF _ _ _ _)
   have hksl:(QbA (s.items.map (·.1))).length≤1000:=by rw [Qic,QQ6];omega
   refine Qax (fun ρ μ ρ' w'=>∃ (ρo:Env) (i2:Nat) (a1:Option Addr) (c1:Nat) (out:List Line),ρ'=upd (mix [10,11,55,56,57,58,59,60,61,62,63,64,65,66,67,68,69,70,71,72,73,74,75,76] ρo ρ) 55 (I6 (i2:Int))∧(i2≤(QbA (s.items.map (·.1))).length)∧(out.length≤i2)∧(out=((QbA (s.items.map (·.1))).take i2).map (Qho s.items))∧μ=(QbA (s.items.map (·.1))).length-i2∧Own w no w' [blk b1 [I7 0,.slice none 0 0,.bool false,.int .u32 0] 64,blk b3 [I7 cart,.slice a1 out.length c1,.bool s.out,.int .u32 s.tick] 64,Qde mr6 (Value.int .u16) tv s.items,blk x22 [.map (some mr6)] 108,row (.slice x24.1 ((QbA (s.items.map (·.1))).length) x24.2) ((QbA (s.items.map (·.1))).map (ic .u16)) 31 1,row (.slice a1 out.length c1) (out.map lc) 74 2]) ?_ ?_
   ·exact ⟨_,_,0,none,0,[],Qah (Qam (ds:=[10,11,55,56,57,58,59,60,61,62,63,64,65,66,67,68,69,70,71,72,73,74,75,76]) (Agr.refl _ _)) rfl,(by omega),(Nat.le_refl _),rfl,rfl,hs⟩
   ·rintro μ ρ' w27 ⟨ρo,i2,a1,c1,out,rfl,hi2,hol,hout,rfl,hs⟩
    refine Qag (Qab (Qaa (QaP rfl rfl (Qae (Qag (Qal (t:=decide ((i2:Int)<(((QbA (s.items.map (·.1))).length:Nat):Int))) rfl (fun c28=>?_) (fun c28=>?_)))))))
    ·
     replace c28:=QQ1 c28
     refine Qan (Qag (Qak (Qag (Qab (Qaa (Qat QaI Qap.1 (hs.rd 4 rfl) rfl rfl (by omega) (by rw [QQ6];omega) (Qaa (QaQ (j:=0) (V:=I7 (gd (QbA (s.items.map (·.1))) i2)) i2 Qap (hs.rd 4 rfl) (QaY (by omega)) rfl rfl (by omega) (Qaa (Qad (V:=I7 (gd (QbA (s.items.map (·.1))) i2)) rfl (Qae (Qag ?_))))))))))))
     obtain ⟨tt,htt⟩:∃ t,(mget (gd (QbA (s.items.map (·.1))) i2) s.items).getD tz=t:=⟨_,rfl⟩
     have ⟨hqa,hqb⟩:0≤tt.set.qty∧tt.set.qty<65536:=by rw [← htt,hs1];exact QmO hl k (by omega) _
     refine Qab (Qaa (Qac (V:=.map (some mr6)) rfl (Qaa (Qac (V:=I7 (gd (QbA (s.items.map (·.1))) i2)) rfl (Qaa (Qbb (V:=.agg (talc ((mget (gd (QbA (s.items.map (·.1))) i2) s.items).getD tz)).toArray) (V':=.agg (talc tt).toArray) (QhC (k:=gd (QbA (s.items.map (·.1))) i2) (z:=tz) QiZ Qqj QjO (hs.mapf 2 rfl) rfl rfl ⟨rfl,rfl⟩) (by rw [htt]) (Qaa (QaJ (cs:=talc (⟨0,(⟨(⟨0,0⟩:Dot),0,0,0,0,0,vzero⟩:Opn),false⟩:Tal)) QjO rfl hs fun b29 w30 hs=>(Qaa (QcC (V:=.agg (talc tt).toArray) (vs:=talc tt) (cs':=talc tt) Qen.1 hs 6 rfl rfl rfl rfl rfl (QQ8 rfl) (QfI _) (Qaw rfl) fun w31 hs=>?_))))))))))
     replace hs:Own w no w31 [blk b1 [I7 0,.slice none 0 0,.bool false,.int .u32 0] 64,blk b3 [I7 cart,.slice a1 out.length c1,.bool s.out,.int .u32 s.tick] 64,Qde mr6 (Value.int .u16) tv s.items,blk x22 [.map (some mr6)] 108,row (.slice x24.1 ((QbA (s.items.map (·.1))).length) x24.2) ((QbA (s.items.map (·.1))).map (ic .u16)) 31 1,row (.slice a1 out.length c1) (out.map lc) 74 2,blk b29 (talc tt) 111]:=hs
     refine Qae (Qab (Qaa (Qaf QcR rfl (Qaa (QaK (V:=.slice a1 out.length c1) Qft hs 1 rfl rfl rfl (Qaa (Qac (V:=I7 (gd (QbA (s.items.map (·.1))) i2)) rfl (Qaa (Qaf Qg3 rfl (Qaa (QaK (V:=.int .u32 tt.sum) Qa7 hs 6 rfl rfl rfl (Qaa (Qaf Qhe rfl (Qaa (Qaf Qcu rfl (Qaa (QaK (V:=I7 tt.set.qty) Qap hs 6 rfl rfl rfl (Qaa (QbD Qf4 Qh9 rfl (QeO (by omega) (by omega)) (Qaa (Qav (a:=tt.sum) (b:=tt.set.qty) (c:=(tt.sum+tt.set.qty)%4294967296) rfl rfl (QgP _) (Qaa (Qcy (vs:=[(0,I7 (gd (QbA (s.items.map (·.1))) i2)),(1,.int .u32 ((tt.sum+tt.set.qty)%4294967296))]) (cs:=lc (⟨gd (QbA (s.items.map (·.1))) i2,(tt.sum+tt.set.qty)%4294967296⟩:Line)) QpG (rfl) rfl (Qaa (QhD (vals:=[.agg (lc (⟨gd (QbA (s.items.map (·.1))) i2,(tt.sum+tt.set.qty)%4294967296⟩:Line)).toArray]) (ls:=List.map lc ([(⟨gd (QbA (s.items.map (·.1))) i2,(tt.sum+tt.set.qty)%4294967296⟩:Line)]:List Line)) Qks rfl rfl rfl (Qbl (enc:=lc) (fun _=>rfl) _) (QaU QfV _) (QQ8 rfl) hs fun b32 w33 hs=>(Qaa (Qdl (ls':=(out++[(⟨gd (QbA (s.items.map (·.1))) i2,(tt.sum+tt.set.qty)%4294967296⟩:Line)]).map lc) (n:=(out++[(⟨gd (QbA (s.items.map (·.1))) i2,(tt.sum+tt.set.qty)%4294967296⟩:Line)]).length) Qks hs 5 rfl rfl rfl (hs.rd 7 rfl) (QaU QfV _) (by simp only [QQ6,QQ7,List.length_cons,List.length_nil];omega) (by simp) (by simp) fun a34 c34 w35 hs=>(Qaa (Qaf QcR rfl (Qaa (Qdd (V:=.slice a34 ((out++[(⟨gd (QbA (s.items.map (·.1))) i2,(tt.sum+tt.set.qty)%4294967296⟩:Line)]).length) c34) (cs':=[I7 cart,.slice a34 ((out++[(⟨gd (QbA (s.items.map (·.1))) i2,(tt.sum+tt.set.qty)%4294967296⟩:Line)]).length) c34,.bool s.out,.int .u32 s.tick]) Qft hs 1 rfl rfl rfl rfl (QQ8 rfl) rfl fun w36 hs=>(Qae (Qab (Qaa (Qav (a:=(i2:Int)) (b:=1) (c:=(i2:Int)+1) rfl rfl (Qbh (by omega) (by omega)) (Qaa (Qac (V:=I6 ((i2:Int)+1)) rfl (Qae ?_))))))))))))))))))))))))))))))))))))))
     refine ⟨_,?_,_,i2+1,a34,c34,out++[(⟨gd (QbA (s.items.map (·.1))) i2,(tt.sum+tt.set.qty)%4294967296⟩:Line)],Qah (Qam (ds:=[10,11,55,56,57,58,59,60,61,62,63,64,65,66,67,68,69,70,71,72,73,74,75,76]) (by repeat (first|exact Agr.refl _ _|refine Agr.upd ?_ rfl|refine Agr.mix ?_ rfl))) rfl,(by omega),(by simp only [QQ7,List.length_cons,List.length_nil];omega),(by rw [show (⟨gd (QbA (s.items.map (·.1))) i2,(tt.sum+tt.set.qty)%4294967296⟩:Line)=Qho s.items (gd (QbA (s.items.map (·.1))) i2) by unfold Qho QrZ;rw [htt]];exact Qhk (f:=Qho s.items) hout (by omega)),rfl,hs.take 6⟩
     omega
    ·
     replace c28:=QQ2 c28
     refine Qaz (Qag (Qab (Qaa (QaR (cs:=[I7 cart,.slice a1 out.length c1,.bool s.out,.int .u32 s.tick]) Qeh hs 1 rfl rfl rfl (Qaa (QcC (V:=.agg #[I7 cart,.slice a1 out.length c1,.bool s.out,.int .u32 s.tick]) (vs:=[I7 cart,.slice a1 out.length c1,.bool s.out,.int .u32 s.tick]) (cs':=[I7 cart,.slice a1 out.length c1,.bool s.out,.int .u32 s.tick]) Qeh.1 hs 0 rfl rfl rfl rfl rfl (QQ8 rfl) (Qau rfl (Qau rfl (Qau rfl (Qau rfl Qbu)))) (Qaw rfl) fun w37 hs=>(Qae (Qas ?_))))))))
     refine ⟨_,Qcx (cs:=[I7 cart,.slice a1 out.length c1,.bool s.out,.int .u32 s.tick]) Tryz.results21 Qeh hs 0 rfl rfl rfl,?_⟩
     have hV:Qa5 l cart=⟨cart,out,s.out,s.tick⟩:=by
      have hk9:k=l.length:=by omega
      unfold Qa5;dsimp only;rw [← hk9,← hs1,hout,Qb6 (by omega)]
     rw [hV]
     exact ⟨(a1,c1),rfl,hs.only 5 rfl,trivial⟩
end Tt
end Go.Proofs
namespace Go.Proofs
open Go Go.Vx Go.RowKit
namespace Tt
theorem QrC (w:World) (a b:Option Addr) (c e:Nat) (l l2:List Int) (hr:Rd w (.slice a l.length c) 1 (l.map (ic .u16))) (hq:Rd w (.slice b l2.length e) 1 (l2.map (ic .u16))):Calls Tryz.prog 23 #[.slice a l.length c,.slice b l2.length e] w (fun e w'=>e = .returned (.bool (decide (l=l2)))∧Own w no w' []):=by
 refine Qai (n:=26) Tryz.func23 rfl Tryz.ntmps23 rfl ?_
 have hs:=Own.start w
 have hn:=hr.sml
 refine Qag (Qab (Qaa (Qad (V:=.bool false) rfl (Qae (Qag (Qag (Qab (Qaa (Qac (V:=.slice a l.length c) rfl (Qaa (QaX (n:=l.length) QaI (Rd.own' hr hs) (by simp) rfl (Qaa (Qac (V:=.slice b l2.length e) rfl (Qaa (QaX (n:=l2.length) QaI (Rd.own' hq hs) (by simp) rfl (Qaa (Qcr rfl rfl (Qae (Qal (t:=!decide (((l.length:Nat):Int)=((l2.length:Nat):Int))) rfl (fun c1=>?_) (fun c1=>?_))))))))))))))))))))
 ·
  replace c1:=QbL c1
  replace c1:=QQ2 c1
  refine Qag (Qab (Qaa (Qad (V:=.bool false) rfl (Qae (Qas ?_)))))
  refine ⟨_,Qao (V:=.bool false) Tryz.results23 rfl,?_⟩
  refine ⟨congrArg Ending.returned ?_,hs.take 0⟩
  refine congrArg Value.bool (QQ4 fun e=>?_).symm
  subst e
  omega
 ·
  replace c1:=Qbr c1
  replace c1:=QQ1 c1
  refine Qan (Qag (Qag (Qab (Qaa (Qac (V:=.slice a l.length c) rfl (Qaa (QaX (n:=l.length) QaI (Rd.own' hr hs) (by simp) rfl (Qaa (Qac (V:=I6 0) rfl (Qae (Qak (Qax (fun ρ μ ρ' w'=>∃ (ρo:Env) (k:Nat),ρ'=upd (mix [4,5,13,14,15,16,17,18,19,20,21,22,23,24,25] ρo ρ) 13 (I6 (k:Int))∧(k≤l.length)∧(∀ j:Nat,j<k→gd l j=gd l2 j)∧μ=l.length-k∧Own w no w' []) ?_ ?_))))))))))))
  ·exact ⟨_,_,0,Qah (Qam (ds:=[4,5,13,14,15,16,17,18,19,20,21,22,23,24,25]) (Agr.refl _ _)) rfl,(by omega),(fun j hj=>absurd hj (Nat.not_lt_zero j)),rfl,hs⟩
  ·rintro μ ρ' w2 ⟨ρo,k,rfl,hk,heq,rfl,hs⟩
   refine Qag (Qab (Qaa (QaP rfl rfl (Qae (Qag (Qal (t:=decide ((k:Int)<((l.length:Nat):Int))) rfl (fun c3=>?_) (fun c3=>?_)))))))
   ·
    replace c3:=QQ1 c3
    refine Qan (Qag (Qak (Qag (Qab (Qaa (Qac (V:=I6 (k:Int)) rfl (Qaa (Qad (V:=I6 (k:Int)) rfl (Qae (Qag (QaC HM [some 16,some 17,some 18,some 19,some 20,some 21,some 22,some 23,some 24] [] [0,0,3,7,0,0,48,112,255] [pv (.slice a l.length c),pv (I6 (k:Int)),pv (.pointer (some ⟨bkS (.slice a l.length c),ofS (.slice a l.length c)+(k:Int).toNat*1,none⟩)),pv (I7 (gd l k)),pv (.slice b l2.length e),pv (I6 (k:Int)),pv (.pointer (some ⟨bkS (.slice b l2.length e),ofS (.slice b l2.length e)+(k:Int).toNat*1,none⟩)),pv (I7 (gd l2 k)),pv (.bool (!decide (gd l k=gd l2 k)))] (fun _ _=>_) [8] (by kernel_rfl) hs ⟨?_,?_,?_,?_,?_,?_,?_,?_,?_,trivial⟩ ?_)))))))))))
    ·exact ob [] [] rfl rfl fun D ρ w hs=>Qac (V:=.slice a l.length c) rfl ⟨rfl,hs⟩
    ·exact ob [] [] rfl rfl fun D ρ w hs=>Qac (V:=I6 (k:Int)) rfl ⟨rfl,hs⟩
    ·exact ob [0,1] [] rfl rfl fun D ρ w hs=>Qat QaI Qap.1 (Rd.own' hr hs) rfl rfl (by omega) (by rw [QQ6];omega) ⟨rfl,hs⟩
    ·exact ob [2] [] rfl rfl fun D ρ w hs=>QaQ (j:=0) (V:=I7 (gd l k)) k Qap (Rd.own' hr hs) (QaY (by omega)) rfl rfl (by omega) ⟨rfl,hs⟩
    ·exact ob [] [] rfl rfl fun D ρ w hs=>Qac (V:=.slice b l2.length e) rfl ⟨rfl,hs⟩
    ·exact ob [] [] rfl rfl fun D ρ w hs=>Qac (V:=I6 (k:Int)) rfl ⟨rfl,hs⟩
    ·exact ob [4,5] [] rfl rfl fun D ρ w hs=>Qat QaI Qap.1 (Rd.own' hq hs) rfl rfl (by omega) (by rw [QQ6];omega) ⟨rfl,hs⟩
    ·exact ob [6] [] rfl rfl fun D ρ w hs=>QaQ (j:=0) (V:=I7 (gd l2 k)) k Qap (Rd.own' hq hs) (QaY (by omega)) rfl rfl (by omega) ⟨rfl,hs⟩
    ·exact ob [3,7] [] rfl rfl fun D ρ w hs=>Qcr rfl rfl ⟨rfl,hs⟩
    rintro ρ1 w4 ρ2 hρ hs
    replace hρ:ρ2=upd (mix [16,17,18,19,20,21,22,23,24] ρ1 _) 24 (.bool (!decide (gd l k=gd l2 k))):=hρ
    subst hρ
    refine Qal (t:=!decide (gd l k=gd l2 k)) rfl (fun c5=>?_) (fun c5=>?_)
    ·
     replace c5:=QbL c5
     replace c5:=QQ2 c5
     refine Qag (Qab (Qaa (Qad (V:=.bool false) rfl (Qae (Qas ?_)))))
     refine ⟨_,Qao (V:=.bool false) Tryz.results23 rfl,?_⟩
     refine ⟨congrArg Ending.returned ?_,hs.take 0⟩
     refine congrArg Value.bool (QQ4 fun e=>?_).symm
     subst e
     exact c5 rfl
    ·
     replace c5:=Qbr c5
     replace c5:=QQ1 c5
     refine Qan (Qab (Qaa (Qav (a:=(k:Int)) (b:=1) (c:=(k:Int)+1) rfl rfl (Qbh (by omega) (by omega)) (Qaa (Qac (V:=I6 ((k:Int)+1)) rfl (Qae ?_))))))
     refine ⟨_,?_,_,k+1,Qah (Qam (ds:=[4,5,13,14,15,16,17,18,19,20,21,22,23,24,25]) (by repeat (first|exact Agr.refl _ _|refine Agr.upd ?_ rfl|refine Agr.mix ?_ rfl))) rfl,(by omega),(QjI heq c5),rfl,hs.take 0⟩
     omega
   ·
    replace c3:=QQ2 c3
    refine Qaz (Qag (Qab (Qaa (Qad (V:=.bool true) rfl (Qae (Qas ?_))))))
    refine ⟨_,Qao (V:=.bool true) Tryz.results23 rfl,?_⟩
    refine ⟨congrArg Ending.returned ?_,hs.take 0⟩
    exact congrArg Value.bool (QQ3 (Qhs (by omega) fun j hj=>heq j (by omega))).symm
theorem QjR (w:World) (cu cv tu tw:Int) (ou ov:Bool) (a b:Option Addr) (c e:Nat) (l l2:List Line) (hr:Rd w (.slice a l.length c) 2 (l.map lc)) (hq:Rd w (.slice b l2.length e) 2 (l2.map lc)):Calls Tryz.prog 19 #[.agg #[.int .u16 cu,.slice a l.length c,.bool ou,.int .u32 tu],.agg #[.int .u16 cv,.slice b l2.length e,.bool ov,.int .u32 tw]] w (fun e w'=>e = .returned (.bool (decide (cu=cv)&&(ou == ov)&&decide (tu=tw)&&decide (l=l2)))∧Own w no w' []):=by
 refine Qai (n:=52) Tryz.func19 rfl Tryz.ntmps19 rfl ?_
 have hs:=Own.start w
 have hn:=hr.sml
 refine Qag (Qab (Qaa (Qa9 (V:=.agg #[I7 cu,.slice a l.length c,.bool ou,.int .u32 tu]) (cs:=[I7 cu,.slice a l.length c,.bool ou,.int .u32 tu]) rfl rfl hs fun b1 w2 hs=>(Qaa (Qa9 (V:=.agg #[I7 cv,.slice b l2.length e,.bool ov,.int .u32 tw]) (cs:=[I7 cv,.slice b l2.length e,.bool ov,.int .u32 tw]) rfl rfl hs fun b3 w4 hs=>(Qaa (Qad (V:=.bool false) rfl (Qae (Qag (Qag (Qbi [some 6,some 7,some 8,some 9,some 10,some 11,some 12,some 13,some 14,some 15,some 16,some 17,some 18,some 19,some 20,some 21,some 22,some 23,some 24,some 25,some 26,some 27,some 28,some 29,some 30,some 31,some 32,some 33] [] [0,1,0,4,15,31,63,127,63,319,1023,2047,4095,8191,16383,8191,40959,131071,262143,524287,1048575,2097151,4194303,1048575,9437183,26214399,67108863,134217727] [pv (Pt b1 (0+0)),pv (I7 cu),pv (Pt b3 (0+0)),pv (I7 cv),pv (.bool (!decide (cu=cv))),pv (.bool (!decide (cu=cv))),pg ((!decide (cu=cv)) == false) (Pt b1 (0+2)),pg ((!decide (cu=cv)) == false) (.bool ou),pg ((!decide (cu=cv)) == false) (Pt b3 (0+2)),pg ((!decide (cu=cv)) == false) (.bool ov),pg ((!decide (cu=cv)) == false) (.bool (!(ou == ov))),pv (.bool ((!decide (cu=cv))||(!(ou == ov)))),pv (.bool ((!decide (cu=cv))||(!(ou == ov)))),pg (((!decide (cu=cv))||(!(ou == ov))) == false) (Pt b1 (0+3)),pg (((!decide (cu=cv))||(!(ou == ov))) == false) (.int .u32 tu),pg (((!decide (cu=cv))||(!(ou == ov))) == false) (Pt b3 (0+3)),pg (((!decide (cu=cv))||(!(ou == ov))) == false) (.int .u32 tw),pg (((!decide (cu=cv))||(!(ou == ov))) == false) (.bool (!decide (tu=tw))),pv (.bool (((!decide (cu=cv))||(!(ou == ov)))||(!decide (tu=tw)))),pv (.bool (((!decide (cu=cv))||(!(ou == ov)))||(!decide (tu=tw)))),pg ((((!decide (cu=cv))||(!(ou == ov)))||(!decide (tu=tw))) == false) (Pt b1 (0+1)),pg ((((!decide (cu=cv))||(!(ou == ov)))||(!decide (tu=tw))) == false) (.slice a l.length c),pg ((((!decide (cu=cv))||(!(ou == ov)))||(!decide (tu=tw))) == false) (I6 ((l.length:Nat):Int)),pg ((((!decide (cu=cv))||(!(ou == ov)))||(!decide (tu=tw))) == false) (Pt b3 (0+1)),pg ((((!decide (cu=cv))||(!(ou == ov)))||(!decide (tu=tw))) == false) (.slice b l2.length e),pg ((((!decide (cu=cv))||(!(ou == ov)))||(!decide (tu=tw))) == false) (I6 ((l2.length:Nat):Int)),pg ((((!decide (cu=cv))||(!(ou == ov)))||(!decide (tu=tw))) == false) (.bool (!decide (((l.length:Nat):Int)=((l2.length:Nat):Int)))),pv (.bool ((((!decide (cu=cv))||(!(ou == ov)))||(!decide (tu=tw)))||(!decide (((l.length:Nat):Int)=((l2.length:Nat):Int)))))] (fun _ _=>_) [27] (by kernel_rfl) hs ⟨?_,?_,?_,?_,?_,?_,?_,?_,?_,?_,?_,?_,?_,?_,?_,?_,?_,?_,?_,?_,?_,?_,?_,?_,?_,?_,?_,?_,trivial⟩ ?_)))))))))))
 ·exact ob [] [] rfl rfl fun D ρ w hs=>Qaf QkO rfl ⟨rfl,hs⟩
 ·exact ob [0] [] rfl rfl fun D ρ w hs=>QaK (V:=I7 cu) Qap hs 0 rfl rfl rfl ⟨rfl,hs⟩
 ·exact ob [] [] rfl rfl fun D ρ w hs=>Qaf QkO rfl ⟨rfl,hs⟩
 ·exact ob [2] [] rfl rfl fun D ρ w hs=>QaK (V:=I7 cv) Qap hs 1 rfl rfl rfl ⟨rfl,hs⟩
 ·exact ob [1,3] [] rfl rfl fun D ρ w hs=>Qcr rfl rfl ⟨rfl,hs⟩
 ·exact ob [4] [] rfl rfl fun D ρ w hs=>Qac (V:=.bool (!decide (cu=cv))) rfl ⟨rfl,hs⟩
 ·exact obg [5] [] (!decide (cu=cv)) rfl (fun _=>rfl) rfl (fun _ _ _ _ h=>h) fun D ρ w hG hs=>Qaf QeZ rfl ⟨rfl,hs⟩
 ·exact obgy [5,6] [] [6] (!decide (cu=cv)) rfl (fun _=>rfl) rfl (fun _ _ _ _ h=>h) (fun hG=>⟨hG,trivial⟩) fun D ρ w hG hs=>QaK (V:=.bool ou) QmZ hs 0 rfl rfl rfl ⟨rfl,hs⟩
 ·exact obg [5] [] (!decide (cu=cv)) rfl (fun _=>rfl) rfl (fun _ _ _ _ h=>h) fun D ρ w hG hs=>Qaf QeZ rfl ⟨rfl,hs⟩
 ·exact obgy [5,8] [] [8] (!decide (cu=cv)) rfl (fun _=>rfl) rfl (fun _ _ _ _ h=>h) (fun hG=>⟨hG,trivial⟩) fun D ρ w hG hs=>QaK (V:=.bool ov) QmZ hs 1 rfl rfl rfl ⟨rfl,hs⟩
 ·exact obgy [5,7,9] [] [7,9] (!decide (cu=cv)) rfl (fun _=>rfl) rfl (fun _ _ _ _ h=>h) (fun hG=>⟨hG,hG,trivial⟩) fun D ρ w hG hs=>Qtk QtQ rfl rfl ⟨rfl,hs⟩
 ·exact ob [5,10] [] rfl rfl fun D ρ w hs=>QbS (h':=!(ou == ov)) rfl rfl rfl ⟨rfl,hs⟩
 ·exact ob [11] [] rfl rfl fun D ρ w hs=>Qac (V:=.bool ((!decide (cu=cv))||(!(ou == ov)))) rfl ⟨rfl,hs⟩
 ·exact obg [12] [] ((!decide (cu=cv))||(!(ou == ov))) rfl (fun _=>rfl) rfl (fun _ _ _ _ h=>h) fun D ρ w hG hs=>Qaf Qey rfl ⟨rfl,hs⟩
 ·exact obgy [12,13] [] [13] ((!decide (cu=cv))||(!(ou == ov))) rfl (fun _=>rfl) rfl (fun _ _ _ _ h=>h) (fun hG=>⟨hG,trivial⟩) fun D ρ w hG hs=>QaK (V:=.int .u32 tu) Qa7 hs 0 rfl rfl rfl ⟨rfl,hs⟩
 ·exact obg [12] [] ((!decide (cu=cv))||(!(ou == ov))) rfl (fun _=>rfl) rfl (fun _ _ _ _ h=>h) fun D ρ w hG hs=>Qaf Qey rfl ⟨rfl,hs⟩
 ·exact obgy [12,15] [] [15] ((!decide (cu=cv))||(!(ou == ov))) rfl (fun _=>rfl) rfl (fun _ _ _ _ h=>h) (fun hG=>⟨hG,trivial⟩) fun D ρ w hG hs=>QaK (V:=.int .u32 tw) Qa7 hs 1 rfl rfl rfl ⟨rfl,hs⟩
 ·exact obgy [12,14,16] [] [14,16] ((!decide (cu=cv))||(!(ou == ov))) rfl (fun _=>rfl) rfl (fun _ _ _ _ h=>h) (fun hG=>⟨hG,hG,trivial⟩) fun D ρ w hG hs=>Qcr rfl rfl ⟨rfl,hs⟩
 ·exact ob [12,17] [] rfl rfl fun D ρ w hs=>QbS (h':=!decide (tu=tw)) rfl rfl rfl ⟨rfl,hs⟩
 ·exact ob [18] [] rfl rfl fun D ρ w hs=>Qac (V:=.bool (((!decide (cu=cv))||(!(ou == ov)))||(!decide (tu=tw)))) rfl ⟨rfl,hs⟩
 ·exact obg [19] [] (((!decide (cu=cv))||(!(ou == ov)))||(!decide (tu=tw))) rfl (fun _=>rfl) rfl (fun _ _ _ _ h=>h) fun D ρ w hG hs=>Qaf QcR rfl ⟨rfl,hs⟩
 ·exact obgy [19,20] [] [20] (((!decide (cu=cv))||(!(ou == ov)))||(!decide (tu=tw))) rfl (fun _=>rfl) rfl (fun _ _ _ _ h=>h) (fun hG=>⟨hG,trivial⟩) fun D ρ w hG hs=>QaK (V:=.slice a l.length c) Qft hs 0 rfl rfl rfl ⟨rfl,hs⟩
 ·exact obgy [19,21] [] [21] (((!decide (cu=cv))||(!(ou == ov)))||(!decide (tu=tw))) rfl (fun _=>rfl) rfl (fun _ _ _ _ h=>h) (fun hG=>⟨hG,trivial⟩) fun D ρ w hG hs=>QaX (n:=l.length) QiD (Rd.own' hr hs) (by simp) rfl ⟨rfl,hs⟩
 ·exact obg [19] [] (((!decide (cu=cv))||(!(ou == ov)))||(!decide (tu=tw))) rfl (fun _=>rfl) rfl (fun _ _ _ _ h=>h) fun D ρ w hG hs=>Qaf QcR rfl ⟨rfl,hs⟩
 ·exact obgy [19,23] [] [23] (((!decide (cu=cv))||(!(ou == ov)))||(!decide (tu=tw))) rfl (fun _=>rfl) rfl (fun _ _ _ _ h=>h) (fun hG=>⟨hG,trivial⟩) fun D ρ w hG hs=>QaK (V:=.slice b l2.length e) Qft hs 1 rfl rfl rfl ⟨rfl,hs⟩
 ·exact obgy [19,24] [] [24] (((!decide (cu=cv))||(!(ou == ov)))||(!decide (tu=tw))) rfl (fun _=>rfl) rfl (fun _ _ _ _ h=>h) (fun hG=>⟨hG,trivial⟩) fun D ρ w hG hs=>QaX (n:=l2.length) QiD (Rd.own' hq hs) (by simp) rfl ⟨rfl,hs⟩
 ·exact obgy [19,22,25] [] [22,25] (((!decide (cu=cv))||(!(ou == ov)))||(!decide (tu=tw))) rfl (fun _=>rfl) rfl (fun _ _ _ _ h=>h) (fun hG=>⟨hG,hG,trivial⟩) fun D ρ w hG hs=>Qcr rfl rfl ⟨rfl,hs⟩
 ·exact ob [19,26] [] rfl rfl fun D ρ w hs=>QbS (h':=!decide (((l.length:Nat):Int)=((l2.length:Nat):Int))) rfl rfl rfl ⟨rfl,hs⟩
 rintro ρ1 w5 ρ2 hρ hs
 replace hρ:ρ2=upd (mix [6,7,8,9,10,11,12,13,14,15,16,17,18,19,20,21,22,23,24,25,26,27,28,29,30,31,32,33] ρ1 _) 33 (.bool ((((!decide (cu=cv))||(!(ou == ov)))||(!decide (tu=tw)))||(!decide (((l.length:Nat):Int)=((l2.length:Nat):Int))))):=hρ
 subst hρ
 refine Qal (t:=(((!decide (cu=cv))||(!(ou == ov)))||(!decide (tu=tw)))||(!decide (((l.length:Nat):Int)=((l2.length:Nat):Int)))) rfl (fun c6=>?_) (fun c6=>?_)
 ·
  refine Qag (Qab (Qaa (Qad (V:=.bool false) rfl (Qae (Qas ?_)))))
  refine ⟨_,Qao (V:=.bool false) Tryz.results19 rfl,?_⟩
  refine ⟨congrArg Ending.returned ?_,hs.take 0⟩
  refine congrArg Value.bool ?_
  have hc:=c6
  by_cases hll:l=l2
  ·subst hll;simp at hc ⊢;grind
  ·rw [QQ4 hll,Bool.and_false]
 ·
  have c6r:=Qfo c6
  replace c6:=Qfl c6
  have c6rr:=Qfo c6
  replace c6:=Qfl c6
  have c6rrr:=Qfo c6
  replace c6:=Qfl c6
  replace c6:=Qbr c6
  replace c6:=QQ1 c6
  replace c6rrr:=Qbr c6rrr
  replace c6rr:=Qbr c6rr
  replace c6rr:=QQ1 c6rr
  replace c6r:=Qbr c6r
  replace c6r:=QQ1 c6r
  refine Qan (Qag (Qag (Qab (Qaa (Qad (V:=I6 0) rfl (Qae (Qak (Qax (fun ρ μ ρ' w'=>∃ (ρo:Env) (k:Nat),ρ'=upd (mix [4,5,34,35,36,37,38,39,40,41,42,43,44,45,46,47,48,49,50,51] ρo ρ) 5 (I6 (k:Int))∧(k≤l.length)∧(∀ j:Nat,j<k→gd l j=gd l2 j)∧μ=l.length-k∧Own w no w' [blk b1 [I7 cu,.slice a l.length c,.bool ou,.int .u32 tu] 64,blk b3 [I7 cv,.slice b l2.length e,.bool ov,.int .u32 tw] 64]) ?_ ?_))))))))
  ·exact ⟨_,_,0,Qah (Qam (ds:=[4,5,34,35,36,37,38,39,40,41,42,43,44,45,46,47,48,49,50,51]) (Agr.refl _ _)) rfl,(by omega),(fun j hj=>absurd hj (Nat.not_lt_zero j)),rfl,hs⟩
  ·rintro μ ρ' w7 ⟨ρo,k,rfl,hk,heq,rfl,hs⟩
   refine Qag (Qag (Qab (Qaa (Qac (V:=I6 (k:Int)) rfl (Qaa (Qaf QcR rfl (Qaa (QaK (V:=.slice a l.length c) Qft hs 0 rfl rfl rfl (Qaa (QaX (n:=l.length) QiD (Rd.own' hr hs) (by simp) rfl (Qaa (QaP rfl rfl (Qae (Qal (t:=decide ((k:Int)<((l.length:Nat):Int))) rfl (fun c8=>?_) (fun c8=>?_)))))))))))))))
   ·
    replace c8:=QQ1 c8
    refine Qan (Qag (Qak (Qag (QaC HM [some 41,some 42,some 43,some 44,some 45,some 46,some 47,some 48,some 49,some 50,some 51] [] [0,1,0,7,15,0,32,0,224,480,1023] [pv (Pt b1 (0+1)),pv (.slice a l.length c),pv (I6 (k:Int)),pv (.pointer (some ⟨bkS (.slice a l.length c),ofS (.slice a l.length c)+(k:Int).toNat*2,none⟩)),pv (.agg (lc (gd l k)).toArray),pv (Pt b3 (0+1)),pv (.slice b l2.length e),pv (I6 (k:Int)),pv (.pointer (some ⟨bkS (.slice b l2.length e),ofS (.slice b l2.length e)+(k:Int).toNat*2,none⟩)),pv (.agg (lc (gd l2 k)).toArray),pv (.bool (!decide (gd l k=gd l2 k)))] (fun _ _=>_) [10] (by kernel_rfl) hs ⟨?_,?_,?_,?_,?_,?_,?_,?_,?_,?_,?_,trivial⟩ ?_))))
    ·exact ob [] [] rfl rfl fun D ρ w hs=>Qaf QcR rfl ⟨rfl,hs⟩
    ·exact ob [0] [] rfl rfl fun D ρ w hs=>QaK (V:=.slice a l.length c) Qft hs 0 rfl rfl rfl ⟨rfl,hs⟩
    ·exact ob [] [] rfl rfl fun D ρ w hs=>Qac (V:=I6 (k:Int)) rfl ⟨rfl,hs⟩
    ·exact ob [1,2] [] rfl rfl fun D ρ w hs=>Qat QiD Qis.1 (Rd.own' hr hs) rfl rfl (by omega) (by rw [QQ6];omega) ⟨rfl,hs⟩
    ·exact ob [3] [] rfl rfl fun D ρ w hs=>QaZ (j:=0) (vs:=lc (gd l k)) k Qis (Rd.own' hr hs) (QaY (by omega)) rfl rfl rfl (by omega) ⟨rfl,hs⟩
    ·exact ob [] [] rfl rfl fun D ρ w hs=>Qaf QcR rfl ⟨rfl,hs⟩
    ·exact ob [5] [] rfl rfl fun D ρ w hs=>QaK (V:=.slice b l2.length e) Qft hs 1 rfl rfl rfl ⟨rfl,hs⟩
    ·exact ob [] [] rfl rfl fun D ρ w hs=>Qac (V:=I6 (k:Int)) rfl ⟨rfl,hs⟩
    ·exact ob [6,7] [] rfl rfl fun D ρ w hs=>Qat QiD Qis.1 (Rd.own' hq hs) rfl rfl (by omega) (by rw [QQ6];omega) ⟨rfl,hs⟩
    ·exact ob [8] [] rfl rfl fun D ρ w hs=>QaZ (j:=0) (vs:=lc (gd l2 k)) k Qis (Rd.own' hq hs) (QaY (by omega)) rfl rfl rfl (by omega) ⟨rfl,hs⟩
    ·exact ob [4,9] [] rfl rfl fun D ρ w hs=>QsP (xs:=lc (gd l k)) (ys:=lc (gd l2 k)) Tryz.eqGuardType74 (Qtx (gd l k) (gd l2 k)) rfl rfl rfl ⟨rfl,hs⟩
    rintro ρ1 w9 ρ2 hρ hs
    replace hρ:ρ2=upd (mix [41,42,43,44,45,46,47,48,49,50,51] ρ1 _) 51 (.bool (!decide (gd l k=gd l2 k))):=hρ
    subst hρ
    refine Qal (t:=!decide (gd l k=gd l2 k)) rfl (fun c10=>?_) (fun c10=>?_)
    ·
     replace c10:=QbL c10
     replace c10:=QQ2 c10
     refine Qag (Qab (Qaa (Qad (V:=.bool false) rfl (Qae (Qas ?_)))))
     refine ⟨_,Qao (V:=.bool false) Tryz.results19 rfl,?_⟩
     refine ⟨congrArg Ending.returned ?_,hs.take 0⟩
     refine congrArg Value.bool ?_
     have hne:¬l=l2:=fun e=>by subst e;exact c10 rfl
     rw [QQ4 hne,Bool.and_false]
    ·
     replace c10:=Qbr c10
     replace c10:=QQ1 c10
     refine Qan (Qab (Qaa (Qac (V:=I6 (k:Int)) rfl (Qaa (Qav (a:=(k:Int)) (b:=1) (c:=(k:Int)+1) rfl rfl (Qbh (by omega) (by omega)) (Qaa (Qad (V:=I6 ((k:Int)+1)) rfl (Qae ?_))))))))
     refine ⟨_,?_,_,k+1,Qah (Qam (ds:=[4,5,34,35,36,37,38,39,40,41,42,43,44,45,46,47,48,49,50,51]) (by repeat (first|exact Agr.refl _ _|refine Agr.upd ?_ rfl|refine Agr.mix ?_ rfl))) rfl,(by omega),(QjI heq c10),rfl,hs.take 2⟩
     omega
   ·
    replace c8:=QQ2 c8
    refine Qaz (Qag (Qab (Qaa (Qad (V:=.bool true) rfl (Qae (Qas ?_))))))
    refine ⟨_,Qao (V:=.bool true) Tryz.results19 rfl,?_⟩
    refine ⟨congrArg Ending.returned ?_,hs.take 0⟩
    refine congrArg Value.bool ?_
    have hll:=Qhs (l:=l) (m:=l2) (by omega) fun j hj=>heq j (by omega)
    rw [QQ3 hll,QQ3 c6,QQ3 c6rr,c6rrr];rfl
end Tt
end Go.Proofs
namespace Go.Proofs
open Go Go.Vx Go.RowKit
namespace Tt
theorem Qm9 (w:World) (a:Option Addr) (c:Nat) (l:List Opn) (d:Dot) (hr:Rd w (.slice a l.length c) 23 (l.map oc)):Calls Tryz.prog 88 #[.slice a l.length c,.agg (dc d).toArray] w (fun e w'=>e = .returned (.bool (l.any fun o=>decide (o.dot=d)))∧Own w no w' []):=by
 refine Qai (n:=19) Tryz.func88 rfl Tryz.ntmps88 rfl ?_
 have hs:=Own.start w
 have hn:=hr.sml
 refine Qag (Qab (Qaa (Qa9 (V:=.agg (dc d).toArray) (cs:=dc d) rfl rfl hs fun b1 w2 hs=>(Qaa (Qad (V:=.bool false) rfl (Qae (Qag (Qag (Qab (Qaa (Qad (V:=I6 0) rfl (Qae (Qak (Qax (fun ρ μ ρ' w'=>∃ (ρo:Env) (k:Nat),ρ'=upd (mix [4,5,6,7,8,9,10,11,12,13,14,15,16,17,18] ρo ρ) 5 (I6 (k:Int))∧(k≤l.length)∧(∀ j:Nat,j<k→decide ((gd l j).dot=d)=false)∧μ=l.length-k∧Own w no w' [blk b1 (dc d) 30]) ?_ ?_))))))))))))))
 ·exact ⟨_,_,0,Qah (Qam (ds:=[4,5,6,7,8,9,10,11,12,13,14,15,16,17,18]) (Agr.refl _ _)) rfl,(by omega),(fun j hj=>absurd hj (Nat.not_lt_zero j)),rfl,hs⟩
 ·rintro μ ρ' w3 ⟨ρo,k,rfl,hk,hno,rfl,hs⟩
  refine Qag (Qag (Qab (Qaa (Qac (V:=I6 (k:Int)) rfl (Qaa (Qac (V:=.slice a l.length c) rfl (Qaa (QaX (n:=l.length) Qbv (Rd.own' hr hs) (by simp) rfl (Qaa (QaP rfl rfl (Qae (Qal (t:=decide ((k:Int)<((l.length:Nat):Int))) rfl (fun c4=>?_) (fun c4=>?_)))))))))))))
  ·
   replace c4:=QQ1 c4
   refine Qan (Qag (Qak (Qag (QaC HM [some 12,some 13,some 14,some 15,some 16,some 17,some 18] [] [0,0,3,7,15,0,63] [pv (.slice a l.length c),pv (I6 (k:Int)),pv (.pointer (some ⟨bkS (.slice a l.length c),ofS (.slice a l.length c)+(k:Int).toNat*23,none⟩)),pv (.pointer (some ⟨bkS (.slice a l.length c),ofS (.slice a l.length c)+(k:Int).toNat*23+0,none⟩)),pv (.agg (dc ((gd l k).dot)).toArray),pv (.agg (dc d).toArray),pv (.bool (decide ((gd l k).dot=d)))] (fun _ _=>_) [6] (by kernel_rfl) hs ⟨?_,?_,?_,?_,?_,?_,?_,trivial⟩ ?_))))
   ·exact ob [] [] rfl rfl fun D ρ w hs=>Qac (V:=.slice a l.length c) rfl ⟨rfl,hs⟩
   ·exact ob [] [] rfl rfl fun D ρ w hs=>Qac (V:=I6 (k:Int)) rfl ⟨rfl,hs⟩
   ·exact ob [0,1] [] rfl rfl fun D ρ w hs=>Qat Qbv Qa0.1 (Rd.own' hr hs) rfl rfl (by omega) (by rw [QQ6];omega) ⟨rfl,hs⟩
   ·exact ob [2] [] rfl rfl fun D ρ w hs=>Qaf Qbg rfl ⟨rfl,hs⟩
   ·exact ob [3] [] rfl rfl fun D ρ w hs=>QaZ (j:=0) (vs:=dc ((gd l k).dot)) k Qcv (Rd.own' hr hs) (QaY (by omega)) rfl rfl rfl (by omega) ⟨rfl,hs⟩
   ·exact ob [] [] rfl rfl fun D ρ w hs=>QaR (cs:=dc d) Qcv hs 0 rfl rfl rfl ⟨rfl,hs⟩
   ·exact ob [4,5] [] rfl rfl fun D ρ w hs=>Qnu (xs:=dc ((gd l k).dot)) (ys:=dc d) Tryz.eqGuardType30 (QoN ((gd l k).dot) d) rfl rfl rfl ⟨rfl,hs⟩
   rintro ρ1 w5 ρ2 hρ hs
   replace hρ:ρ2=upd (mix [12,13,14,15,16,17,18] ρ1 _) 18 (.bool (decide ((gd l k).dot=d))):=hρ
   subst hρ
   refine Qal (t:=decide ((gd l k).dot=d)) rfl (fun c6=>?_) (fun c6=>?_)
   ·
    replace c6:=QQ1 c6
    refine Qag (Qab (Qaa (Qad (V:=.bool true) rfl (Qae (Qas ?_)))))
    refine ⟨_,Qao (V:=.bool true) Tryz.results88 rfl,?_⟩
    refine ⟨congrArg Ending.returned ?_,hs.take 0⟩
    exact congrArg Value.bool (QrW (p:=fun o:Opn=>decide (o.dot=d)) (k:=k) (by omega) (QQ3 c6)).symm
   ·
    replace c6:=QQ2 c6
    refine Qan (Qab (Qaa (Qac (V:=I6 (k:Int)) rfl (Qaa (Qav (a:=(k:Int)) (b:=1) (c:=(k:Int)+1) rfl rfl (Qbh (by omega) (by omega)) (Qaa (Qad (V:=I6 ((k:Int)+1)) rfl (Qae ?_))))))))
    refine ⟨_,?_,_,k+1,Qah (Qam (ds:=[4,5,6,7,8,9,10,11,12,13,14,15,16,17,18]) (by repeat (first|exact Agr.refl _ _|refine Agr.upd ?_ rfl|refine Agr.mix ?_ rfl))) rfl,(by omega),(Qk8 (p:=fun o:Opn=>decide (o.dot=d)) hno (QQ4 c6)),rfl,hs.take 1⟩
    omega
  ·
   replace c4:=QQ2 c4
   refine Qaz (Qag (Qab (Qaa (Qad (V:=.bool false) rfl (Qae (Qas ?_))))))
   refine ⟨_,Qao (V:=.bool false) Tryz.results88 rfl,?_⟩
   refine ⟨congrArg Ending.returned ?_,hs.take 0⟩
   exact congrArg Value.bool (Qju (p:=fun o:Opn=>decide (o.dot=d)) fun j hj=>hno j (by omega)).symm
theorem Qlg (w:World) (a:Option Addr) (c:Nat) (l:List Opn) (v:Vec) (rep:Int) (hl:∀ o∈l,QbH o) (hlen:l.length≤1000) (hr:Rd w (.slice a l.length c) 23 (l.map oc)):Calls Tryz.prog 89 #[.slice a l.length c,.agg (vc v).toArray,.int .i64 rep] w (fun e w'=>e = .returned (.int .u32 (QhP l v rep))∧Own w no w' []):=by
 refine Qai (n:=36) Tryz.func89 rfl Tryz.ntmps89 rfl ?_
 have hs:=Own.start w
 have hn:=hr.sml
 refine Qag (Qab (Qaa (Qa9 (V:=.agg (vc v).toArray) (cs:=vc v) rfl rfl hs fun b1 w2 hs=>(Qaa (Qad (V:=.int .u32 0) rfl (Qae (Qag (Qab (Qaa (Qad (V:=.int .u32 0) rfl (Qae (Qag (Qag (Qab (Qaa (Qad (V:=I6 0) rfl (Qae (Qak (Qax (fun ρ μ ρ' w'=>∃ (ρo:Env) (k:Nat) (n:Int),ρ'=upd (upd (mix [7,8,9,10,11,12,13,14,15,16,17,18,19,20,21,22,23,24,25,26,27,28,29,30,31,32,33,34] ρo ρ) 8 (I6 (k:Int))) 7 (.int .u32 n)∧(k≤l.length)∧(n=QhP (l.take k) v rep)∧(0≤n∧n≤k)∧μ=l.length-k∧Own w no w' [blk b1 (vc v) 24]) ?_ ?_)))))))))))))))))))
 ·exact ⟨_,_,0,0,Qah (Qah (Qam (ds:=[7,8,9,10,11,12,13,14,15,16,17,18,19,20,21,22,23,24,25,26,27,28,29,30,31,32,33,34]) (Agr.refl _ _)) rfl) rfl,(by omega),rfl,(by omega),rfl,hs⟩
 ·rintro μ ρ' w3 ⟨ρo,k,n,rfl,hk,hn2,hnb,rfl,hs⟩
  refine Qag (Qag (Qab (Qaa (Qac (V:=I6 (k:Int)) rfl (Qaa (Qac (V:=.slice a l.length c) rfl (Qaa (QaX (n:=l.length) Qbv (Rd.own' hr hs) (by simp) rfl (Qaa (QaP rfl rfl (Qae (Qal (t:=decide ((k:Int)<((l.length:Nat):Int))) rfl (fun c4=>?_) (fun c4=>?_)))))))))))))
  ·
   replace c4:=QQ1 c4
   refine Qan (Qag (Qak (Qag ?_)))
   have hok:=hl _ (Qbq (l:=l) (i:=k) (by omega))
   have hdk:=hok.1
   have ⟨⟨hr1,hr2⟩,hr3,hr4⟩:=hdk
   refine QaC HM [some 15,some 16,some 17,some 18,some 19,some 20,some 21,some 22,some 23,some 24,some 25,some 26,some 27,some 28,some 29,some 30,some 31,some 32] [] [0,0,3,7,15,31,63,0,255,511,1023,1023,1023,7167,15359,31743,65535,131071] [pv (.slice a l.length c),pv (I6 (k:Int)),pv (.pointer (some ⟨bkS (.slice a l.length c),ofS (.slice a l.length c)+(k:Int).toNat*23,none⟩)),pv (.pointer (some ⟨bkS (.slice a l.length c),ofS (.slice a l.length c)+(k:Int).toNat*23+0,none⟩)),pv (.pointer (some ⟨bkS (.slice a l.length c),ofS (.slice a l.length c)+(k:Int).toNat*23+0+0,none⟩)),pv (.int .u8 (((gd l k).dot).rep)),pv (I6 (((gd l k).dot).rep)),pv (I6 rep),pv (.bool (decide (((gd l k).dot).rep=rep))),pv (.bool (decide (((gd l k).dot).rep=rep))),pg ((decide (((gd l k).dot).rep=rep)) == true) (.agg (vc v).toArray),pg ((decide (((gd l k).dot).rep=rep)) == true) (.slice a l.length c),pg ((decide (((gd l k).dot).rep=rep)) == true) (I6 (k:Int)),pg ((decide (((gd l k).dot).rep=rep)) == true) (.pointer (some ⟨bkS (.slice a l.length c),ofS (.slice a l.length c)+(k:Int).toNat*23,none⟩)),pg ((decide (((gd l k).dot).rep=rep)) == true) (.pointer (some ⟨bkS (.slice a l.length c),ofS (.slice a l.length c)+(k:Int).toNat*23+0,none⟩)),pg ((decide (((gd l k).dot).rep=rep)) == true) (.agg (dc ((gd l k).dot)).toArray),pg ((decide (((gd l k).dot).rep=rep)) == true) (.bool (QbC v ((gd l k).dot))),pv (.bool ((decide (((gd l k).dot).rep=rep))&&(QbC v ((gd l k).dot))))] (fun _ _=>_) [17] (by kernel_rfl) hs ⟨?_,?_,?_,?_,?_,?_,?_,?_,?_,?_,?_,?_,?_,?_,?_,?_,?_,?_,trivial⟩ ?_
   ·exact ob [] [] rfl rfl fun D ρ w hs=>Qac (V:=.slice a l.length c) rfl ⟨rfl,hs⟩
   ·exact ob [] [] rfl rfl fun D ρ w hs=>Qac (V:=I6 (k:Int)) rfl ⟨rfl,hs⟩
   ·exact ob [0,1] [] rfl rfl fun D ρ w hs=>Qat Qbv Qa0.1 (Rd.own' hr hs) rfl rfl (by omega) (by rw [QQ6];omega) ⟨rfl,hs⟩
   ·exact ob [2] [] rfl rfl fun D ρ w hs=>Qaf Qbg rfl ⟨rfl,hs⟩
   ·exact ob [3] [] rfl rfl fun D ρ w hs=>Qaf QbK rfl ⟨rfl,hs⟩
   ·exact ob [4] [] rfl rfl fun D ρ w hs=>QaQ (j:=0) (V:=.int .u8 (((gd l k).dot).rep)) k QcF (Rd.own' hr hs) (QaY (by omega)) rfl rfl (by omega) ⟨rfl,hs⟩
   ·exact ob [5] [] rfl rfl fun D ρ w hs=>QbD QtS QfC rfl (Qbh (by omega) (by omega)) ⟨rfl,hs⟩
   ·exact ob [] [] rfl rfl fun D ρ w hs=>Qac (V:=I6 rep) rfl ⟨rfl,hs⟩
   ·exact ob [6,7] [] rfl rfl fun D ρ w hs=>QaM rfl rfl ⟨rfl,hs⟩
   ·exact ob [8] [] rfl rfl fun D ρ w hs=>Qac (V:=.bool (decide (((gd l k).dot).rep=rep))) rfl ⟨rfl,hs⟩
   ·exact obg [9] [] (decide (((gd l k).dot).rep=rep)) rfl (fun _=>rfl) rfl (fun _ _ _ _ h=>h) fun D ρ w hG hs=>QaR (cs:=vc v) QbT hs 0 rfl rfl rfl ⟨rfl,hs⟩
   ·exact obg [9] [] (decide (((gd l k).dot).rep=rep)) rfl (fun _=>rfl) rfl (fun _ _ _ _ h=>h) fun D ρ w hG hs=>Qac (V:=.slice a l.length c) rfl ⟨rfl,hs⟩
   ·exact obg [9] [] (decide (((gd l k).dot).rep=rep)) rfl (fun _=>rfl) rfl (fun _ _ _ _ h=>h) fun D ρ w hG hs=>Qac (V:=I6 (k:Int)) rfl ⟨rfl,hs⟩
   ·refine obgy [9,11,12] [] [11,12] (decide (((gd l k).dot).rep=rep)) rfl (fun _=>rfl) rfl (fun _ _ _ _ h=>h) (fun hG=>⟨hG,hG,trivial⟩) fun D ρ w hG hs=>?_
    have hgd:=QQ1 (eq_of_beq (hG))
    exact Qat Qbv Qa0.1 (Rd.own' hr hs) rfl rfl (by omega) (by rw [QQ6];omega) ⟨rfl,hs⟩
   ·exact obgy [9,13] [] [13] (decide (((gd l k).dot).rep=rep)) rfl (fun _=>rfl) rfl (fun _ _ _ _ h=>h) (fun hG=>⟨hG,trivial⟩) fun D ρ w hG hs=>Qaf Qbg rfl ⟨rfl,hs⟩
   ·refine obgy [9,14] [] [14] (decide (((gd l k).dot).rep=rep)) rfl (fun _=>rfl) rfl (fun _ _ _ _ h=>h) (fun hG=>⟨hG,trivial⟩) fun D ρ w hG hs=>?_
    have hgd:=QQ1 (eq_of_beq (hG))
    exact QaZ (j:=0) (vs:=dc ((gd l k).dot)) k Qcv (Rd.own' hr hs) (QaY (by omega)) rfl rfl rfl (by omega) ⟨rfl,hs⟩
   ·refine obgy [9,10,15] [] [10,15] (decide (((gd l k).dot).rep=rep)) rfl (fun _=>rfl) rfl (fun _ _ _ _ h=>h) (fun hG=>⟨hG,hG,trivial⟩) fun D ρ w hG hs=>?_
    have hgd:=QQ1 (eq_of_beq (hG))
    exact Qar (vs:=[.agg (vc v).toArray,.agg (dc ((gd l k).dot)).toArray]) (V:=.bool (QbC v ((gd l k).dot))) Qnl rfl rfl (QgZ _ v ((gd l k).dot) (by first|assumption|exact QcZ (by omega) (by omega) (by omega) (by omega))) hs fun _ hs=>⟨rfl,hs⟩
   ·exact ob [9,16] [] rfl rfl fun D ρ w hs=>Qa3 (h':=QbC v ((gd l k).dot)) rfl rfl rfl ⟨rfl,hs⟩
   rintro ρ1 w6 ρ2 hρ hs
   replace hρ:ρ2=upd (mix [15,16,17,18,19,20,21,22,23,24,25,26,27,28,29,30,31,32] ρ1 _) 32 (.bool ((decide (((gd l k).dot).rep=rep))&&(QbC v ((gd l k).dot)))):=hρ
   subst hρ
   refine Qal (t:=(decide (((gd l k).dot).rep=rep))&&(QbC v ((gd l k).dot))) rfl (fun c7=>?_) (fun c7=>?_)
   ·
    have c7r:=Qcd c7
    replace c7:=QbQ c7
    replace c7:=QQ1 c7
    refine Qab (Qaa (Qac (V:=.int .u32 n) rfl (Qaa (Qav (a:=n) (b:=1) (c:=n+1) rfl rfl (QeO (by omega) (by omega)) (Qaa (Qad (V:=.int .u32 (n+1)) rfl (Qae (Qab (Qaa (Qac (V:=I6 (k:Int)) rfl (Qaa (Qav (a:=(k:Int)) (b:=1) (c:=(k:Int)+1) rfl rfl (Qbh (by omega) (by omega)) (Qaa (Qad (V:=I6 ((k:Int)+1)) rfl (Qae ?_)))))))))))))))
    refine ⟨_,?_,_,k+1,n+1,Qah (Qah (Qam (ds:=[7,8,9,10,11,12,13,14,15,16,17,18,19,20,21,22,23,24,25,26,27,28,29,30,31,32,33,34]) (by repeat (first|exact Agr.refl _ _|refine Agr.upd ?_ rfl|refine Agr.mix ?_ rfl))) rfl) rfl,(by omega),(QpD hn2 (by omega) c7 c7r),(by omega),rfl,hs.take 1⟩
    omega
   ·
    refine Qan (Qab (Qaa (Qac (V:=I6 (k:Int)) rfl (Qaa (Qav (a:=(k:Int)) (b:=1) (c:=(k:Int)+1) rfl rfl (Qbh (by omega) (by omega)) (Qaa (Qad (V:=I6 ((k:Int)+1)) rfl (Qae ?_))))))))
    refine ⟨_,?_,_,k+1,n,Qah (Qah (Qam (ds:=[7,8,9,10,11,12,13,14,15,16,17,18,19,20,21,22,23,24,25,26,27,28,29,30,31,32,33,34]) (by repeat (first|exact Agr.refl _ _|refine Agr.upd ?_ rfl|refine Agr.mix ?_ rfl))) rfl) rfl,(by omega),(Qr6 hn2 (by omega) c7),(by omega),rfl,hs.take 1⟩
    omega
  ·
   replace c4:=QQ2 c4
   refine Qaz (Qag (Qab (Qaa (Qac (V:=.int .u32 n) rfl (Qaa (Qad (V:=.int .u32 n) rfl (Qae (Qas ?_))))))))
   refine ⟨_,Qao (V:=.int .u32 n) Tryz.results89 rfl,?_⟩
   refine ⟨congrArg Ending.returned ?_,hs.take 0⟩
   rw [hn2,Qb6 (by omega)]
theorem QiQ (w:World) (a:Option Addr) (c:Nat) (l:List Opn) (hl:∀ o∈l,QbH o) (hlen:l.length≤1000) (hr:Rd w (.slice a l.length c) 23 (l.map oc)):Calls Tryz.prog 51 #[.slice a l.length c] w (fun e w'=>e = .returned (.bool (QbV l))∧Own w no w' []):=by
 refine Qai (n:=57) Tryz.func51 rfl Tryz.ntmps51 rfl ?_
 have hs:=Own.start w
 have hn:=hr.sml
 refine Qag (Qab (Qaa (Qad (V:=.bool false) rfl (Qae (Qag (Qag (Qab (Qaa (Qad (V:=I6 0) rfl (Qae (Qak (Qax (fun ρ μ ρ' w'=>∃ (ρo:Env) (k:Nat),ρ'=upd (mix [2,3,6,7,8,9,10,11,12,13,14,15,16,17,18,19,20,21,22,23,24,25,26,27,28,29] ρo ρ) 3 (I6 (k:Int))∧(k≤l.length)∧(∀ j:Nat,j<k→Qq3 l j=false)∧μ=l.length-k∧Own w no w' []) ?_ ?_))))))))))))
 ·exact ⟨_,_,0,Qah (Qam (ds:=[2,3,6,7,8,9,10,11,12,13,14,15,16,17,18,19,20,21,22,23,24,25,26,27,28,29]) (Agr.refl _ _)) rfl,(by omega),(fun j hj=>absurd hj (Nat.not_lt_zero j)),rfl,hs⟩
 ·rintro μ ρ' w1 ⟨ρo,k,rfl,hk,hbad,rfl,hs⟩
  refine Qag (Qag (Qab (Qaa (Qac (V:=I6 (k:Int)) rfl (Qaa (Qac (V:=.slice a l.length c) rfl (Qaa (QaX (n:=l.length) Qbv (Rd.own' hr hs) (by simp) rfl (Qaa (QaP rfl rfl (Qae (Qal (t:=decide ((k:Int)<((l.length:Nat):Int))) rfl (fun c2=>?_) (fun c2=>?_)))))))))))))
  ·
   replace c2:=QQ1 c2
   refine Qan (Qag (Qak (Qag ?_)))
   have hok:=hl _ (Qbq (l:=l) (i:=k) (by omega))
   have hdk:=hok.1
   refine QaC HM [some 12,some 13,some 14,some 15,some 16,some 17,some 18,some 19,some 20,some 21,some 22,some 23,some 24,some 25,some 26,some 27,some 28,some 29] [] [0,0,3,7,15,31,63,127,255,255,1023,255,255,6399,14591,30975,65535,131071] [pv (.slice a l.length c),pv (I6 (k:Int)),pv (.pointer (some ⟨bkS (.slice a l.length c),ofS (.slice a l.length c)+(k:Int).toNat*23,none⟩)),pv (.pointer (some ⟨bkS (.slice a l.length c),ofS (.slice a l.length c)+(k:Int).toNat*23+0,none⟩)),pv (.agg (dc ((gd l k).dot)).toArray),pv (.bool (Qbs ((gd l k).dot))),pv (.bool (!(Qbs ((gd l k).dot)))),pv (.bool (!(Qbs ((gd l k).dot)))),pg ((!(Qbs ((gd l k).dot))) == false) (.slice a l.length c),pg ((!(Qbs ((gd l k).dot))) == false) (I6 (k:Int)),pg ((!(Qbs ((gd l k).dot))) == false) (.slice (sla a 0 c 23) ((l.take k).length) (c-0)),pg ((!(Qbs ((gd l k).dot))) == false) (.slice a l.length c),pg ((!(Qbs ((gd l k).dot))) == false) (I6 (k:Int)),pg ((!(Qbs ((gd l k).dot))) == false) (.pointer (some ⟨bkS (.slice a l.length c),ofS (.slice a l.length c)+(k:Int).toNat*23,none⟩)),pg ((!(Qbs ((gd l k).dot))) == false) (.pointer (some ⟨bkS (.slice a l.length c),ofS (.slice a l.length c)+(k:Int).toNat*23+0,none⟩)),pg ((!(Qbs ((gd l k).dot))) == false) (.agg (dc ((gd l k).dot)).toArray),pg ((!(Qbs ((gd l k).dot))) == false) (.bool ((l.take k).any fun o=>decide (o.dot=(gd l k).dot))),pv (.bool ((!(Qbs ((gd l k).dot)))||((l.take k).any fun o=>decide (o.dot=(gd l k).dot))))] (fun _ _=>_) [17] (by kernel_rfl) hs ⟨?_,?_,?_,?_,?_,?_,?_,?_,?_,?_,?_,?_,?_,?_,?_,?_,?_,?_,trivial⟩ ?_
   ·exact ob [] [] rfl rfl fun D ρ w hs=>Qac (V:=.slice a l.length c) rfl ⟨rfl,hs⟩
   ·exact ob [] [] rfl rfl fun D ρ w hs=>Qac (V:=I6 (k:Int)) rfl ⟨rfl,hs⟩
   ·exact ob [0,1] [] rfl rfl fun D ρ w hs=>Qat Qbv Qa0.1 (Rd.own' hr hs) rfl rfl (by omega) (by rw [QQ6];omega) ⟨rfl,hs⟩
   ·exact ob [2] [] rfl rfl fun D ρ w hs=>Qaf Qbg rfl ⟨rfl,hs⟩
   ·exact ob [3] [] rfl rfl fun D ρ w hs=>QaZ (j:=0) (vs:=dc ((gd l k).dot)) k Qcv (Rd.own' hr hs) (QaY (by omega)) rfl rfl rfl (by omega) ⟨rfl,hs⟩
   ·exact ob [4] [] rfl rfl fun D ρ w hs=>Qar (vs:=[.agg (dc ((gd l k).dot)).toArray]) (V:=.bool (Qbs ((gd l k).dot))) Qqq rfl rfl (Qii _ ((gd l k).dot)) hs fun _ hs=>⟨rfl,hs⟩
   ·exact ob [5] [] rfl rfl fun D ρ w hs=>Qbw rfl ⟨rfl,hs⟩
   ·exact ob [6] [] rfl rfl fun D ρ w hs=>Qac (V:=.bool (!(Qbs ((gd l k).dot)))) rfl ⟨rfl,hs⟩
   ·exact obg [7] [] (!(Qbs ((gd l k).dot))) rfl (fun _=>rfl) rfl (fun _ _ _ _ h=>h) fun D ρ w hG hs=>Qac (V:=.slice a l.length c) rfl ⟨rfl,hs⟩
   ·exact obg [7] [] (!(Qbs ((gd l k).dot))) rfl (fun _=>rfl) rfl (fun _ _ _ _ h=>h) fun D ρ w hG hs=>Qac (V:=I6 (k:Int)) rfl ⟨rfl,hs⟩
   ·exact obgy [7,8,9] [] [8,9] (!(Qbs ((gd l k).dot))) rfl (fun _=>rfl) rfl (fun _ _ _ _ h=>h) (fun hG=>⟨hG,hG,trivial⟩) fun D ρ w hG hs=>QoS (l:=0) (h:=k) (m:=c) (n':=(l.take k).length) QrN Qa0.1 (Rd.own' hr hs) rfl (.inl ⟨rfl,rfl⟩) (.inr ⟨_,_,rfl,rfl⟩) (.inl ⟨rfl,rfl⟩) (by omega) (by omega) (Nat.le_trans (show k≤l.length by omega) (Rd.roomM (Rd.own' hr hs))) (Nat.le_refl _) (by simp only [List.length_take,List.length_drop]<;>omega) ⟨rfl,hs⟩
   ·exact obg [7] [] (!(Qbs ((gd l k).dot))) rfl (fun _=>rfl) rfl (fun _ _ _ _ h=>h) fun D ρ w hG hs=>Qac (V:=.slice a l.length c) rfl ⟨rfl,hs⟩
   ·exact obg [7] [] (!(Qbs ((gd l k).dot))) rfl (fun _=>rfl) rfl (fun _ _ _ _ h=>h) fun D ρ w hG hs=>Qac (V:=I6 (k:Int)) rfl ⟨rfl,hs⟩
   ·exact obgy [7,11,12] [] [11,12] (!(Qbs ((gd l k).dot))) rfl (fun _=>rfl) rfl (fun _ _ _ _ h=>h) (fun hG=>⟨hG,hG,trivial⟩) fun D ρ w hG hs=>Qat Qbv Qa0.1 (Rd.own' hr hs) rfl rfl (by omega) (by rw [QQ6];omega) ⟨rfl,hs⟩
   ·exact obgy [7,13] [] [13] (!(Qbs ((gd l k).dot))) rfl (fun _=>rfl) rfl (fun _ _ _ _ h=>h) (fun hG=>⟨hG,trivial⟩) fun D ρ w hG hs=>Qaf Qbg rfl ⟨rfl,hs⟩
   ·exact obgy [7,14] [] [14] (!(Qbs ((gd l k).dot))) rfl (fun _=>rfl) rfl (fun _ _ _ _ h=>h) (fun hG=>⟨hG,trivial⟩) fun D ρ w hG hs=>QaZ (j:=0) (vs:=dc ((gd l k).dot)) k Qcv (Rd.own' hr hs) (QaY (by omega)) rfl rfl rfl (by omega) ⟨rfl,hs⟩
   ·exact obgy [7,10,15] [] [10,15] (!(Qbs ((gd l k).dot))) rfl (fun _=>rfl) rfl (fun _ _ _ _ h=>h) (fun hG=>⟨hG,hG,trivial⟩) fun D ρ w hG hs=>Qar (vs:=[.slice (sla a 0 c 23) ((l.take k).length) (c-0),.agg (dc ((gd l k).dot)).toArray]) (V:=.bool ((l.take k).any fun o=>decide (o.dot=(gd l k).dot))) Qum rfl rfl (Qm9 _ (sla a 0 c 23) (c-0) (l.take k) ((gd l k).dot) (Rd.subM (Rd.own' hr hs) 0 k c (by omega) (by omega) (Nat.le_trans (show k≤l.length by omega) (Rd.roomM (Rd.own' hr hs))) (Nat.le_refl _) _ (by simp only [List.length_take,List.length_drop]<;>omega))) hs fun _ hs=>⟨rfl,hs⟩
   ·exact ob [7,16] [] rfl rfl fun D ρ w hs=>QbS (h':=(l.take k).any fun o=>decide (o.dot=(gd l k).dot)) rfl rfl rfl ⟨rfl,hs⟩
   rintro ρ1 w5 ρ2 hρ hs
   replace hρ:ρ2=upd (mix [12,13,14,15,16,17,18,19,20,21,22,23,24,25,26,27,28,29] ρ1 _) 29 (.bool ((!(Qbs ((gd l k).dot)))||((l.take k).any fun o=>decide (o.dot=(gd l k).dot)))):=hρ
   subst hρ
   refine Qal (t:=(!(Qbs ((gd l k).dot)))||((l.take k).any fun o=>decide (o.dot=(gd l k).dot))) rfl (fun c6=>?_) (fun c6=>?_)
   ·
    refine Qag (Qab (Qaa (Qad (V:=.bool false) rfl (Qae (Qas ?_)))))
    refine ⟨_,Qao (V:=.bool false) Tryz.results51 rfl,?_⟩
    refine ⟨congrArg Ending.returned ?_,hs.take 0⟩
    exact congrArg Value.bool (QiX (k:=k) (by omega) (by unfold Qq3;exact c6)).symm
   ·
    have c6r:=Qfo c6
    replace c6:=Qfl c6
    replace c6:=Qbr c6
    refine Qan (Qab (Qaa (Qac (V:=I6 (k:Int)) rfl (Qaa (Qav (a:=(k:Int)) (b:=1) (c:=(k:Int)+1) rfl rfl (Qbh (by omega) (by omega)) (Qaa (Qad (V:=I6 ((k:Int)+1)) rfl (Qae ?_))))))))
    refine ⟨_,?_,_,k+1,Qah (Qam (ds:=[2,3,6,7,8,9,10,11,12,13,14,15,16,17,18,19,20,21,22,23,24,25,26,27,28,29]) (by repeat (first|exact Agr.refl _ _|refine Agr.upd ?_ rfl|refine Agr.mix ?_ rfl))) rfl,(by omega),(Qdh hbad (by unfold Qq3;rw [c6,c6r];rfl)),rfl,hs.take 0⟩
    omega
  ·
   replace c2:=QQ2 c2
   refine Qaz (Qag (Qag (Qab (Qaa (Qad (V:=I6 0) rfl (Qae (Qak (Qax (fun ρ μ ρ' w'=>∃ (ρo:Env) (k2:Nat),ρ'=upd (mix [2,4,5,30,31,32,33,34,35,36,37,38,39,40,41,42,43,44,45,46,47,48,49,50,51,52,53,54,55,56] ρo ρ) 4 (I6 (k2:Int))∧(k2≤l.length)∧(∀ j:Nat,j<k2→QfQ l (gd l j)=true)∧μ=l.length-k2∧Own w no w' []) ?_ ?_))))))))
   ·exact ⟨_,_,0,Qah (Qam (ds:=[2,4,5,30,31,32,33,34,35,36,37,38,39,40,41,42,43,44,45,46,47,48,49,50,51,52,53,54,55,56]) (Agr.refl _ _)) rfl,(by omega),(fun j hj=>absurd hj (Nat.not_lt_zero j)),rfl,hs⟩
   ·rintro μ ρ' w7 ⟨ρo,k2,rfl,hk2,hkn,rfl,hs⟩
    refine Qag (Qag (Qab (Qaa (Qac (V:=I6 (k2:Int)) rfl (Qaa (Qac (V:=.slice a l.length c) rfl (Qaa (QaX (n:=l.length) Qbv (Rd.own' hr hs) (by simp) rfl (Qaa (QaP rfl rfl (Qae (Qal (t:=decide ((k2:Int)<((l.length:Nat):Int))) rfl (fun c8=>?_) (fun c8=>?_)))))))))))))
    ·
     replace c8:=QQ1 c8
     refine Qan (Qag (Qak (Qag (Qab (Qaa (Qad (V:=I6 0) rfl (Qae (Qak (Qax (fun ρ μ ρ' w'=>∃ (ρo:Env) (k3:Nat),ρ'=upd (mix [2,5,36,37,38,39,40,41,42,43,44,45,46,47,48,49,50,51,52,53,54,55,56] ρo ρ) 5 (I6 (k3:Int))∧(k3≤16)∧(∀ r:Nat,r<k3→QhP l (gd l k2).ctx (r:Int)=min (vat (gd l k2).ctx r) 1048576)∧μ=16-k3∧Own w no w' []) ?_ ?_)))))))))
     ·exact ⟨_,_,0,Qah (Qam (ds:=[2,5,36,37,38,39,40,41,42,43,44,45,46,47,48,49,50,51,52,53,54,55,56]) (Agr.refl _ _)) rfl,(by omega),(fun j hj=>absurd hj (Nat.not_lt_zero j)),rfl,hs⟩
     ·rintro μ ρ' w9 ⟨ρo,k3,rfl,hk3,hr3,rfl,hs⟩
      refine Qag (Qag (Qab (Qaa (Qac (V:=I6 (k3:Int)) rfl (Qaa (QaP rfl rfl (Qae (Qal (t:=decide ((k3:Int)<16)) rfl (fun c10=>?_) (fun c10=>?_)))))))))
      ·
       replace c10:=QQ1 c10
       refine Qan (Qag (Qak (Qag ?_)))
       have hok2:=hl _ (Qbq (l:=l) (i:=k2) (by omega))
       refine QaC HM [some 40,some 41,some 42,some 43,some 44,some 45,some 46,some 47,some 48,some 49,some 50,some 51,some 52,some 53,some 54,some 55,some 56] [] [0,0,0,6,14,30,0,127,0,0,0,768,2816,7936,16128,32512,65535] [pv (.slice a l.length c),pv (.slice a l.length c),pv (I6 (k2:Int)),pv (.pointer (some ⟨bkS (.slice a l.length c),ofS (.slice a l.length c)+(k2:Int).toNat*23,none⟩)),pv (.pointer (some ⟨bkS (.slice a l.length c),ofS (.slice a l.length c)+(k2:Int).toNat*23+7,none⟩)),pv (.agg (vc ((gd l k2).ctx)).toArray),pv (I6 (k3:Int)),pv (.int .u32 (QhP l ((gd l k2).ctx) (k3:Int))),pv (.slice a l.length c),pv (I6 (k2:Int)),pv (I6 (k3:Int)),pv (.pointer (some ⟨bkS (.slice a l.length c),ofS (.slice a l.length c)+(k2:Int).toNat*23,none⟩)),pv (.pointer (some ⟨bkS (.slice a l.length c),ofS (.slice a l.length c)+(k2:Int).toNat*23+7,none⟩)),pv (.pointer (some ⟨bkS (.slice a l.length c),ofS (.slice a l.length c)+(k2:Int).toNat*23+7+(k3:Int).toNat,none⟩)),pv (.int .u32 (vat ((gd l k2).ctx) k3)),pv (.int .u32 (min (vat ((gd l k2).ctx) k3) 1048576)),pv (.bool (!decide (QhP l ((gd l k2).ctx) (k3:Int)=min (vat ((gd l k2).ctx) k3) 1048576)))] (fun _ _=>_) [16] (by kernel_rfl) hs ⟨?_,?_,?_,?_,?_,?_,?_,?_,?_,?_,?_,?_,?_,?_,?_,?_,?_,trivial⟩ ?_
       ·exact ob [] [] rfl rfl fun D ρ w hs=>Qac (V:=.slice a l.length c) rfl ⟨rfl,hs⟩
       ·exact ob [] [] rfl rfl fun D ρ w hs=>Qac (V:=.slice a l.length c) rfl ⟨rfl,hs⟩
       ·exact ob [] [] rfl rfl fun D ρ w hs=>Qac (V:=I6 (k2:Int)) rfl ⟨rfl,hs⟩
       ·exact ob [1,2] [] rfl rfl fun D ρ w hs=>Qat Qbv Qa0.1 (Rd.own' hr hs) rfl rfl (by omega) (by rw [QQ6];omega) ⟨rfl,hs⟩
       ·exact ob [3] [] rfl rfl fun D ρ w hs=>Qaf Qcn rfl ⟨rfl,hs⟩
       ·exact ob [4] [] rfl rfl fun D ρ w hs=>QaZ (j:=7) (vs:=vc ((gd l k2).ctx)) k2 QbT (Rd.own' hr hs) (QaY (by omega)) rfl rfl rfl (by omega) ⟨rfl,hs⟩
       ·exact ob [] [] rfl rfl fun D ρ w hs=>Qac (V:=I6 (k3:Int)) rfl ⟨rfl,hs⟩
       ·exact ob [0,5,6] [] rfl rfl fun D ρ w hs=>Qar (vs:=[.slice a l.length c,.agg (vc ((gd l k2).ctx)).toArray,I6 (k3:Int)]) (V:=.int .u32 (QhP l ((gd l k2).ctx) (k3:Int))) Qup rfl rfl (Qlg _ a c l ((gd l k2).ctx) (k3:Int) (by assumption) (by assumption) (Rd.own' hr hs)) hs fun _ hs=>⟨rfl,hs⟩
       ·exact ob [] [] rfl rfl fun D ρ w hs=>Qac (V:=.slice a l.length c) rfl ⟨rfl,hs⟩
       ·exact ob [] [] rfl rfl fun D ρ w hs=>Qac (V:=I6 (k2:Int)) rfl ⟨rfl,hs⟩
       ·exact ob [] [] rfl rfl fun D ρ w hs=>Qac (V:=I6 (k3:Int)) rfl ⟨rfl,hs⟩
       ·exact ob [8,9] [] rfl rfl fun D ρ w hs=>Qat Qbv Qa0.1 (Rd.own' hr hs) rfl rfl (by omega) (by rw [QQ6];omega) ⟨rfl,hs⟩
       ·exact ob [11] [] rfl rfl fun D ρ w hs=>Qaf Qcn rfl ⟨rfl,hs⟩
       ·exact ob [10,12] [] rfl rfl fun D ρ w hs=>QbZ Qd5 Qa7.1 rfl rfl (by omega) (by omega) ⟨rfl,hs⟩
       ·exact ob [13] [] rfl rfl fun D ρ w hs=>QaQ (j:=7+k3) (V:=.int .u32 (vat ((gd l k2).ctx) k3)) k2 Qa7 (Rd.own' hr hs) (QaY (by omega)) (Qr4 (by omega)) rfl (by omega) ⟨rfl,hs⟩
       ·exact ob [14] [] rfl rfl fun D ρ w hs=>QtA rfl rfl ⟨rfl,hs⟩
       ·exact ob [7,15] [] rfl rfl fun D ρ w hs=>Qcr rfl rfl ⟨rfl,hs⟩
       rintro ρ1 w12 ρ2 hρ hs
       replace hρ:ρ2=upd (mix [40,41,42,43,44,45,46,47,48,49,50,51,52,53,54,55,56] ρ1 _) 56 (.bool (!decide (QhP l ((gd l k2).ctx) (k3:Int)=min (vat ((gd l k2).ctx) k3) 1048576))):=hρ
       subst hρ
       refine Qal (t:=!decide (QhP l ((gd l k2).ctx) (k3:Int)=min (vat ((gd l k2).ctx) k3) 1048576)) rfl (fun c13=>?_) (fun c13=>?_)
       ·
        replace c13:=QbL c13
        replace c13:=QQ2 c13
        refine Qag (Qab (Qaa (Qad (V:=.bool false) rfl (Qae (Qas ?_)))))
        refine ⟨_,Qao (V:=.bool false) Tryz.results51 rfl,?_⟩
        refine ⟨congrArg Ending.returned ?_,hs.take 0⟩
        exact congrArg Value.bool (Qkj (k:=k2) (r:=k3) (by omega) (by omega) c13).symm
       ·
        replace c13:=Qbr c13
        replace c13:=QQ1 c13
        refine Qan (Qab (Qaa (Qac (V:=I6 (k3:Int)) rfl (Qaa (Qav (a:=(k3:Int)) (b:=1) (c:=(k3:Int)+1) rfl rfl (Qbh (by omega) (by omega)) (Qaa (Qad (V:=I6 ((k3:Int)+1)) rfl (Qae ?_))))))))
        refine ⟨_,?_,_,k3+1,Qah (Qam (ds:=[2,5,36,37,38,39,40,41,42,43,44,45,46,47,48,49,50,51,52,53,54,55,56]) (by repeat (first|exact Agr.refl _ _|refine Agr.upd ?_ rfl|refine Agr.mix ?_ rfl))) rfl,(by omega),(fun r hr=>if e:r=k3 then by subst e;exact c13 else hr3 r (by omega)),rfl,hs.take 0⟩
        omega
      ·
       replace c10:=QQ2 c10
       refine Qaz (Qab (Qaa (Qac (V:=I6 (k2:Int)) rfl (Qaa (Qav (a:=(k2:Int)) (b:=1) (c:=(k2:Int)+1) rfl rfl (Qbh (by omega) (by omega)) (Qaa (Qad (V:=I6 ((k2:Int)+1)) rfl (Qae ?_))))))))
       refine ⟨_,?_,_,k2+1,Qah (Qam (ds:=[2,4,5,30,31,32,33,34,35,36,37,38,39,40,41,42,43,44,45,46,47,48,49,50,51,52,53,54,55,56]) (by repeat (first|exact Agr.refl _ _|refine Agr.upd ?_ rfl|refine Agr.mix ?_ rfl))) rfl,(by omega),(Qjt (p:=fun j=>QfQ l (gd l j)) hkn (Qku fun r hr=>hr3 r (by omega))),rfl,hs.take 0⟩
       omega
    ·
     replace c8:=QQ2 c8
     refine Qaz (Qag (Qab (Qaa (Qad (V:=.bool true) rfl (Qae (Qas ?_))))))
     refine ⟨_,Qao (V:=.bool true) Tryz.results51 rfl,?_⟩
     refine ⟨congrArg Ending.returned ?_,hs.take 0⟩
     exact congrArg Value.bool (Qiw (fun j hj=>hbad j (by omega)) fun j hj=>hkn j (by omega)).symm
end Tt
end Go.Proofs
namespace Go.Proofs
open Go Go.Vx Go.RowKit
namespace Tt
theorem QpR (w:World) (a:Option Addr) (c:Nat) (l:List Opn) (hl:∀ o∈l,QbH o) (hr:Rd w (.slice a l.length c) 23 (l.map oc)):Calls Tryz.prog 14 #[.slice a l.length c] w (fun e w'=>e = .returned (.bool (Qew l))∧Own w no w' []):=by
 refine Qai (n:=63) Tryz.func14 rfl Tryz.ntmps14 rfl ?_
 have hs:=Own.start w
 have hn:=hr.sml
 refine Qag (Qab (Qaa (Qad (V:=.bool false) rfl (Qae (Qag (Qag (Qbi [some 10,some 11,some 12,some 13,some 14,some 15,some 16,some 17] [] [0,1,3,7,15,31,63,127] [pv (.slice a l.length c),pv (I6 ((l.length:Nat):Int)),pv (.bool (decide (40<((l.length:Nat):Int)))),pv (.bool (decide (40<((l.length:Nat):Int)))),pg ((decide (40<((l.length:Nat):Int))) == false) (.slice a l.length c),pg ((decide (40<((l.length:Nat):Int))) == false) (.bool (QbV l)),pg ((decide (40<((l.length:Nat):Int))) == false) (.bool (!(QbV l))),pv (.bool ((decide (40<((l.length:Nat):Int)))||(!(QbV l))))] (fun _ _=>_) [7] (by kernel_rfl) hs ⟨?_,?_,?_,?_,?_,?_,?_,?_,trivial⟩ ?_)))))))
 ·exact ob [] [] rfl rfl fun D ρ w hs=>Qac (V:=.slice a l.length c) rfl ⟨rfl,hs⟩
 ·exact ob [0] [] rfl rfl fun D ρ w hs=>QaX (n:=l.length) Qbv (Rd.own' hr hs) (by simp) rfl ⟨rfl,hs⟩
 ·exact ob [1] [] rfl rfl fun D ρ w hs=>Qcb rfl rfl ⟨rfl,hs⟩
 ·exact ob [2] [] rfl rfl fun D ρ w hs=>Qac (V:=.bool (decide (40<((l.length:Nat):Int)))) rfl ⟨rfl,hs⟩
 ·refine obg [3] [] (decide (40<((l.length:Nat):Int))) rfl (fun _=>rfl) rfl (fun _ _ _ _ h=>h) fun D ρ w hG hs=>?_
  have hgd:=QQ2 (eq_of_beq hG)
  exact Qac (V:=.slice a l.length c) rfl ⟨rfl,hs⟩
 ·refine obgy [3,4] [] [4] (decide (40<((l.length:Nat):Int))) rfl (fun _=>rfl) rfl (fun _ _ _ _ h=>h) (fun hG=>⟨hG,trivial⟩) fun D ρ w hG hs=>?_
  have hgd:=QQ2 (eq_of_beq hG)
  exact Qar (vs:=[.slice a l.length c]) (V:=.bool (QbV l)) Qt9 rfl rfl (QiQ _ a c l hl (by omega) (Rd.own' hr hs)) hs fun _ hs=>⟨rfl,hs⟩
 ·refine obgy [3,5] [] [5] (decide (40<((l.length:Nat):Int))) rfl (fun _=>rfl) rfl (fun _ _ _ _ h=>h) (fun hG=>⟨hG,trivial⟩) fun D ρ w hG hs=>?_
  have hgd:=QQ2 (eq_of_beq hG)
  exact Qbw rfl ⟨rfl,hs⟩
 ·exact ob [3,6] [] rfl rfl fun D ρ w hs=>QbS (h':=!(QbV l)) rfl rfl rfl ⟨rfl,hs⟩
 rintro ρ1 w2 ρ2 hρ hs
 replace hρ:ρ2=upd (mix [10,11,12,13,14,15,16,17] ρ1 _) 17 (.bool ((decide (40<((l.length:Nat):Int)))||(!(QbV l)))):=hρ
 subst hρ
 refine Qal (t:=(decide (40<((l.length:Nat):Int)))||(!(QbV l))) rfl (fun c3=>?_) (fun c3=>?_)
 ·
  refine Qag (Qab (Qaa (Qad (V:=.bool false) rfl (Qae (Qas ?_)))))
  refine ⟨_,Qao (V:=.bool false) Tryz.results14 rfl,?_⟩
  refine ⟨congrArg Ending.returned ?_,hs.take 0⟩
  have hc:=c3
  rcases Nat.lt_or_ge 40 l.length with q|q
  ·exact congrArg Value.bool (QoI q).symm
  ·refine congrArg Value.bool (Qil ?_).symm
   rw [QQ4 (by omega)] at hc;simpa using hc
 ·
  have c3r:=Qfo c3
  replace c3:=Qfl c3
  replace c3:=QQ2 c3
  replace c3r:=Qbr c3r
  refine Qan (Qag (Qab (Qaa (QaJ (cs:=vc vzero) QrF rfl hs fun b4 w5 hs=>(Qae (Qag (Qag (Qab (Qaa (Qac (V:=.slice a l.length c) rfl (Qaa (QaX (n:=l.length) Qbv (Rd.own' hr hs) (by simp) rfl (Qaa (Qac (V:=I6 0) rfl (Qae (Qak (Qax (fun ρ μ ρ' w'=>∃ (ρo:Env) (k:Nat) (u:Vec),ρ'=upd (mix [2,5,20,21,22,23,24,25,26,27,28,29,30,31,32,33,34,35] ρo ρ) 20 (I6 (k:Int))∧(k≤l.length)∧(u=QbB (l.take k))∧(∀ j:Nat,j<k→decide (QbE (QbB (l.take j)) (gd l j)=0)=true)∧μ=l.length-k∧Own w no w' [blk b4 (vc u) 24]) ?_ ?_)))))))))))))))))
  ·exact ⟨_,_,0,vzero,Qah (Qam (ds:=[2,5,20,21,22,23,24,25,26,27,28,29,30,31,32,33,34,35]) (Agr.refl _ _)) rfl,(by omega),rfl,(fun j hj=>absurd hj (Nat.not_lt_zero j)),rfl,hs⟩
  ·rintro μ ρ' w6 ⟨ρo,k,u,rfl,hk,hu,hrd,rfl,hs⟩
   refine Qag (Qab (Qaa (QaP rfl rfl (Qae (Qag (Qal (t:=decide ((k:Int)<((l.length:Nat):Int))) rfl (fun c7=>?_) (fun c7=>?_)))))))
   ·
    replace c7:=QQ1 c7
    refine Qan (Qag (Qak (Qag (Qab (Qaa (Qat Qbv Qa0.1 (Rd.own' hr hs) rfl rfl (by omega) (by rw [QQ6];omega) (Qaa (QaZ (j:=0) (vs:=oc (gd l k)) k Qa0 (Rd.own' hr hs) (QaY (by omega)) rfl rfl rfl (by omega) (Qaa (QaJ (cs:=oc (⟨(⟨0,0⟩:Dot),0,0,0,0,0,vzero⟩:Opn)) Qj9 rfl hs fun b8 w9 hs=>(Qaa (QcC (V:=.agg (oc (gd l k)).toArray) (vs:=oc (gd l k)) (cs':=oc (gd l k)) Qa0.1 hs 1 rfl rfl rfl rfl rfl (QQ8 rfl) (Qfs _) (Qaw rfl) fun w10 hs=>(Qae (Qag (Qag (Qab (Qaa (QaR (cs:=vc u) QbT hs 0 rfl rfl rfl (Qaa (QaR (cs:=oc (gd l k)) Qa0 hs 1 rfl rfl rfl (Qaa (Qar (vs:=[.agg (vc u).toArray,.agg (oc (gd l k)).toArray]) (V:=I6 (QbE u (gd l k))) Qub rfl rfl ?hc hs fun w11 hs=>?_))))))))))))))))))))))
    case hc=>exact (QlY _ u (gd l k) (hl _ (Qbq (by omega))))
    refine Qaa (Qcr rfl rfl (Qae (Qal (t:=!decide (QbE u (gd l k)=0)) rfl (fun c12=>?_) (fun c12=>?_))))
    ·
     replace c12:=QbL c12
     replace c12:=QQ2 c12
     refine Qag (Qab (Qaa (Qad (V:=.bool false) rfl (Qae (Qas ?_)))))
     refine ⟨_,Qao (V:=.bool false) Tryz.results14 rfl,?_⟩
     refine ⟨congrArg Ending.returned ?_,hs.take 0⟩
     exact congrArg Value.bool (Qkd (k:=k) (by omega) (by rw [← hu];exact c12)).symm
    ·
     replace c12:=Qbr c12
     replace c12:=QQ1 c12
     refine Qan ?_
     have ⟨⟨⟨hp1,hp2⟩,hp3,hp4⟩,_⟩:=hl _ (Qbq (l:=l) (i:=k) (by omega))
     have hp5:=(QgC (hl _ (Qbq (l:=l) (i:=k) (by omega))) c12).1.r1
     refine Qab (Qaa (Qaf Qbg rfl (Qaa (Qaf QbK rfl (Qaa (QaK (V:=.int .u8 (((gd l k).dot).rep)) QcF hs 1 rfl rfl rfl (Qaa (Qaf Qbg rfl (Qaa (Qaf QbN rfl (Qaa (QaK (V:=.int .u32 (((gd l k).dot).seq)) Qa7 hs 1 rfl rfl rfl (Qaa (QbZ Qd5 Qa7.1 rfl rfl (by omega) (by omega) (Qaa (Qdd (V:=.int .u32 (((gd l k).dot).seq)) (cs':=vc (vset u (((gd l k).dot).rep).toNat (((gd l k).dot).seq))) Qa7 hs 0 rfl rfl rfl rfl (QrG (by omega)) (QmC (by omega) (by omega)) fun w13 hs=>?_))))))))))))))))
     replace hs:Own w no w13 [blk b4 (vc (vset u (((gd l k).dot).rep).toNat (((gd l k).dot).seq))) 24,blk b8 (oc (gd l k)) 33]:=hs
     refine Qae (Qab (Qaa (Qav (a:=(k:Int)) (b:=1) (c:=((k+1:Nat):Int)) rfl rfl (Qaj (by omega) (by omega)) (Qaa (Qac (V:=I6 ((k+1:Nat):Int)) rfl (Qae ?_))))))
     refine ⟨_,?_,_,k+1,vset u (((gd l k).dot).rep).toNat (((gd l k).dot).seq),Qah (Qam (ds:=[2,5,20,21,22,23,24,25,26,27,28,29,30,31,32,33,34,35]) (by repeat (first|exact Agr.refl _ _|refine Agr.upd ?_ rfl|refine Agr.mix ?_ rfl))) rfl,(by omega),(QjZ hu (by omega)),(Qjt hrd (QQ3 (by rw [← hu];exact c12))),rfl,hs.take 1⟩
     omega
   ·
    replace c7:=QQ2 c7
    refine Qaz (Qag (Qag (Qab (Qaa (Qac (V:=.slice a l.length c) rfl (Qaa (QaX (n:=l.length) Qbv (Rd.own' hr hs) (by simp) rfl (Qaa (Qac (V:=I6 0) rfl (Qae (Qak (Qax (fun ρ μ ρ' w'=>∃ (ρo:Env) (i2:Nat),ρ'=upd (mix [2,7,9,38,39,40,41,42,43,44,45,46,47,48,49,50,51,52,53,54,55,56,57,58,59,60,61,62] ρo ρ) 38 (I6 (i2:Int))∧(i2≤l.length)∧(∀ i,i<i2→∀ j,j<l.length→QiH l i j=false)∧μ=l.length-i2∧Own w no w' [blk b4 (vc u) 24]) ?_ ?_))))))))))))
    ·exact ⟨_,_,0,Qah (Qam (ds:=[2,7,9,38,39,40,41,42,43,44,45,46,47,48,49,50,51,52,53,54,55,56,57,58,59,60,61,62]) (Agr.refl _ _)) rfl,(by omega),(fun i hi=>absurd hi (Nat.not_lt_zero i)),rfl,hs⟩
    ·rintro μ ρ' w14 ⟨ρo,i2,rfl,hi2,hdp,rfl,hs⟩
     refine Qag (Qab (Qaa (QaP rfl rfl (Qae (Qag (Qal (t:=decide ((i2:Int)<((l.length:Nat):Int))) rfl (fun c15=>?_) (fun c15=>?_)))))))
     ·
      replace c15:=QQ1 c15
      refine Qan (Qag (Qak (Qag (Qab (Qaa (Qat Qbv Qa0.1 (Rd.own' hr hs) rfl rfl (by omega) (by rw [QQ6];omega) (Qaa (QaZ (j:=0) (vs:=oc (gd l i2)) i2 Qa0 (Rd.own' hr hs) (QaY (by omega)) rfl rfl rfl (by omega) (Qaa (QaJ (cs:=oc (⟨(⟨0,0⟩:Dot),0,0,0,0,0,vzero⟩:Opn)) Qj9 rfl hs fun b16 w17 hs=>(Qaa (QcC (V:=.agg (oc (gd l i2)).toArray) (vs:=oc (gd l i2)) (cs':=oc (gd l i2)) Qa0.1 hs 1 rfl rfl rfl rfl rfl (QQ8 rfl) (Qfs _) (Qaw rfl) fun w18 hs=>(Qae (Qag (Qab (Qaa (Qac (V:=.slice a l.length c) rfl (Qaa (QaX (n:=l.length) Qbv (Rd.own' hr hs) (by simp) rfl (Qaa (Qac (V:=I6 0) rfl (Qae (Qak (Qax (fun ρ μ ρ' w'=>∃ (ρo:Env) (j3:Nat),ρ'=upd (mix [2,9,44,45,46,47,48,49,50,51,52,53,54,55,56,57,58,59,60,61] ρo ρ) 44 (I6 (j3:Int))∧(j3≤l.length)∧(∀ j:Nat,j<j3→QiH l i2 j=false)∧μ=l.length-j3∧Own w no w' [blk b4 (vc u) 24,blk b16 (oc (gd l i2)) 33]) ?_ ?_))))))))))))))))))))))))
      ·exact ⟨_,_,0,Qah (Qam (ds:=[2,9,44,45,46,47,48,49,50,51,52,53,54,55,56,57,58,59,60,61]) (Agr.refl _ _)) rfl,(by omega),(fun j hj=>absurd hj (Nat.not_lt_zero j)),rfl,hs⟩
      ·rintro μ ρ' w19 ⟨ρo,j3,rfl,hj3,hdj,rfl,hs⟩
       refine Qag (Qab (Qaa (QaP rfl rfl (Qae (Qag (Qal (t:=decide ((j3:Int)<((l.length:Nat):Int))) rfl (fun c20=>?_) (fun c20=>?_)))))))
       ·
        replace c20:=QQ1 c20
        refine Qan (Qag (Qak (Qag (Qab (Qaa (Qat Qbv Qa0.1 (Rd.own' hr hs) rfl rfl (by omega) (by rw [QQ6];omega) (Qaa (QaZ (j:=0) (vs:=oc (gd l j3)) j3 Qa0 (Rd.own' hr hs) (QaY (by omega)) rfl rfl rfl (by omega) (Qaa (QaJ (cs:=oc (⟨(⟨0,0⟩:Dot),0,0,0,0,0,vzero⟩:Opn)) Qj9 rfl hs fun b21 w22 hs=>?_))))))))))
        replace hs:Own w no w22 [blk b4 (vc u) 24,blk b16 (oc (gd l i2)) 33,blk b21 (oc (⟨(⟨0,0⟩:Dot),0,0,0,0,0,vzero⟩:Opn)) 33]:=hs
        refine Qaa (QcC (V:=.agg (oc (gd l j3)).toArray) (vs:=oc (gd l j3)) (cs':=oc (gd l j3)) Qa0.1 hs 2 rfl rfl rfl rfl rfl (QQ8 rfl) (Qfs _) (Qaw rfl) fun w23 hs=>(Qae (Qag ?_)))
        have hdj3:=(hl _ (Qbq (l:=l) (i:=j3) (by omega))).1
        refine Qbi [some 48,some 49,some 50,some 51,some 52,some 53,some 54,some 55,some 56,some 57,some 58,some 59,some 60] [] [0,1,0,4,15,31,63,127,63,319,1023,2047,4095] [pv (Pt b16 (0+7)),pv (.agg (vc ((gd l i2).ctx)).toArray),pv (Pt b21 (0+0)),pv (.agg (dc ((gd l j3).dot)).toArray),pv (.bool (QbC ((gd l i2).ctx) ((gd l j3).dot))),pv (.bool (QbC ((gd l i2).ctx) ((gd l j3).dot))),pg ((QbC ((gd l i2).ctx) ((gd l j3).dot)) == true) (Pt b21 (0+7)),pg ((QbC ((gd l i2).ctx) ((gd l j3).dot)) == true) (.agg (vc ((gd l j3).ctx)).toArray),pg ((QbC ((gd l i2).ctx) ((gd l j3).dot)) == true) (Pt b16 (0+7)),pg ((QbC ((gd l i2).ctx) ((gd l j3).dot)) == true) (.agg (vc ((gd l i2).ctx)).toArray),pg ((QbC ((gd l i2).ctx) ((gd l j3).dot)) == true) (.bool (vle ((gd l j3).ctx) ((gd l i2).ctx))),pg ((QbC ((gd l i2).ctx) ((gd l j3).dot)) == true) (.bool (!(vle ((gd l j3).ctx) ((gd l i2).ctx)))),pv (.bool ((QbC ((gd l i2).ctx) ((gd l j3).dot))&&(!(vle ((gd l j3).ctx) ((gd l i2).ctx)))))] (fun _ _=>_) [12] (by kernel_rfl) hs ⟨?_,?_,?_,?_,?_,?_,?_,?_,?_,?_,?_,?_,?_,trivial⟩ ?_
        ·exact ob [] [] rfl rfl fun D ρ w hs=>Qaf Qcn rfl ⟨rfl,hs⟩
        ·exact ob [0] [] rfl rfl fun D ρ w hs=>QbO (vs:=vc ((gd l i2).ctx)) QbT hs 1 rfl rfl rfl rfl ⟨rfl,hs⟩
        ·exact ob [] [] rfl rfl fun D ρ w hs=>Qaf Qbg rfl ⟨rfl,hs⟩
        ·exact ob [2] [] rfl rfl fun D ρ w hs=>QbO (vs:=dc ((gd l j3).dot)) Qcv hs 2 rfl rfl rfl rfl ⟨rfl,hs⟩
        ·exact ob [1,3] [] rfl rfl fun D ρ w hs=>Qar (vs:=[.agg (vc ((gd l i2).ctx)).toArray,.agg (dc ((gd l j3).dot)).toArray]) (V:=.bool (QbC ((gd l i2).ctx) ((gd l j3).dot))) Qnl rfl rfl (QgZ _ ((gd l i2).ctx) ((gd l j3).dot) (by first|assumption|exact QcZ (by omega) (by omega) (by omega) (by omega))) hs fun _ hs=>⟨rfl,hs⟩
        ·exact ob [4] [] rfl rfl fun D ρ w hs=>Qac (V:=.bool (QbC ((gd l i2).ctx) ((gd l j3).dot))) rfl ⟨rfl,hs⟩
        ·exact obg [5] [] (QbC ((gd l i2).ctx) ((gd l j3).dot)) rfl (fun _=>rfl) rfl (fun _ _ _ _ h=>h) fun D ρ w hG hs=>Qaf Qcn rfl ⟨rfl,hs⟩
        ·exact obgy [5,6] [] [6] (QbC ((gd l i2).ctx) ((gd l j3).dot)) rfl (fun _=>rfl) rfl (fun _ _ _ _ h=>h) (fun hG=>⟨hG,trivial⟩) fun D ρ w hG hs=>QbO (vs:=vc ((gd l j3).ctx)) QbT hs 2 rfl rfl rfl rfl ⟨rfl,hs⟩
        ·exact obg [5] [] (QbC ((gd l i2).ctx) ((gd l j3).dot)) rfl (fun _=>rfl) rfl (fun _ _ _ _ h=>h) fun D ρ w hG hs=>Qaf Qcn rfl ⟨rfl,hs⟩
        ·exact obgy [5,8] [] [8] (QbC ((gd l i2).ctx) ((gd l j3).dot)) rfl (fun _=>rfl) rfl (fun _ _ _ _ h=>h) (fun hG=>⟨hG,trivial⟩) fun D ρ w hG hs=>QbO (vs:=vc ((gd l i2).ctx)) QbT hs 1 rfl rfl rfl rfl ⟨rfl,hs⟩
        ·exact obgy [5,7,9] [] [7,9] (QbC ((gd l i2).ctx) ((gd l j3).dot)) rfl (fun _=>rfl) rfl (fun _ _ _ _ h=>h) (fun hG=>⟨hG,hG,trivial⟩) fun D ρ w hG hs=>Qar (vs:=[.agg (vc ((gd l j3).ctx)).toArray,.agg (vc ((gd l i2).ctx)).toArray]) (V:=.bool (vle ((gd l j3).ctx) ((gd l i2).ctx))) QrR rfl rfl (Qif _ ((gd l j3).ctx) ((gd l i2).ctx)) hs fun _ hs=>⟨rfl,hs⟩
        ·exact obgy [5,10] [] [10] (QbC ((gd l i2).ctx) ((gd l j3).dot)) rfl (fun _=>rfl) rfl (fun _ _ _ _ h=>h) (fun hG=>⟨hG,trivial⟩) fun D ρ w hG hs=>Qbw rfl ⟨rfl,hs⟩
        ·exact ob [5,11] [] rfl rfl fun D ρ w hs=>Qa3 (h':=!(vle ((gd l j3).ctx) ((gd l i2).ctx))) rfl rfl rfl ⟨rfl,hs⟩
        rintro ρ1 w26 ρ2 hρ hs
        replace hρ:ρ2=upd (mix [48,49,50,51,52,53,54,55,56,57,58,59,60] ρ1 _) 60 (.bool ((QbC ((gd l i2).ctx) ((gd l j3).dot))&&(!(vle ((gd l j3).ctx) ((gd l i2).ctx))))):=hρ
        subst hρ
        refine Qal (t:=(QbC ((gd l i2).ctx) ((gd l j3).dot))&&(!(vle ((gd l j3).ctx) ((gd l i2).ctx)))) rfl (fun c27=>?_) (fun c27=>?_)
        ·
         have c27r:=Qcd c27
         replace c27:=QbQ c27
         replace c27r:=QbL c27r
         refine Qag (Qab (Qaa (Qad (V:=.bool false) rfl (Qae (Qas ?_)))))
         refine ⟨_,Qao (V:=.bool false) Tryz.results14 rfl,?_⟩
         refine ⟨congrArg Ending.returned ?_,hs.take 0⟩
         exact congrArg Value.bool (Ql5 (i:=i2) (j:=j3) (by omega) (by omega) (by unfold QiH;rw [c27,c27r];rfl)).symm
        ·
         refine Qan (Qab (Qaa (Qav (a:=(j3:Int)) (b:=1) (c:=((j3+1:Nat):Int)) rfl rfl (Qaj (by omega) (by omega)) (Qaa (Qac (V:=I6 ((j3+1:Nat):Int)) rfl (Qae ?_))))))
         refine ⟨_,?_,_,j3+1,Qah (Qam (ds:=[2,9,44,45,46,47,48,49,50,51,52,53,54,55,56,57,58,59,60,61]) (by repeat (first|exact Agr.refl _ _|refine Agr.upd ?_ rfl|refine Agr.mix ?_ rfl))) rfl,(by omega),(Qdh hdj (by unfold QiH;exact c27)),rfl,hs.take 2⟩
         omega
       ·
        replace c20:=QQ2 c20
        refine Qaz (Qab (Qaa (Qav (a:=(i2:Int)) (b:=1) (c:=((i2+1:Nat):Int)) rfl rfl (Qaj (by omega) (by omega)) (Qaa (Qac (V:=I6 ((i2+1:Nat):Int)) rfl (Qae ?_))))))
        refine ⟨_,?_,_,i2+1,Qah (Qam (ds:=[2,7,9,38,39,40,41,42,43,44,45,46,47,48,49,50,51,52,53,54,55,56,57,58,59,60,61,62]) (by repeat (first|exact Agr.refl _ _|refine Agr.upd ?_ rfl|refine Agr.mix ?_ rfl))) rfl,(by omega),(fun i hi j hj=>by
 rcases Nat.lt_or_eq_of_le (Nat.le_of_lt_succ hi) with q|q
 ·exact hdp i q j hj
 ·subst q;exact hdj j (by omega)),rfl,hs.take 1⟩
        omega
     ·
      replace c15:=QQ2 c15
      refine Qaz (Qag (Qab (Qaa (Qad (V:=.bool true) rfl (Qae (Qas ?_))))))
      refine ⟨_,Qao (V:=.bool true) Tryz.results14 rfl,?_⟩
      refine ⟨congrArg Ending.returned ?_,hs.take 0⟩
      exact congrArg Value.bool (QnS (by omega) c3r (fun k hk=>QQ1 (hrd k (by omega))) fun i hi j hj=>hdp i (by omega) j hj).symm
end Tt
end Go.Proofs
namespace Go.Proofs
open Go Go.Vx Go.RowKit
namespace Tt
theorem QoL (w:World) (S:Nat→Prop) (a:Option Addr) (c:Nat) (l:List Lst) (i:Nat) (hi:i≤l.length) (x:Lst) (b:Option Addr) (c2:Nat) (hv:Rd w (.slice b 1 c2) 2 (List.map lsc [x])) (hpl:Qd1 w (.slice b 1 c2)) (hnS:¬S (bkS (.slice b 1 c2))) (hvb:bkS (.slice b 1 c2)<w.heap.size) (hN:(l.length+1)*9≤140737488355328) (hR:(row (.slice a l.length c) (l.map lsc) 87 2).holds w S) (hlt:∀ b,S b→b<w.heap.size):Calls Tryz.prog 80 #[.slice a l.length c,.int .i64 (i:Int),.slice b 1 c2] w (fun e w'=>∃ x':Option Addr × Nat,e = .returned (.slice x'.1 (Qdo l i x).length x'.2)∧Own w S w' [row (.slice x'.1 (Qdo l i x).length x'.2) ((Qdo l i x).map lsc) 87 2]∧True):=by
 refine Qai (n:=95) Tryz.func80 rfl Tryz.ntmps80 rfl ?_
 have hs:=Own.lent hR hlt
 have hn:=(hs.rd 0 rfl).sml
 have hlc:=(hs.rd 0 rfl).roomM
 have hvo:∀ (w1:World) (L1:List Res),Own w S w1 L1→Rd w1 (.slice b 1 c2) 2 (List.map lsc [x]):=fun w1 L1 h=>hv.own h hnS
 refine Qag (Qab (Qaa (Qad (V:=.slice none 0 0) rfl (Qae (Qag (Qab (Qaa (Qac (V:=.slice a l.length c) rfl (Qaa (Qac (V:=I6 (i:Int)) rfl (Qaa (QoS (l:=i) (h:=l.length) (m:=c) (n':=(l.drop i).length) QdN Qcs.1 (hs.rd 0 rfl) rfl (.inr ⟨_,_,rfl,rfl⟩) (.inl ⟨rfl,rfl⟩) (.inl ⟨rfl,rfl⟩) (by omega) (by omega) (Nat.le_trans (show l.length≤l.length by omega) (Rd.roomM (hs.rd 0 rfl))) (Nat.le_refl _) (by simp only [List.length_take,List.length_drop]<;>omega) ?_))))))))))))
 refine Qae (Qag (Qab (Qaa (Qac (V:=.slice b 1 c2) rfl (Qaa (Qbb (V:=I6 (1:Int)) (V':=I6 1) (QaX (n:=1) Qei (hvo _ _ hs) (by simp) rfl ⟨rfl,rfl⟩) rfl (Qaa (Qad (V:=I6 1) rfl (Qae (Qag (Qag (Qab (Qaa (Qac (V:=I6 1) rfl (Qaa (Qbb (V:=.bool (decide ((1:Int)=0))) (V':=.bool false) (QaM rfl rfl ⟨rfl,rfl⟩) (congrArg Value.bool (by decide)) (Qae (Qb3 rfl ?_))))))))))))))))))
 refine Qan (Qag (Qab (Qaa (Qac (V:=.slice a l.length c) rfl (Qaa (QaX (n:=l.length) Qei (hs.rd 0 rfl) (by simp) rfl (Qaa (Qad (V:=I6 ((l.length:Nat):Int)) rfl (Qae (Qag (Qag (Qab (Qaa (Qac (V:=I6 (i:Int)) rfl (Qaa (Qac (V:=I6 ((l.length:Nat):Int)) rfl (Qaa (QaM rfl rfl (Qae (Qal (t:=decide ((i:Int)=((l.length:Nat):Int))) rfl (fun c1=>?_) (fun c1=>?_)))))))))))))))))))))
 ·
  replace c1:=QQ1 c1
  refine Qag (Qab (Qaa (Qac (V:=.slice a l.length c) rfl (Qaa (Qac (V:=.slice b 1 c2) rfl (Qaa (Qdl (ls':=(l++[x]).map lsc) (n:=(l++[x]).length) Qg9 hs 0 rfl rfl rfl (hvo _ _ hs) (QaU Qcw _) (by simp only [QQ6,QQ7,List.length_cons,List.length_nil];omega) (by simp) (by simp) fun a2 c2 w3 hs=>(Qaa (Qad (V:=.slice a2 ((l++[x]).length) c2) rfl (Qae (Qas ?_)))))))))))
  refine ⟨_,Qao (V:=.slice a2 ((l++[x]).length) c2) Tryz.results80 rfl,?_⟩
  have hX:l++[x]=Qdo l i x:=Qje (by omega)
  rw [hX] at hs
  exact ⟨(a2,c2),by rw [← hX],hs.only 0 rfl,trivial⟩
 ·
  replace c1:=QQ2 c1
  refine Qan (Qag (Qag (Qab (Qaa (Qac (V:=I6 ((l.length:Nat):Int)) rfl (Qaa (Qac (V:=I6 1) rfl (Qaa (Qav (a:=((l.length:Nat):Int)) (b:=1) (c:=((l.length+1:Nat):Int)) rfl rfl (Qaj (by omega) (by omega)) (Qaa (Qac (V:=.slice a l.length c) rfl (Qaa (Qo8 Qei rfl (Qaa (Qcb rfl rfl (Qae (Qal (t:=decide ((c:Int)<((l.length+1:Nat):Int))) rfl (fun c4=>?_) (fun c4=>?_))))))))))))))))))
  ·
   replace c4:=QQ1 c4
   refine Qag (Qab (Qaa (Qac (V:=.slice a l.length c) rfl (Qaa (Qac (V:=I6 (i:Int)) rfl (Qaa (QdW (l:=0) (h:=i) (n':=i) QdN Qcs.1 (by omega) rfl (.inl ⟨rfl,rfl⟩) (.inr ⟨_,_,rfl,rfl⟩) (by omega) (by omega) (by omega) (Qaa (Qac (V:=I6 ((l.length:Nat):Int)) rfl (Qaa (Qac (V:=I6 1) rfl (Qaa (Qav (a:=((l.length:Nat):Int)) (b:=1) (c:=((l.length+1:Nat):Int)) rfl rfl (Qaj (by omega) (by omega)) (Qaa (Qac (V:=I6 (i:Int)) rfl (Qaa (Qa4 (a:=((l.length+1:Nat):Int)) (b:=(i:Int)) (c:=(((l.length+1)-i:Nat):Int)) rfl rfl (Qaj (by omega) (by omega)) (Qaa (QoX (zl:=lsc (⟨0,0⟩:Lst)) (ls':=(l.take i++List.replicate ((l.length+1)-i) (⟨0,0⟩:Lst)).map lsc) Qg9 Qso (.inl Qm3) hs (hs.rd 0 rfl) rfl rfl (by rw [QQ6];omega) (by rw [QQ6];omega) (by omega) (by omega) (QaU Qcw _) (Qcw _) rfl (by omega) (by simp only [List.map_append,List.map_take,List.map_replicate]) (l.take i++List.replicate ((l.length+1)-i) (⟨0,0⟩:Lst)).length (by rw [QQ6]) fun a5 c5 w6 hs=>(Qaa (Qad (V:=.slice a5 ((l.take i++List.replicate ((l.length+1)-i) (⟨0,0⟩:Lst)).length) c5) rfl (Qae (Qag ?_)))))))))))))))))))))))
   have hq9:(l.take i++List.replicate ((l.length+1)-i) (⟨0,0⟩:Lst)).length=l.length+1:=by simp only [QQ7,List.length_take,List.length_replicate];omega
   have hr9:=(hs.rd 1 rfl).roomM
   refine Qab (Qaa (Qac (V:=.slice a5 ((l.take i++List.replicate ((l.length+1)-i) (⟨0,0⟩:Lst)).length) c5) rfl (Qaa (Qac (V:=I6 (i:Int)) rfl (Qaa (QdW (l:=i) (h:=(l.take i++List.replicate ((l.length+1)-i) (⟨0,0⟩:Lst)).length) (n':=((l.take i++List.replicate ((l.length+1)-i) (⟨0,0⟩:Lst)).length)-i) QdN Qcs.1 (by omega) rfl (.inr ⟨_,_,rfl,rfl⟩) (.inl ⟨rfl,rfl⟩) (by omega) (by omega) (by omega) (Qaa (Qac (V:=.slice b 1 c2) rfl (Qaa (Qdi (lo:=i) (ms:=[x].map lsc) (ls':=((l.take i++List.replicate ((l.length+1)-i) (⟨0,0⟩:Lst)).take i++[x]++(l.take i++List.replicate ((l.length+1)-i) (⟨0,0⟩:Lst)).drop (i+[x].length)).map lsc) (n':=((l.take i++List.replicate ((l.length+1)-i) (⟨0,0⟩:Lst)).take i++[x]++(l.take i++List.replicate ((l.length+1)-i) (⟨0,0⟩:Lst)).drop (i+[x].length)).length) Qg9 hs 1 rfl rfl rfl (by simp only [QQ6,List.length_drop,List.length_take,List.length_cons,List.length_nil,QQ7,List.length_replicate];omega) (Rd.srcs (hvo _ _ hs)) (Qbl (enc:=lsc) (fun _=>rfl) _) (QaU Qcw _) (by simp only [QQ6,List.length_drop,List.length_take,List.length_cons,List.length_nil,QQ7,List.length_replicate];omega) (by simp only [QQ6,List.length_drop,List.length_take,List.length_cons,List.length_nil,QQ7,List.length_replicate];omega) (by simp only [List.map_append,List.map_take,List.map_drop,List.map_cons,List.map_nil,QQ6,List.length_drop,List.length_take,List.length_cons,List.length_nil]) (by rw [QQ6]) fun w7 hs=>(Qae (Qag (QaC HM [some 46,some 47,some 48,some 49,some 50,some 51,some 52,some 53,some 54] [] [0,0,0,6,15,0,0,96,255] [pv (.slice a5 ((l.take i++List.replicate ((l.length+1)-i) (⟨0,0⟩:Lst)).length) c5),pv (I6 (i:Int)),pv (I6 1),pv (I6 ((i+1:Nat):Int)),pv (.slice (sla a5 (i+1) c5 2) (((l.take i++List.replicate ((l.length+1)-i) (⟨0,0⟩:Lst)).length)-(i+1)) (c5-(i+1))),pv (.slice a l.length c),pv (I6 (i:Int)),pv (.slice (sla a i c 2) ((l.drop i).length) (c-i)),pv (I6 (((List.map lsc (l.drop i)).length:Nat):Int))] (fun D ρ=>[row (.slice a l.length c) (l.map lsc) 87 2,cond (D 8) (row (.slice a5 ((((l.take i++List.replicate ((l.length+1)-i) (⟨0,0⟩:Lst)).take i++[x]++(l.take i++List.replicate ((l.length+1)-i) (⟨0,0⟩:Lst)).drop (i+[x].length)).take (i+1)++l.drop i++((l.take i++List.replicate ((l.length+1)-i) (⟨0,0⟩:Lst)).take i++[x]++(l.take i++List.replicate ((l.length+1)-i) (⟨0,0⟩:Lst)).drop (i+[x].length)).drop (i+1+(l.drop i).length)).length) c5) ((((l.take i++List.replicate ((l.length+1)-i) (⟨0,0⟩:Lst)).take i++[x]++(l.take i++List.replicate ((l.length+1)-i) (⟨0,0⟩:Lst)).drop (i+[x].length)).take (i+1)++l.drop i++((l.take i++List.replicate ((l.length+1)-i) (⟨0,0⟩:Lst)).take i++[x]++(l.take i++List.replicate ((l.length+1)-i) (⟨0,0⟩:Lst)).drop (i+[x].length)).drop (i+1+(l.drop i).length)).map lsc) 87 2) (row (.slice a5 (((l.take i++List.replicate ((l.length+1)-i) (⟨0,0⟩:Lst)).take i++[x]++(l.take i++List.replicate ((l.length+1)-i) (⟨0,0⟩:Lst)).drop (i+[x].length)).length) c5) (((l.take i++List.replicate ((l.length+1)-i) (⟨0,0⟩:Lst)).take i++[x]++(l.take i++List.replicate ((l.length+1)-i) (⟨0,0⟩:Lst)).drop (i+[x].length)).map lsc) 87 2)]) [] (by kernel_rfl) hs ⟨?_,?_,?_,?_,?_,?_,?_,?_,?_,trivial⟩ ?_)))))))))))))
   ·exact ob [] [] rfl rfl fun D ρ w hs=>Qac (V:=.slice a5 ((l.take i++List.replicate ((l.length+1)-i) (⟨0,0⟩:Lst)).length) c5) rfl ⟨rfl,hs⟩
   ·exact ob [] [] rfl rfl fun D ρ w hs=>Qac (V:=I6 (i:Int)) rfl ⟨rfl,hs⟩
   ·exact ob [] [] rfl rfl fun D ρ w hs=>Qac (V:=I6 1) rfl ⟨rfl,hs⟩
   ·exact ob [1,2] [] rfl rfl fun D ρ w hs=>Qav (a:=(i:Int)) (b:=1) (c:=((i+1:Nat):Int)) rfl rfl (Qaj (by omega) (by omega)) ⟨rfl,hs⟩
   ·exact ob [0,3] [] rfl rfl fun D ρ w hs=>QdW (l:=i+1) (h:=(l.take i++List.replicate ((l.length+1)-i) (⟨0,0⟩:Lst)).length) (n':=((l.take i++List.replicate ((l.length+1)-i) (⟨0,0⟩:Lst)).length)-(i+1)) QdN Qcs.1 (by omega) rfl (.inr ⟨_,_,rfl,rfl⟩) (.inl ⟨rfl,rfl⟩) (by omega) (by omega) (by omega) ⟨rfl,hs⟩
   ·exact ob [] [] rfl rfl fun D ρ w hs=>Qac (V:=.slice a l.length c) rfl ⟨rfl,hs⟩
   ·exact ob [] [] rfl rfl fun D ρ w hs=>Qac (V:=I6 (i:Int)) rfl ⟨rfl,hs⟩
   ·exact ob [5,6] [] rfl rfl fun D ρ w hs=>QoS (l:=i) (h:=l.length) (m:=c) (n':=(l.drop i).length) QdN Qcs.1 (hs.rd 0 rfl) rfl (.inr ⟨_,_,rfl,rfl⟩) (.inl ⟨rfl,rfl⟩) (.inl ⟨rfl,rfl⟩) (by omega) (by omega) (Nat.le_trans (show l.length≤l.length by omega) (Rd.roomM (hs.rd 0 rfl))) (Nat.le_refl _) (by simp only [List.length_take,List.length_drop]<;>omega) ⟨rfl,hs⟩
   ·exact ob [4,7] [] rfl rfl fun D ρ w hs=>Qdi (lo:=i+1) (ms:=(l.drop i).map lsc) (ls':=(((l.take i++List.replicate ((l.length+1)-i) (⟨0,0⟩:Lst)).take i++[x]++(l.take i++List.replicate ((l.length+1)-i) (⟨0,0⟩:Lst)).drop (i+[x].length)).take (i+1)++l.drop i++((l.take i++List.replicate ((l.length+1)-i) (⟨0,0⟩:Lst)).take i++[x]++(l.take i++List.replicate ((l.length+1)-i) (⟨0,0⟩:Lst)).drop (i+[x].length)).drop (i+1+(l.drop i).length)).map lsc) (n':=(((l.take i++List.replicate ((l.length+1)-i) (⟨0,0⟩:Lst)).take i++[x]++(l.take i++List.replicate ((l.length+1)-i) (⟨0,0⟩:Lst)).drop (i+[x].length)).take (i+1)++l.drop i++((l.take i++List.replicate ((l.length+1)-i) (⟨0,0⟩:Lst)).take i++[x]++(l.take i++List.replicate ((l.length+1)-i) (⟨0,0⟩:Lst)).drop (i+[x].length)).drop (i+1+(l.drop i).length)).length) Qg9 hs 1 rfl rfl rfl (by simp only [QQ6,List.length_drop,List.length_take,List.length_cons,List.length_nil,QQ7,List.length_replicate];omega) (Rd.srcs (Rd.dropM (hs.rd 0 rfl) i hi _ rfl)) (Qbl (enc:=lsc) (fun _=>rfl) _) (QaU Qcw _) (by simp only [QQ6,List.length_drop,List.length_take,List.length_cons,List.length_nil,QQ7,List.length_replicate];omega) (by simp only [QQ6,List.length_drop,List.length_take,List.length_cons,List.length_nil,QQ7,List.length_replicate];omega) (by simp only [List.map_append,List.map_take,List.map_drop,List.map_cons,List.map_nil,QQ6,List.length_drop,List.length_take,List.length_cons,List.length_nil]) (by rw [QQ6]) fun _ hs=>⟨rfl,hs⟩
   rintro ρ1 w9 ρ2 hρ hs
   replace hρ:ρ2=mix [46,47,48,49,50,51,52,53,54] ρ1 _:=hρ
   replace hs:Own w S w9 [row (.slice a l.length c) (l.map lsc) 87 2,row (.slice a5 ((((l.take i++List.replicate ((l.length+1)-i) (⟨0,0⟩:Lst)).take i++[x]++(l.take i++List.replicate ((l.length+1)-i) (⟨0,0⟩:Lst)).drop (i+[x].length)).take (i+1)++l.drop i++((l.take i++List.replicate ((l.length+1)-i) (⟨0,0⟩:Lst)).take i++[x]++(l.take i++List.replicate ((l.length+1)-i) (⟨0,0⟩:Lst)).drop (i+[x].length)).drop (i+1+(l.drop i).length)).length) c5) ((((l.take i++List.replicate ((l.length+1)-i) (⟨0,0⟩:Lst)).take i++[x]++(l.take i++List.replicate ((l.length+1)-i) (⟨0,0⟩:Lst)).drop (i+[x].length)).take (i+1)++l.drop i++((l.take i++List.replicate ((l.length+1)-i) (⟨0,0⟩:Lst)).take i++[x]++(l.take i++List.replicate ((l.length+1)-i) (⟨0,0⟩:Lst)).drop (i+[x].length)).drop (i+1+(l.drop i).length)).map lsc) 87 2]:=hs
   subst hρ
   refine Qag (Qab (Qaa (Qac (V:=.slice a5 ((l.take i++List.replicate ((l.length+1)-i) (⟨0,0⟩:Lst)).length) c5) rfl (Qaa (Qad (V:=.slice a5 ((l.take i++List.replicate ((l.length+1)-i) (⟨0,0⟩:Lst)).length) c5) rfl (Qae (Qas ?_)))))))
   refine ⟨_,Qao (V:=.slice a5 ((l.take i++List.replicate ((l.length+1)-i) (⟨0,0⟩:Lst)).length) c5) Tryz.results80 rfl,?_⟩
   have hX:((l.take i++List.replicate ((l.length+1)-i) (⟨0,0⟩:Lst)).take i++[x]++(l.take i++List.replicate ((l.length+1)-i) (⟨0,0⟩:Lst)).drop (i+[x].length)).take (i+1)++l.drop i++((l.take i++List.replicate ((l.length+1)-i) (⟨0,0⟩:Lst)).take i++[x]++(l.take i++List.replicate ((l.length+1)-i) (⟨0,0⟩:Lst)).drop (i+[x].length)).drop (i+1+(l.drop i).length)=Qdo l i x:=Qjf hi
   rw [hX] at hs
   exact ⟨(a5,c5),by rw [hq9,QfD hi],hs.only 1 rfl,trivial⟩
  ·
   replace c4:=QQ2 c4
   refine Qan (Qag (Qab (Qaa (Qac (V:=.slice a l.length c) rfl (Qaa (Qac (V:=I6 ((l.length:Nat):Int)) rfl (Qaa (Qac (V:=I6 1) rfl (Qaa (Qav (a:=((l.length:Nat):Int)) (b:=1) (c:=((l.length+1:Nat):Int)) rfl rfl (Qaj (by omega) (by omega)) (Qaa (Qbb (V:=.slice (sla a 0 c 2) (l.length+1) (c-0)) (V':=.slice a (l.length+1) c) (QdW (l:=0) (h:=l.length+1) (n':=l.length+1) QdN Qcs.1 (by omega) rfl (.inl ⟨rfl,rfl⟩) (.inr ⟨_,_,rfl,rfl⟩) (by omega) (by omega) (by omega) ⟨rfl,rfl⟩) (by rw [QfF];rfl) (Qaa (Qad (V:=.slice a (l.length+1) c) rfl (Qae (Qag (Qag (Qab (Qaa (Qac (V:=.slice b 1 c2) rfl (Qaa (Qac (V:=.slice a (l.length+1) c) rfl (Qaa (Qac (V:=I6 (i:Int)) rfl (Qaa (Qac (V:=I6 1) rfl (Qaa (Qav (a:=(i:Int)) (b:=1) (c:=((i+1:Nat):Int)) rfl rfl (Qaj (by omega) (by omega)) (Qaa (QdW (l:=i+1) (h:=l.length+1) (n':=(l.length+1)-(i+1)) QdN Qcs.1 (by omega) rfl (.inr ⟨_,_,rfl,rfl⟩) (.inl ⟨rfl,rfl⟩) (by omega) (by omega) (by omega) (Qaa (Qls (f:=107) (tR:=4) (lo:=i+1) Tryz.func107 (by kernel_rfl) (by kernel_rfl) (by kernel_rfl) (by kernel_rfl) QdN Qcs.1 rfl hs 0 rfl (by rw [QQ6];omega) (by decide) rfl (hpl.own hs hnS) hnS hvb (by omega) rfl (Qaa (Qbw rfl (Qae (Qc6 rfl ?_))))))))))))))))))))))))))))))))))))
   refine Qag (QaC HM [some 69,some 70,some 71,some 72,some 73,some 74,some 75,some 76,some 77] [] [0,0,0,6,15,0,0,96,255] [pv (.slice a (l.length+1) c),pv (I6 (i:Int)),pv (I6 1),pv (I6 ((i+1:Nat):Int)),pv (.slice (sla a (i+1) c 2) ((l.length+1)-(i+1)) (c-(i+1))),pv (.slice a (l.length+1) c),pv (I6 (i:Int)),pv (.slice (sla a i c 2) ((l.length+1)-i) (c-i)),pv (I6 (((List.map lsc (l.drop i)).length:Nat):Int))] (fun D ρ=>[cond (D 8) (row (.slice a ((l.take (i+1)++l.drop i++l.drop (i+1+(l.drop i).length)).length) c) ((l.take (i+1)++l.drop i++l.drop (i+1+(l.drop i).length)).map lsc) 87 2) (row (.slice a l.length c) (l.map lsc) 87 2)]) [] (by kernel_rfl) hs ⟨?_,?_,?_,?_,?_,?_,?_,?_,?_,trivial⟩ ?_)
   ·exact ob [] [] rfl rfl fun D ρ w hs=>Qac (V:=.slice a (l.length+1) c) rfl ⟨rfl,hs⟩
   ·exact ob [] [] rfl rfl fun D ρ w hs=>Qac (V:=I6 (i:Int)) rfl ⟨rfl,hs⟩
   ·exact ob [] [] rfl rfl fun D ρ w hs=>Qac (V:=I6 1) rfl ⟨rfl,hs⟩
   ·exact ob [1,2] [] rfl rfl fun D ρ w hs=>Qav (a:=(i:Int)) (b:=1) (c:=((i+1:Nat):Int)) rfl rfl (Qaj (by omega) (by omega)) ⟨rfl,hs⟩
   ·exact ob [0,3] [] rfl rfl fun D ρ w hs=>QdW (l:=i+1) (h:=l.length+1) (n':=(l.length+1)-(i+1)) QdN Qcs.1 (by omega) rfl (.inr ⟨_,_,rfl,rfl⟩) (.inl ⟨rfl,rfl⟩) (by omega) (by omega) (by omega) ⟨rfl,hs⟩
   ·exact ob [] [] rfl rfl fun D ρ w hs=>Qac (V:=.slice a (l.length+1) c) rfl ⟨rfl,hs⟩
   ·exact ob [] [] rfl rfl fun D ρ w hs=>Qac (V:=I6 (i:Int)) rfl ⟨rfl,hs⟩
   ·exact ob [5,6] [] rfl rfl fun D ρ w hs=>QdW (l:=i) (h:=l.length+1) (n':=(l.length+1)-i) QdN Qcs.1 (by omega) rfl (.inr ⟨_,_,rfl,rfl⟩) (.inl ⟨rfl,rfl⟩) (by omega) (by omega) (by omega) ⟨rfl,hs⟩
   ·exact ob [4,7] [] rfl rfl fun D ρ w hs=>Qdi (lo:=i+1) (ms:=(l.drop i).map lsc) (ls':=(l.take (i+1)++l.drop i++l.drop (i+1+(l.drop i).length)).map lsc) (n':=(l.take (i+1)++l.drop i++l.drop (i+1+(l.drop i).length)).length) Qg9 hs 0 rfl rfl rfl (by simp only [QQ6,List.length_drop,List.length_take,List.length_cons,List.length_nil,QQ7,List.length_replicate];omega) (Rd.srcs (Rd.dropM (hs.rd 0 rfl) i hi _ rfl)) (Qbl (enc:=lsc) (fun _=>rfl) _) (QaU Qcw _) (by simp only [QQ6,List.length_drop,List.length_take,List.length_cons,List.length_nil,QQ7,List.length_replicate];omega) (by simp only [QQ6,List.length_drop,List.length_take,List.length_cons,List.length_nil,QQ7,List.length_replicate];omega) (by simp only [List.map_append,List.map_take,List.map_drop,List.map_cons,List.map_nil,QQ6,List.length_drop,List.length_take,List.length_cons,List.length_nil]) (by rw [QQ6]) fun _ hs=>⟨rfl,hs⟩
   rintro ρ1 w11 ρ2 hρ hs
   replace hρ:ρ2=mix [69,70,71,72,73,74,75,76,77] ρ1 _:=hρ
   replace hs:Own w S w11 [row (.slice a ((l.take (i+1)++l.drop i++l.drop (i+1+(l.drop i).length)).length) c) ((l.take (i+1)++l.drop i++l.drop (i+1+(l.drop i).length)).map lsc) 87 2]:=hs
   subst hρ
   refine Qag (Qab (Qaa (Qac (V:=.slice a (l.length+1) c) rfl (Qaa (Qac (V:=I6 (i:Int)) rfl (Qaa (QdW (l:=i) (h:=l.length+1) (n':=(l.length+1)-i) QdN Qcs.1 (by omega) rfl (.inr ⟨_,_,rfl,rfl⟩) (.inl ⟨rfl,rfl⟩) (by omega) (by omega) (by omega) (Qaa (Qac (V:=.slice b 1 c2) rfl (Qaa (Qdi (lo:=i) (ms:=[x].map lsc) (ls':=((l.take (i+1)++l.drop i++l.drop (i+1+(l.drop i).length)).take i++[x]++(l.take (i+1)++l.drop i++l.drop (i+1+(l.drop i).length)).drop (i+[x].length)).map lsc) (n':=((l.take (i+1)++l.drop i++l.drop (i+1+(l.drop i).length)).take i++[x]++(l.take (i+1)++l.drop i++l.drop (i+1+(l.drop i).length)).drop (i+[x].length)).length) Qg9 hs 0 rfl rfl rfl (by simp only [QQ6,List.length_drop,List.length_take,List.length_cons,List.length_nil,QQ7,List.length_replicate];omega) (Rd.srcs (hvo _ _ hs)) (Qbl (enc:=lsc) (fun _=>rfl) _) (QaU Qcw _) (by simp only [QQ6,List.length_drop,List.length_take,List.length_cons,List.length_nil,QQ7,List.length_replicate];omega) (by simp only [QQ6,List.length_drop,List.length_take,List.length_cons,List.length_nil,QQ7,List.length_replicate];omega) (by simp only [List.map_append,List.map_take,List.map_drop,List.map_cons,List.map_nil,QQ6,List.length_drop,List.length_take,List.length_cons,List.length_nil]) (by rw [QQ6]) fun w12 hs=>(Qae (Qag (Qab (Qaa (Qac (V:=.slice a (l.length+1) c) rfl (Qaa (Qad (V:=.slice a (l.length+1) c) rfl (Qae (Qas ?_))))))))))))))))))))
   refine ⟨_,Qao (V:=.slice a (l.length+1) c) Tryz.results80 rfl,?_⟩
   have hX:(l.take (i+1)++l.drop i++l.drop (i+1+(l.drop i).length)).take i++[x]++(l.take (i+1)++l.drop i++l.drop (i+1+(l.drop i).length)).drop (i+[x].length)=Qdo l i x:=Qjz (by omega)
   rw [hX] at hs
   exact ⟨(a,c),by rw [QfD hi],hs.only 0 rfl,trivial⟩
end Tt
end Go.Proofs
namespace Go.Proofs
open Go Go.Vx Go.RowKit
namespace Tt
theorem Qlx (w:World) (S:Nat→Prop) (b:Nat) (kn:Vec) (v1:Value) (a2:Option Addr) (c2:Nat) (ts:List Lst) (l:Lst) (hlt:ts.length≤10000) (hT:QeN ts) (hR:(star [blk b (vc kn++[(v1:Value),(.slice a2 ts.length c2:Value)]) 39,row (.slice a2 ts.length c2) (ts.map lsc) 87 2]).holds w S) (hlS:∀ x,S x→x<w.heap.size):Calls Tryz.prog 37 #[.pointer (some ⟨b,0,none⟩),.agg (lsc l).toArray] w (fun e w'=>∃ x:Option Addr × Nat,e = .returned (.tuple #[])∧Own w S w' [star [blk b (vc kn++[(v1:Value),(.slice x.1 (Qdb l.cart l.tick ts).length x.2:Value)]) 39,row (.slice x.1 (Qdb l.cart l.tick ts).length x.2) ((Qdb l.cart l.tick ts).map lsc) 87 2]]∧True):=by
 refine Qai (n:=46) Tryz.func37 rfl Tryz.ntmps37 rfl ?_
 have hs:=(Own.lent hR hlS).split 0 rfl
 have hpl:=QqO ts l.cart
 refine Qag (Qab (Qaa (Qa9 (V:=.agg (lsc l).toArray) (cs:=lsc l) rfl rfl hs fun b1 w2 hs=>(Qae (Qag (QaC HM [some 7,some 8,some 9,some 10,some 11,some 12,some 6,some 13,some 14,some 4,some 5] [] [0,1,3,0,8,31,63,127,127,255,1023] [pv (Pt b 0),pv (Pt b 0),pv (.agg ((vc kn)++[(v1:Value),(.slice a2 ts.length c2:Value) ]).toArray),pv (Pt b1 (0+0)),pv (I7 l.cart),pv (.tuple #[I6 ((QbI ts l.cart:Nat):Int),.bool ((QaV ts l.cart).isSome)]),pv (.tuple #[I6 ((QbI ts l.cart:Nat):Int),.bool ((QaV ts l.cart).isSome)]),pv (I6 ((QbI ts l.cart:Nat):Int)),pv (.bool ((QaV ts l.cart).isSome)),pv (I6 ((QbI ts l.cart:Nat):Int)),pv (.bool ((QaV ts l.cart).isSome))] (fun _ _=>_) [10,9] (by kernel_rfl) hs ⟨?_,?_,?_,?_,?_,?_,?_,?_,?_,?_,?_,trivial⟩ ?_))))))
 ·exact ob [] [] rfl rfl fun D ρ w hs=>Qac (V:=Pt b 0) rfl ⟨rfl,hs⟩
 ·exact ob [0] [] rfl rfl fun D ρ w hs=>QcD rfl ⟨rfl,hs⟩
 ·exact ob [1] [] rfl rfl fun D ρ w hs=>QaR (cs:=(vc kn)++[(v1:Value),(.slice a2 ts.length c2:Value) ]) Qbz hs 0 rfl rfl rfl ⟨rfl,hs⟩
 ·exact ob [] [] rfl rfl fun D ρ w hs=>Qaf Qgj rfl ⟨rfl,hs⟩
 ·exact ob [3] [] rfl rfl fun D ρ w hs=>QaK (V:=I7 l.cart) Qap hs 2 rfl rfl rfl ⟨rfl,hs⟩
 ·exact ob [2,4] [] rfl rfl fun D ρ w hs=>Qar (vs:=[.agg ((vc kn)++[(v1:Value),(.slice a2 ts.length c2:Value) ]).toArray,I7 l.cart]) (V:=.tuple #[I6 ((QbI ts l.cart:Nat):Int),.bool ((QaV ts l.cart).isSome)]) Qqr rfl rfl (QgX _ kn v1 a2 c2 ts l.cart (by omega) hT (hs.rd 1 rfl)) hs fun _ hs=>⟨rfl,hs⟩
 ·exact ob [5] [] rfl rfl fun D ρ w hs=>Qac (V:=.tuple #[I6 ((QbI ts l.cart:Nat):Int),.bool ((QaV ts l.cart).isSome)]) rfl ⟨rfl,hs⟩
 ·exact ob [6] [] rfl rfl fun D ρ w hs=>QaB (V:=I6 ((QbI ts l.cart:Nat):Int)) rfl rfl ⟨rfl,hs⟩
 ·exact ob [6] [] rfl rfl fun D ρ w hs=>QaB (V:=.bool ((QaV ts l.cart).isSome)) rfl rfl ⟨rfl,hs⟩
 ·exact ob [7] [] rfl rfl fun D ρ w hs=>Qad (V:=I6 ((QbI ts l.cart:Nat):Int)) rfl ⟨rfl,hs⟩
 ·exact ob [8] [] rfl rfl fun D ρ w hs=>Qad (V:=.bool ((QaV ts l.cart).isSome)) rfl ⟨rfl,hs⟩
 rintro ρ1 w4 ρ2 hρ hs
 replace hρ:ρ2=upd (upd (mix [7,8,9,10,11,12,6,13,14,4,5] ρ1 _) 4 (I6 ((QbI ts l.cart:Nat):Int))) 5 (.bool ((QaV ts l.cart).isSome)):=hρ
 subst hρ
 refine Qag (Qag (Qab (Qaa (Qac (V:=.bool ((QaV ts l.cart).isSome)) rfl (Qaa (Qbw rfl (Qae (Qal (t:=!((QaV ts l.cart).isSome)) rfl (fun c5=>?_) (fun c5=>?_)))))))))
 ·
  replace c5:=QbL c5
  refine Qag ?_
  replace hs:=hs.more emp trivial
  refine QaC HM [some 17,some 18,some 19,some 20,some 21,some 22,some 23,some 24,some 25,some 26,some 27,none] [[],[],[],[],[],[],[],[24],[25]] [0,0,2,6,14,0,0,64,254,511,1023,2047] [pv (Pt b 0),pv (Pt b 0),pv (Pt b 0),pv (Pt b (0+17)),pv (.slice a2 ts.length c2),pv (I6 ((QbI ts l.cart:Nat):Int)),pv (.agg (lsc l).toArray),(true,fun ρ=>.slice (some ⟨(bOf (ρ 24)),0,none⟩) 1 1),(true,fun ρ=>.slice (aOf (ρ 25)) ((Qdo ts (QbI ts l.cart) l).length) (cOf (ρ 25))),pv (Pt b 0),pv (Pt b (0+17)),pn] (fun D ρ=>[cond (D 11) (blk b ((vc kn)++[(v1:Value),(.slice (aOf (ρ 25)) ((Qdo ts (QbI ts l.cart) l).length) (cOf (ρ 25)):Value) ]) 39) (blk b ((vc kn)++[(v1:Value),(.slice a2 ts.length c2:Value) ]) 39),cond (D 8) (row (.slice (aOf (ρ 25)) ((Qdo ts (QbI ts l.cart) l).length) (cOf (ρ 25))) ((Qdo ts (QbI ts l.cart) l).map lsc) 87 2) (row (.slice a2 ts.length c2) (ts.map lsc) 87 2),blk b1 (lsc l) 87,cond (D 7) (row (.slice (some ⟨(bOf (ρ 24)),0,none⟩) 1 1) ([l].map lsc) 87 2) (emp)]) [] (by kernel_rfl) hs ⟨?_,?_,?_,?_,?_,?_,?_,?_,?_,?_,?_,?_,trivial⟩ ?_
  ·exact ob [] [] rfl rfl fun D ρ w hs=>Qac (V:=Pt b 0) rfl ⟨rfl,hs⟩
  ·exact ob [] [] rfl rfl fun D ρ w hs=>Qac (V:=Pt b 0) rfl ⟨rfl,hs⟩
  ·exact ob [1] [] rfl rfl fun D ρ w hs=>QcD rfl ⟨rfl,hs⟩
  ·exact ob [2] [] rfl rfl fun D ρ w hs=>Qaf QcU rfl ⟨rfl,hs⟩
  ·exact ob [3] [11] rfl rfl fun D ρ w hs=>QaK (V:=.slice a2 ts.length c2) Qfu hs 0 rfl rfl rfl ⟨rfl,hs⟩
  ·exact ob [] [] rfl rfl fun D ρ w hs=>Qac (V:=I6 ((QbI ts l.cart:Nat):Int)) rfl ⟨rfl,hs⟩
  ·exact ob [] [] rfl rfl fun D ρ w hs=>QaR (cs:=lsc l) Qcs hs 2 rfl rfl rfl ⟨rfl,hs⟩
  ·exact ob [6] [] rfl rfl fun D ρ w hs=>QhD (vals:=[.agg (lsc l).toArray]) (ls:=List.map lsc ([l]:List Lst)) Qg9 rfl rfl rfl (Qbl (enc:=lsc) (fun _=>rfl) _) (QaU Qcw _) (QQ8 rfl) hs fun _ _ hs=>⟨rfl,hs.put 3 (QQ8 rfl)⟩
  ·exact ob [4,5,7] [11] rfl rfl fun D ρ w hs=>Ql0 (α:=Option Addr × Nat) (vs:=[.slice a2 ts.length c2,I6 ((QbI ts l.cart:Nat):Int),.slice (some ⟨(bOf (ρ 24)),0,none⟩) 1 1]) (V:=fun x=>.slice x.1 (Qdo ts (QbI ts l.cart) l).length x.2) (R:=row (.slice a2 ts.length c2) (ts.map lsc) 87 2) (R':=fun x=>row (.slice x.1 (Qdo ts (QbI ts l.cart) l).length x.2) ((Qdo ts (QbI ts l.cart) l).map lsc) 87 2) (Lo:=fun _=>[]) (F:=fun _ _=>True) Qti rfl rfl hs 1 3 (by decide) rfl rfl (QQ8 rfl) (fun S hS hlt hnS hpl9=>QoL _ S a2 c2 ts (QbI ts l.cart) hpl l (some ⟨(bOf (ρ 24)),0,none⟩) 1 (hs.rd 3 rfl) hpl9 hnS hpl9.lt (by omega) hS hlt) fun _ _ hs _=>⟨rfl,hs⟩
  ·exact ob [0] [] rfl rfl fun D ρ w hs=>QcD rfl ⟨rfl,hs⟩
  ·exact ob [9] [] rfl rfl fun D ρ w hs=>Qaf QcU rfl ⟨rfl,hs⟩
  ·exact ob [8,10] [] rfl rfl fun D ρ w hs=>Qdd (V:=.slice (aOf (ρ 25)) ((Qdo ts (QbI ts l.cart) l).length) (cOf (ρ 25))) (cs':=(vc kn)++[(v1:Value),(.slice (aOf (ρ 25)) ((Qdo ts (QbI ts l.cart) l).length) (cOf (ρ 25)):Value) ]) Qfu hs 0 rfl rfl rfl rfl (QQ8 rfl) rfl fun _ hs=>⟨trivial,hs⟩
  rintro ρ1 w9 ρ2 hρ hs
  replace hρ:ρ2=mix [17,18,19,20,21,22,23,24,25,26,27] ρ1 _:=hρ
  replace hs:Own w S w9 [blk b ((vc kn)++[(v1:Value),(.slice (aOf (ρ1 25)) ((Qdo ts (QbI ts l.cart) l).length) (cOf (ρ1 25)):Value) ]) 39,row (.slice (aOf (ρ1 25)) ((Qdo ts (QbI ts l.cart) l).length) (cOf (ρ1 25))) ((Qdo ts (QbI ts l.cart) l).map lsc) 87 2,blk b1 (lsc l) 87,row (.slice (some ⟨(bOf (ρ1 24)),0,none⟩) 1 1) ([l].map lsc) 87 2]:=hs
  generalize (bOf (ρ1 24))=b10 at hs
  generalize (aOf (ρ1 25))=a11 at hs
  generalize (cOf (ρ1 25))=c12 at hs
  subst hρ
  refine Qas ?_
  refine ⟨_,Qbo Tryz.results37,?_⟩
  have hX:Qdo ts (QbI ts l.cart) l=Qdb l.cart l.tick ts:=(Qnd hT c5).symm
  have ho:=(hs.join 0 1 (by decide) rfl rfl).only 0 rfl
  rw [hX] at ho
  exact ⟨(a11,c12),rfl,ho,trivial⟩
 ·
  replace c5:=Qbr c5
  refine Qan ?_
  have hfa:=Qg6 hT c5
  have hfb:=hfa.1
  refine QaC HM [some 28,some 29,some 30,some 31,some 32,some 33,some 34,some 35,some 36,some 37,some 38,some 39,some 40,some 41,some 42,some 43,some 44,some 45,none] [] [0,1,3,7,0,0,32,96,224,0,992,2016,4064,0,8192,32736,65535,131071,262143] [pv (Pt b 0),pv (Pt b 0),pv (Pt b (0+17)),pv (.slice a2 ts.length c2),pv (I6 ((QbI ts l.cart:Nat):Int)),pv (Pt b 0),pv (Pt b 0),pv (Pt b (0+17)),pv (.slice a2 ts.length c2),pv (I6 ((QbI ts l.cart:Nat):Int)),pv (.pointer (some ⟨bkS (.slice a2 ts.length c2),ofS (.slice a2 ts.length c2)+((QbI ts l.cart:Nat):Int).toNat*2,none⟩)),pv (.pointer (some ⟨bkS (.slice a2 ts.length c2),ofS (.slice a2 ts.length c2)+((QbI ts l.cart:Nat):Int).toNat*2+1,none⟩)),pv (.int .u32 ((gd ts (QbI ts l.cart)).tick)),pv (Pt b1 (0+1)),pv (.int .u32 l.tick),pv (.int .u32 (max ((gd ts (QbI ts l.cart)).tick) l.tick)),pv (.pointer (some ⟨bkS (.slice a2 ts.length c2),ofS (.slice a2 ts.length c2)+((QbI ts l.cart:Nat):Int).toNat*2,none⟩)),pv (.pointer (some ⟨bkS (.slice a2 ts.length c2),ofS (.slice a2 ts.length c2)+((QbI ts l.cart:Nat):Int).toNat*2+1,none⟩)),pn] (fun D ρ=>[blk b ((vc kn)++[(v1:Value),(.slice a2 ts.length c2:Value) ]) 39,cond (D 18) (row (.slice a2 ts.length c2) ((ts.set (QbI ts l.cart) (⟨(gd ts (QbI ts l.cart)).cart,max ((gd ts (QbI ts l.cart)).tick) l.tick⟩:Lst)).map lsc) 87 2) (row (.slice a2 ts.length c2) (ts.map lsc) 87 2),blk b1 (lsc l) 87]) [] (by kernel_rfl) hs ⟨?_,?_,?_,?_,?_,?_,?_,?_,?_,?_,?_,?_,?_,?_,?_,?_,?_,?_,?_,trivial⟩ ?_
  ·exact ob [] [] rfl rfl fun D ρ w hs=>Qac (V:=Pt b 0) rfl ⟨rfl,hs⟩
  ·exact ob [0] [] rfl rfl fun D ρ w hs=>QcD rfl ⟨rfl,hs⟩
  ·exact ob [1] [] rfl rfl fun D ρ w hs=>Qaf QcU rfl ⟨rfl,hs⟩
  ·exact ob [2] [] rfl rfl fun D ρ w hs=>QaK (V:=.slice a2 ts.length c2) Qfu hs 0 rfl rfl rfl ⟨rfl,hs⟩
  ·exact ob [] [] rfl rfl fun D ρ w hs=>Qac (V:=I6 ((QbI ts l.cart:Nat):Int)) rfl ⟨rfl,hs⟩
  ·exact ob [] [] rfl rfl fun D ρ w hs=>Qac (V:=Pt b 0) rfl ⟨rfl,hs⟩
  ·exact ob [5] [] rfl rfl fun D ρ w hs=>QcD rfl ⟨rfl,hs⟩
  ·exact ob [6] [] rfl rfl fun D ρ w hs=>Qaf QcU rfl ⟨rfl,hs⟩
  ·exact ob [7] [] rfl rfl fun D ρ w hs=>QaK (V:=.slice a2 ts.length c2) Qfu hs 0 rfl rfl rfl ⟨rfl,hs⟩
  ·exact ob [] [] rfl rfl fun D ρ w hs=>Qac (V:=I6 ((QbI ts l.cart:Nat):Int)) rfl ⟨rfl,hs⟩
  ·exact ob [8,9] [18] rfl rfl fun D ρ w hs=>Qat Qei Qcs.1 (hs.rd 1 rfl) rfl rfl (by omega) (by rw [QQ6];omega) ⟨rfl,hs⟩
  ·exact ob [10] [] rfl rfl fun D ρ w hs=>Qaf Qf9 rfl ⟨rfl,hs⟩
  ·exact ob [11] [18] rfl rfl fun D ρ w hs=>QaQ (j:=1) (V:=.int .u32 ((gd ts (QbI ts l.cart)).tick)) (QbI ts l.cart) Qa7 (hs.rd 1 rfl) (QaY (by omega)) rfl rfl (by omega) ⟨rfl,hs⟩
  ·exact ob [] [] rfl rfl fun D ρ w hs=>Qaf Qf9 rfl ⟨rfl,hs⟩
  ·exact ob [13] [] rfl rfl fun D ρ w hs=>QaK (V:=.int .u32 l.tick) Qa7 hs 2 rfl rfl rfl ⟨rfl,hs⟩
  ·exact ob [12,14] [] rfl rfl fun D ρ w hs=>Qou rfl rfl ⟨rfl,hs⟩
  ·exact ob [3,4] [18] rfl rfl fun D ρ w hs=>Qat Qei Qcs.1 (hs.rd 1 rfl) rfl rfl (by omega) (by rw [QQ6];omega) ⟨rfl,hs⟩
  ·exact ob [16] [] rfl rfl fun D ρ w hs=>Qaf Qf9 rfl ⟨rfl,hs⟩
  ·exact ob [15,17] [] rfl rfl fun D ρ w hs=>Qun (z:=(⟨(gd ts (QbI ts l.cart)).cart,max ((gd ts (QbI ts l.cart)).tick) l.tick⟩:Lst)) (vs:=[.int .u32 (max ((gd ts (QbI ts l.cart)).tick) l.tick)]) (QbI ts l.cart) 1 Qa7.1 hs 1 rfl rfl (by omega) (by first|omega|(simp only [List.length_set];omega)) rfl rfl rfl rfl (QQ8 rfl) (Qcw _) (Qau rfl Qbu) fun _ hs=>⟨trivial,hs⟩
  rintro ρ1 w14 ρ2 hρ hs
  replace hρ:ρ2=mix [28,29,30,31,32,33,34,35,36,37,38,39,40,41,42,43,44,45] ρ1 _:=hρ
  replace hs:Own w S w14 [blk b ((vc kn)++[(v1:Value),(.slice a2 ts.length c2:Value) ]) 39,row (.slice a2 ts.length c2) ((ts.set (QbI ts l.cart) (⟨(gd ts (QbI ts l.cart)).cart,max ((gd ts (QbI ts l.cart)).tick) l.tick⟩:Lst)).map lsc) 87 2,blk b1 (lsc l) 87]:=hs
  subst hρ
  refine ⟨_,Qbo Tryz.results37,?_⟩
  have hX:ts.set (QbI ts l.cart) (⟨(gd ts (QbI ts l.cart)).cart,max ((gd ts (QbI ts l.cart)).tick) l.tick⟩:Lst)=Qdb l.cart l.tick ts:=by rw [Qoa hT c5];congr 1;rw [(Qg6 hT c5).2.1]
  have ho:=(hs.join 0 1 (by decide) rfl rfl).only 0 rfl
  have hl:ts.length=(Qdb l.cart l.tick ts).length:=by rw [← hX,List.length_set]
  rw [hX,hl] at ho
  exact ⟨(a2,c2),rfl,ho,trivial⟩
end Tt
end Go.Proofs
