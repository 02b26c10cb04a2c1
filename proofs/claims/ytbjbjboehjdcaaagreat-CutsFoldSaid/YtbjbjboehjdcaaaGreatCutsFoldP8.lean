/- A part of a proof: what functions of the program compute, and plain facts on that. -/
import Derived.Test.YtbjbjboehjdcaaaGreatCutsFoldP7
import Derived.KernelRfl
import Derived.Test.YtbjbjboehjdcaaaGreatProg
import Derived.Shelf.SlSortCmp.WholeK
import Derived.Shelf.SlLaysF0
import Derived.Ground.SlsfProg
import Derived.Shelf.SlSortCmp.NoneTotal
set_option linter.unusedVariables false
set_option linter.unusedSimpArgs false
set_option maxHeartbeats 4000000
set_option maxRecDepth 100000
namespace Go.Proofs
open Go Go.Vx Go.RowKit
open Tryz
namespace Tt
theorem cutsFold_ok (w:World) (a:Option Addr) (ca:Nat) (l:List Opn) (hl:∀ o∈l,QbL o) (hr:Rd w (.slice a l.length ca) 23 (l.map oc)) (hsortE:Qhn prog 48 49 cec 106 7 Qlk) (hsortU:Qg2 prog 134 .u16 32) (v0 v1:Vec) (h0:QbH v0) (h1:QbH v1) (n:Int):Calls prog 9 #[.slice a l.length ca,.agg ((vc v0)++(vc v1)).toArray,.int .u16 n] w (fun e w'=>e = .returned (.bool true)/\Own w no w' []):=by
 refine Qah (n:=75) func9 rfl ntmps9 rfl ?_
 have Y:=Own.start w
 have hn:=hr.sml
 refine Qae (Qab (Qaa (QaY (V:=.agg ((vc v0)++(vc v1)).toArray) (cs:=(vc v0)++(vc v1)) rfl rfl Y fun b1 w2 Y=>(Qaa (Qam (.bool false) (Qad (Qae (Qae (Qab (Qaa (Qas (vs:=[]) (V:=.bool true) QxC rfl rfl ?hc Y fun w3 Y=>?_)))))))))))
 case hc=>exact (QlX _ hsortE hsortU)
 refine Qaa (QbB rfl (Qad (Qce rfl ?_)))
 refine Qap (Qae (Qab (Qaa (Qaf (.slice a l.length ca) (Qaa (QjU Qwz QbC.1 rfl rfl (by decide) (by decide) (Qaa (QbT (vs:=vc v0) QbC Y 0 rfl rfl rfl rfl (Qaa (Qbr (α:=((Option Addr × Nat) × (Option Addr × Nat)) × (Option Addr × Nat)) (vs:=[.slice a l.length ca,.agg (vc v0).toArray]) (V:=fun x=>.tuple #[.agg ((vc (Qau l v0).base.known++[(.slice x.1.1.1 (Qau l v0).base.ents.length x.1.1.2:Value),(.slice x.1.2.1 (Qau l v0).base.ticks.length x.1.2.2:Value)])++[(.slice x.2.1 (Qau l v0).ops.length x.2.2:Value)]++vc (Qau l v0).known).toArray,.bool (Qef l v0)]) (Lo:=fun x=>[row (.slice x.1.1.1 (Qau l v0).base.ents.length x.1.1.2) ((Qau l v0).base.ents.map cec) 106 7,row (.slice x.1.2.1 (Qau l v0).base.ticks.length x.1.2.2) ((Qau l v0).base.ticks.map lsc) 102 2,row (.slice x.2.1 (Qau l v0).ops.length x.2.2) ((Qau l v0).ops.map oc) 98 23]) (F:=fun _ _=>True) Qxp rfl rfl ?hc Y fun x4 w5 Y _=>?_))))))))))
 case hc=>exact (Qsc _ a ca l v0 hl (Rd.own' hr Y))
 refine Qaa (Qaf (.tuple #[.agg (((vc ((Qau l v0).base.known))++[(.slice x4.1.1.1 ((Qau l v0).base.ents.length) x4.1.1.2:Value),(.slice x4.1.2.1 ((Qau l v0).base.ticks.length) x4.1.2.2:Value) ])++[(.slice x4.2.1 ((Qau l v0).ops.length) x4.2.2:Value) ]++(vc ((Qau l v0).known))).toArray,.bool (Qef l v0)]) (Qaa (QaC (V:=.agg (((vc ((Qau l v0).base.known))++[(.slice x4.1.1.1 ((Qau l v0).base.ents.length) x4.1.1.2:Value),(.slice x4.1.2.1 ((Qau l v0).base.ticks.length) x4.1.2.2:Value) ])++[(.slice x4.2.1 ((Qau l v0).ops.length) x4.2.2:Value) ]++(vc ((Qau l v0).known))).toArray) rfl rfl (Qaa (QaC (V:=.bool (Qef l v0)) rfl rfl (Qaa (QaJ (cs:=((vc vzero)++[(.slice none 0 0:Value),(.slice none 0 0:Value) ])++[(.slice none 0 0:Value) ]++(vc vzero)) QqN rfl Y fun b6 w7 Y=>(Qaa (Qcz (V:=.agg (((vc ((Qau l v0).base.known))++[(.slice x4.1.1.1 ((Qau l v0).base.ents.length) x4.1.1.2:Value),(.slice x4.1.2.1 ((Qau l v0).base.ticks.length) x4.1.2.2:Value) ])++[(.slice x4.2.1 ((Qau l v0).ops.length) x4.2.2:Value) ]++(vc ((Qau l v0).known))).toArray) (vs:=((vc ((Qau l v0).base.known))++[(.slice x4.1.1.1 ((Qau l v0).base.ents.length) x4.1.1.2:Value),(.slice x4.1.2.1 ((Qau l v0).base.ticks.length) x4.1.2.2:Value) ])++[(.slice x4.2.1 ((Qau l v0).ops.length) x4.2.2:Value) ]++(vc ((Qau l v0).known))) (cs':=((vc ((Qau l v0).base.known))++[(.slice x4.1.1.1 ((Qau l v0).base.ents.length) x4.1.1.2:Value),(.slice x4.1.2.1 ((Qau l v0).base.ticks.length) x4.1.2.2:Value) ])++[(.slice x4.2.1 ((Qau l v0).ops.length) x4.2.2:Value) ]++(vc ((Qau l v0).known))) QdB.1 Y 4 rfl rfl rfl rfl rfl (QQ8 rfl) (Qbq (Qbq (Qbq (Qb0 _) (Qat rfl (Qat rfl Qa2))) (Qat rfl Qa2)) (Qb0 _)) (Qaz rfl) fun w8 Y=>?_)))))))))
 replace Y:=Ow [blk b1 ((vc v0)++(vc v1)) 88,row (.slice x4.1.1.1 ((Qau l v0).base.ents.length) x4.1.1.2) (((Qau l v0).base.ents).map cec) 106 7,row (.slice x4.1.2.1 ((Qau l v0).base.ticks.length) x4.1.2.2) (((Qau l v0).base.ticks).map lsc) 102 2,row (.slice x4.2.1 ((Qau l v0).ops.length) x4.2.2) (((Qau l v0).ops).map oc) 98 23,blk b6 (((vc ((Qau l v0).base.known))++[(.slice x4.1.1.1 ((Qau l v0).base.ents.length) x4.1.1.2:Value),(.slice x4.1.2.1 ((Qau l v0).base.ticks.length) x4.1.2.2:Value) ])++[(.slice x4.2.1 ((Qau l v0).ops.length) x4.2.2:Value) ]++(vc ((Qau l v0).known))) 43] Y
 refine Qaa (Qam (.bool (Qef l v0)) (Qad (Qae (Qae (Qab (Qaa (Qaf (.bool (Qef l v0)) (Qaa (QbB rfl (Qad (Qak (t:=!(Qef l v0)) rfl (fun c9=>?_) (fun c9=>?_))))))))))))
 ·
  replace c9:=QbE c9
  refine Qae (Qab (Qaa (Qam (.bool true) (Qad (Qav ?_)))))
  refine ⟨_,Qan (V:=.bool true) results9 rfl,(Zr Y ?_)⟩
  rfl
 replace c9:=Qbd c9
 refine Qap (Qae (Qab (Qaa (QjU Qwz QbC.1 rfl rfl (by decide) (by decide) (Qaa (QbT (vs:=vc v1) QbC Y 0 rfl rfl rfl rfl (Qaa (QaJ (cs:=vc vzero) Qso rfl Y fun b10 w11 Y=>(Qaa (Qcz (V:=.agg (vc v1).toArray) (vs:=vc v1) (cs':=vc v1) QbC.1 Y 5 rfl rfl rfl rfl rfl (QQ8 rfl) (Qb0 _) (Qaz rfl) fun w12 Y=>(Qad (Qae ?_))))))))))))
 have hp:=Qvv hl c9
 have hlen9:l.length<=1000:=by have:=hp.len;omega
 refine Qab (Qaa (QaK (cs:=((vc ((Qau l v0).base.known))++[(.slice x4.1.1.1 ((Qau l v0).base.ents.length) x4.1.1.2:Value),(.slice x4.1.2.1 ((Qau l v0).base.ticks.length) x4.1.2.2:Value) ])++[(.slice x4.2.1 ((Qau l v0).ops.length) x4.2.2:Value) ]++(vc ((Qau l v0).known))) QdB Y 4 rfl rfl rfl (Qaa (QaK (cs:=vc v1) QbC Y 5 rfl rfl rfl (Qaa (Qaf (I7 n) (Qaa (Qbr (α:=Option Addr × Nat) (vs:=[.agg (((vc ((Qau l v0).base.known))++[(.slice x4.1.1.1 ((Qau l v0).base.ents.length) x4.1.1.2:Value),(.slice x4.1.2.1 ((Qau l v0).base.ticks.length) x4.1.2.2:Value) ])++[(.slice x4.2.1 ((Qau l v0).ops.length) x4.2.2:Value) ]++(vc ((Qau l v0).known))).toArray,.agg (vc v1).toArray,I7 n]) (V:=fun x=>.tuple #[.agg #[I7 ((QaA (Qau l v0) v1 n).cart),.slice x.1 (((QaA (Qau l v0) v1 n).lines).length) x.2,.bool ((QaA (Qau l v0) v1 n).out),.int .u32 ((QaA (Qau l v0) v1 n).tick)],I6 (Qbu (Qau l v0) v1)]) (Lo:=fun x=>[row (.slice x.1 ((QaA (Qau l v0) v1 n).lines).length x.2) (((QaA (Qau l v0) v1 n).lines).map lc) 127 2]) (F:=fun _ _=>True) Qtf rfl rfl ?hc Y fun x14 w13 Y _=>?_))))))))
 case hc=>exact (Qil _ (Qau l v0) x4.1.1.1 x4.1.1.2 x4.1.2.1 x4.1.2.2 x4.2.1 x4.2.2 v1 h1 n hsortE hsortU hp.ok hp.le hp.lt hp.lo (Y.rd 1 rfl) (Y.rd 2 rfl) (Y.rd 3 rfl))
 refine Qaa (Qaf (.tuple #[.agg #[I7 ((QaA (Qau l v0) v1 n).cart),.slice x14.1 (((QaA (Qau l v0) v1 n).lines).length) x14.2,.bool ((QaA (Qau l v0) v1 n).out),.int .u32 ((QaA (Qau l v0) v1 n).tick)],I6 (Qbu (Qau l v0) v1)]) (Qaa (QaC (V:=.agg #[I7 ((QaA (Qau l v0) v1 n).cart),.slice x14.1 (((QaA (Qau l v0) v1 n).lines).length) x14.2,.bool ((QaA (Qau l v0) v1 n).out),.int .u32 ((QaA (Qau l v0) v1 n).tick)]) rfl rfl (Qaa (QaC (V:=I6 (Qbu (Qau l v0) v1)) rfl rfl (Qaa (QaJ (cs:=[I7 0,.slice none 0 0,.bool false,.int .u32 0]) Qhe rfl Y fun b15 w16 Y=>?_)))))))
 replace Y:=Ow [blk b1 ((vc v0)++(vc v1)) 88,row (.slice x4.1.1.1 ((Qau l v0).base.ents.length) x4.1.1.2) (((Qau l v0).base.ents).map cec) 106 7,row (.slice x4.1.2.1 ((Qau l v0).base.ticks.length) x4.1.2.2) (((Qau l v0).base.ticks).map lsc) 102 2,row (.slice x4.2.1 ((Qau l v0).ops.length) x4.2.2) (((Qau l v0).ops).map oc) 98 23,blk b6 (((vc ((Qau l v0).base.known))++[(.slice x4.1.1.1 ((Qau l v0).base.ents.length) x4.1.1.2:Value),(.slice x4.1.2.1 ((Qau l v0).base.ticks.length) x4.1.2.2:Value) ])++[(.slice x4.2.1 ((Qau l v0).ops.length) x4.2.2:Value) ]++(vc ((Qau l v0).known))) 43,blk b10 (vc v1) 24,row (.slice x14.1 (((QaA (Qau l v0) v1 n).lines).length) x14.2) (((QaA (Qau l v0) v1 n).lines).map lc) 127 2,blk b15 [I7 0,.slice none 0 0,.bool false,.int .u32 0] 49] Y
 refine Qaa (Qcz (V:=.agg #[I7 ((QaA (Qau l v0) v1 n).cart),.slice x14.1 (((QaA (Qau l v0) v1 n).lines).length) x14.2,.bool ((QaA (Qau l v0) v1 n).out),.int .u32 ((QaA (Qau l v0) v1 n).tick)]) (vs:=[I7 ((QaA (Qau l v0) v1 n).cart),.slice x14.1 (((QaA (Qau l v0) v1 n).lines).length) x14.2,.bool ((QaA (Qau l v0) v1 n).out),.int .u32 ((QaA (Qau l v0) v1 n).tick)]) (cs':=[I7 ((QaA (Qau l v0) v1 n).cart),.slice x14.1 (((QaA (Qau l v0) v1 n).lines).length) x14.2,.bool ((QaA (Qau l v0) v1 n).out),.int .u32 ((QaA (Qau l v0) v1 n).tick)]) Qdc.1 Y 7 rfl rfl rfl rfl rfl (QQ8 rfl) (Qat rfl (Qat rfl (Qat rfl (Qat rfl Qa2)))) (Qaz rfl) fun w17 Y=>(Qaa (Qam (I6 (Qbu (Qau l v0) v1)) (Qad (Qae (Qal (Qae (Qab (Qaa (QaK (cs:=vc v1) QbC Y 5 rfl rfl rfl (Qaa (Qas (vs:=[.agg (vc v1).toArray,I6 16]) (V:=.bool (QaQ v1 16)) Qvu rfl rfl ?hc Y fun w18 Y=>?_))))))))))))
 case hc=>exact (Qjg _ v1 16 (by first|assumption|exact Qch))
 refine Qaa (QbB rfl (Qaa (Qam (.bool (!(QaQ v1 16))) (Qad (Qak (t:=!(QaQ v1 16)) rfl (fun c19=>?_) (fun c19=>?_))))))
 ·
  replace c19:=QbE c19
  refine Qae (Qab (Qaa (Qaf (I6 (Qbu (Qau l v0) v1)) (Qaa (Qa8 (V:=.bool (decide (Qbu (Qau l v0) v1=13))) (V':=.bool true) (QaT rfl rfl ⟨rfl,rfl⟩) (congrArg Value.bool (QQ3 (QvD hp c19))) (Qaa (Qam (.bool true) (Qad (Qav ?_)))))))))
  refine ⟨_,Qan (V:=.bool true) results9 rfl,(Zr Y ?_)⟩
  rfl
 replace c19:=Qbd c19
 refine Qae (Qab (Qaa (QaK (cs:=vc v1) QbC Y 5 rfl rfl rfl (Qaa (Qac Qix rfl (Qaa (QbT (vs:=vc ((Qau l v0).known)) QbC Y 4 rfl rfl rfl rfl (Qaa (Qas (vs:=[.agg (vc v1).toArray,.agg (vc ((Qau l v0).known)).toArray]) (V:=.bool (vle v1 ((Qau l v0).known))) Qps rfl rfl ?hc Y fun w20 Y=>?_)))))))))
 case hc=>exact (Qfj _ v1 ((Qau l v0).known))
 refine Qaa (QbB rfl (Qaa (Qam (.bool (!(vle v1 ((Qau l v0).known)))) (Qad (Qak (t:=!(vle v1 ((Qau l v0).known))) rfl (fun c21=>?_) (fun c21=>?_))))))
 ·
  replace c21:=QbE c21
  refine Qae (Qab (Qaa (Qaf (I6 (Qbu (Qau l v0) v1)) (Qaa (Qa8 (V:=.bool (decide (Qbu (Qau l v0) v1=11))) (V':=.bool true) (QaT rfl rfl ⟨rfl,rfl⟩) (congrArg Value.bool (QQ3 (QwI hp c19 c21))) (Qaa (Qam (.bool true) (Qad (Qav ?_)))))))))
  refine ⟨_,Qan (V:=.bool true) results9 rfl,(Zr Y ?_)⟩
  rfl
 replace c21:=Qbd c21
 refine Qae (Qab (Qaa (Qac Qe4 rfl (Qaa (Qac Qeo rfl (Qaa (QbT (vs:=vc ((Qau l v0).base.known)) QbC Y 4 rfl rfl rfl rfl (Qaa (QaK (cs:=vc v1) QbC Y 5 rfl rfl rfl (Qaa (Qas (vs:=[.agg (vc ((Qau l v0).base.known)).toArray,.agg (vc v1).toArray]) (V:=.bool (vle ((Qau l v0).base.known) v1)) Qps rfl rfl ?hc Y fun w22 Y=>?_)))))))))))
 case hc=>exact (Qfj _ ((Qau l v0).base.known) v1)
 refine Qaa (QbB rfl (Qaa (Qam (.bool (!(vle ((Qau l v0).base.known) v1))) (Qad (Qak (t:=!(vle ((Qau l v0).base.known) v1)) rfl (fun c23=>?_) (fun c23=>?_))))))
 ·
  replace c23:=QbE c23
  refine Qae (Qab (Qaa (Qaf (I6 (Qbu (Qau l v0) v1)) (Qaa (Qa8 (V:=.bool (decide (Qbu (Qau l v0) v1=12))) (V':=.bool true) (QaT rfl rfl ⟨rfl,rfl⟩) (congrArg Value.bool (QQ3 (Quz hp c19 c21 c23))) (Qaa (Qam (.bool true) (Qad (Qav ?_)))))))))
  refine ⟨_,Qan (V:=.bool true) results9 rfl,(Zr Y ?_)⟩
  rfl
 replace c23:=Qbd c23
 refine Qap (Qae ?_)
 have hmz:=Qxy hp c19 c21 c23
 have hfr:=QmP (n:=n) hp hmz
 refine Qab (Qaa (Qaf (.slice a l.length ca) (Qaa (QaK (cs:=vc v1) QbC Y 5 rfl rfl rfl (Qaa (Qbr (vs:=[.slice a l.length ca,.agg (vc v1).toArray]) (V:=fun x:Option Addr × Nat=>.slice x.1 (Qaq l v1).length x.2) Qws rfl rfl (QiN _ v1 a ca l hl hlen9 (Rd.own' hr Y)) Y fun x24 w25 Y _=>(Qaa (Qam (.slice x24.1 ((Qaq l v1).length) x24.2) (Qad (Qae ?_))))))))))
 have hlB:∀ o∈Qaq l v1,QbL o:=fun o ho=>hl o (Qb3 ho)
 have hnB:=Qel l v1
 replace Y:=Y.more emp trivial
 replace Y:=Y.more emp trivial
 refine QaH HM (so 59 16++[some 6]) [[],[],[],[],[],[],[65],[],[],[],[],[],[],[72]] [0,1,3,7,7,7,55,127,255,511,1023,1023,1023,7167,16383,32767,65535] [pv (I6 (Qbu (Qau l v0) v1)),pv (.bool true),pv (.bool true),pv (.agg #[I7 ((QaA (Qau l v0) v1 n).cart),.slice x14.1 (((QaA (Qau l v0) v1 n).lines).length) x14.2,.bool ((QaA (Qau l v0) v1 n).out),.int .u32 ((QaA (Qau l v0) v1 n).tick)]),pv (.slice x24.1 ((Qaq l v1).length) x24.2),pv (I7 n),(true,fun J=>.agg #[I7 ((Qcd (Qaq l v1) n).cart),.slice (aOf (Qdq (J 65) 1)) (((Qcd (Qaq l v1) n).lines).length) (cOf (Qdq (J 65) 1)),.bool ((Qcd (Qaq l v1) n).out),.int .u32 ((Qcd (Qaq l v1) n).tick)]),pv (.bool true),pv (.bool true),pv (.bool true),pv (.agg #[I7 ((QaA (Qau l v0) v1 n).cart),.slice x14.1 (((QaA (Qau l v0) v1 n).lines).length) x14.2,.bool ((QaA (Qau l v0) v1 n).out),.int .u32 ((QaA (Qau l v0) v1 n).tick)]),pv (.slice x24.1 ((Qaq l v1).length) x24.2),pv (I7 n),(true,fun J=>.agg #[I7 ((Qb9 (Qaq l v1) n).cart),.slice (aOf (Qdq (J 72) 1)) (((Qb9 (Qaq l v1) n).lines).length) (cOf (Qdq (J 72) 1)),.bool ((Qb9 (Qaq l v1) n).out),.int .u32 ((Qb9 (Qaq l v1) n).tick)]),pv (.bool true),pv (.bool true),pv (.bool true)] (fun D J=>[blk b1 ((vc v0)++(vc v1)) 88,row (.slice x4.1.1.1 ((Qau l v0).base.ents.length) x4.1.1.2) (((Qau l v0).base.ents).map cec) 106 7,row (.slice x4.1.2.1 ((Qau l v0).base.ticks.length) x4.1.2.2) (((Qau l v0).base.ticks).map lsc) 102 2,row (.slice x4.2.1 ((Qau l v0).ops.length) x4.2.2) (((Qau l v0).ops).map oc) 98 23,blk b6 (((vc ((Qau l v0).base.known))++[(.slice x4.1.1.1 ((Qau l v0).base.ents.length) x4.1.1.2:Value),(.slice x4.1.2.1 ((Qau l v0).base.ticks.length) x4.1.2.2:Value) ])++[(.slice x4.2.1 ((Qau l v0).ops.length) x4.2.2:Value) ]++(vc ((Qau l v0).known))) 43,blk b10 (vc v1) 24,row (.slice x14.1 (((QaA (Qau l v0) v1 n).lines).length) x14.2) (((QaA (Qau l v0) v1 n).lines).map lc) 127 2,blk b15 [I7 ((QaA (Qau l v0) v1 n).cart),.slice x14.1 (((QaA (Qau l v0) v1 n).lines).length) x14.2,.bool ((QaA (Qau l v0) v1 n).out),.int .u32 ((QaA (Qau l v0) v1 n).tick)] 49,row (.slice x24.1 ((Qaq l v1).length) x24.2) ((Qaq l v1).map oc) 98 23,cond (D 6) (row (.slice (aOf (Qdq (J 65) 1)) (((Qcd (Qaq l v1) n).lines).length) (cOf (Qdq (J 65) 1))) (((Qcd (Qaq l v1) n).lines).map lc) 127 2) (emp),cond (D 13) (row (.slice (aOf (Qdq (J 72) 1)) (((Qb9 (Qaq l v1) n).lines).length) (cOf (Qdq (J 72) 1))) (((Qb9 (Qaq l v1) n).lines).map lc) 127 2) (emp)]) [16] (by kernel_rfl) Y ⟨?_,?_,?_,?_,?_,?_,?_,?_,?_,?_,?_,?_,?_,?_,?_,?_,?_,trivial⟩ ?_
 ·exact oi [] fun Y=>Qaf (.int .i64 (Qbu (Qau l v0) v1)) (Zz Y)
 ·exact oi [0] fun Y=>Qa8 (V:=.bool (decide (Qbu (Qau l v0) v1=0))) (V':=.bool true) (QaT rfl rfl ⟨rfl,rfl⟩) (congrArg Value.bool (QQ3 hmz)) (Zz Y)
 ·exact oi [1] fun Y=>Qaf (.bool true) (Zz Y)
 ·exact obg [2] [] true rfl (fun _=>rfl) rfl (fun _ _ _ h=>nomatch h) fun D J w _ Y=>QaK (cs:=[I7 ((QaA (Qau l v0) v1 n).cart),.slice x14.1 (((QaA (Qau l v0) v1 n).lines).length) x14.2,.bool ((QaA (Qau l v0) v1 n).out),.int .u32 ((QaA (Qau l v0) v1 n).tick)]) Qdc Y 7 rfl rfl rfl (Zz Y)
 ·exact obg [2] [] true rfl (fun _=>rfl) rfl (fun _ _ _ h=>nomatch h) fun D J w _ Y=>Qaf (.slice x24.1 ((Qaq l v1).length) x24.2) (Zz Y)
 ·exact obg [2] [] true rfl (fun _=>rfl) rfl (fun _ _ _ h=>nomatch h) fun D J w _ Y=>Qaf (I7 n) (Zz Y)
 ·exact obg [2,4,5] [] true rfl (fun _=>rfl) rfl (fun _ _ _ h=>nomatch h) fun D J w _ Y=>Qbr (α:=Option Addr × Nat) (vs:=[.slice x24.1 ((Qaq l v1).length) x24.2,I7 n]) (V:=fun x=>.agg #[I7 ((Qcd (Qaq l v1) n).cart),.slice x.1 (((Qcd (Qaq l v1) n).lines).length) x.2,.bool ((Qcd (Qaq l v1) n).out),.int .u32 ((Qcd (Qaq l v1) n).tick)]) (Lo:=fun x=>[row (.slice x.1 ((Qcd (Qaq l v1) n).lines).length x.2) (((Qcd (Qaq l v1) n).lines).map lc) 127 2]) (F:=fun _ _=>True) QxD rfl rfl (QmF _ x24.1 x24.2 (Qaq l v1) n hlB (by omega) (Y.rd 8 rfl)) Y fun _ _ Y _=>⟨rfl,Y.put 9 (QQ8 rfl)⟩
 ·exact obg [2,3,6] [] true rfl (fun _=>rfl) rfl (fun _ _ _ h=>nomatch h) fun D J w _ Y=>Qgq (V':=.bool true) (congrArg Value.bool (by rw [hfr.1,hfr.2];exact Qja _)) (vs:=[.agg #[I7 ((QaA (Qau l v0) v1 n).cart),.slice x14.1 (((QaA (Qau l v0) v1 n).lines).length) x14.2,.bool ((QaA (Qau l v0) v1 n).out),.int .u32 ((QaA (Qau l v0) v1 n).tick)],.agg #[I7 ((Qcd (Qaq l v1) n).cart),.slice (aOf (Qdq (J 65) 1)) (((Qcd (Qaq l v1) n).lines).length) (cOf (Qdq (J 65) 1)),.bool ((Qcd (Qaq l v1) n).out),.int .u32 ((Qcd (Qaq l v1) n).tick)]]) (V:=.bool (decide ((QaA (Qau l v0) v1 n).cart=(Qcd (Qaq l v1) n).cart)&&(((QaA (Qau l v0) v1 n).out) == ((Qcd (Qaq l v1) n).out))&&decide ((QaA (Qau l v0) v1 n).tick=(Qcd (Qaq l v1) n).tick)&&decide ((QaA (Qau l v0) v1 n).lines=(Qcd (Qaq l v1) n).lines))) Qut rfl rfl (QkV _ ((QaA (Qau l v0) v1 n).cart) ((Qcd (Qaq l v1) n).cart) ((QaA (Qau l v0) v1 n).tick) ((Qcd (Qaq l v1) n).tick) ((QaA (Qau l v0) v1 n).out) ((Qcd (Qaq l v1) n).out) x14.1 (aOf (Qdq (J 65) 1)) x14.2 (cOf (Qdq (J 65) 1)) ((QaA (Qau l v0) v1 n).lines) ((Qcd (Qaq l v1) n).lines) (Y.rd 6 rfl) (Y.rd 9 rfl)) Y fun _ Y=>Zz Y
 ·exact oi [2,7] fun Y=>QcY (V:=.bool true) rfl rfl (Zz Y)
 ·exact oi [8] fun Y=>Qaf (.bool true) (Zz Y)
 ·exact obg [9] [] true rfl (fun _=>rfl) rfl (fun _ _ _ h=>nomatch h) fun D J w _ Y=>QaK (cs:=[I7 ((QaA (Qau l v0) v1 n).cart),.slice x14.1 (((QaA (Qau l v0) v1 n).lines).length) x14.2,.bool ((QaA (Qau l v0) v1 n).out),.int .u32 ((QaA (Qau l v0) v1 n).tick)]) Qdc Y 7 rfl rfl rfl (Zz Y)
 ·exact obg [9] [] true rfl (fun _=>rfl) rfl (fun _ _ _ h=>nomatch h) fun D J w _ Y=>Qaf (.slice x24.1 ((Qaq l v1).length) x24.2) (Zz Y)
 ·exact obg [9] [] true rfl (fun _=>rfl) rfl (fun _ _ _ h=>nomatch h) fun D J w _ Y=>Qaf (I7 n) (Zz Y)
 ·exact obg [9,11,12] [] true rfl (fun _=>rfl) rfl (fun _ _ _ h=>nomatch h) fun D J w _ Y=>Qbr (α:=Option Addr × Nat) (vs:=[.slice x24.1 ((Qaq l v1).length) x24.2,I7 n]) (V:=fun x=>.agg #[I7 ((Qb9 (Qaq l v1) n).cart),.slice x.1 (((Qb9 (Qaq l v1) n).lines).length) x.2,.bool ((Qb9 (Qaq l v1) n).out),.int .u32 ((Qb9 (Qaq l v1) n).tick)]) (Lo:=fun x=>[row (.slice x.1 ((Qb9 (Qaq l v1) n).lines).length x.2) (((Qb9 (Qaq l v1) n).lines).map lc) 127 2]) (F:=fun _ _=>True) Qxh rfl rfl (Qrn _ x24.1 x24.2 (Qaq l v1) n hlB (by omega) (Y.rd 8 rfl) hsortU) Y fun _ _ Y _=>⟨rfl,Y.put 10 (QQ8 rfl)⟩
 ·exact obg [9,10,13] [] true rfl (fun _=>rfl) rfl (fun _ _ _ h=>nomatch h) fun D J w _ Y=>Qgq (V':=.bool true) (congrArg Value.bool (by rw [hfr.1];exact Qja _)) (vs:=[.agg #[I7 ((QaA (Qau l v0) v1 n).cart),.slice x14.1 (((QaA (Qau l v0) v1 n).lines).length) x14.2,.bool ((QaA (Qau l v0) v1 n).out),.int .u32 ((QaA (Qau l v0) v1 n).tick)],.agg #[I7 ((Qb9 (Qaq l v1) n).cart),.slice (aOf (Qdq (J 72) 1)) (((Qb9 (Qaq l v1) n).lines).length) (cOf (Qdq (J 72) 1)),.bool ((Qb9 (Qaq l v1) n).out),.int .u32 ((Qb9 (Qaq l v1) n).tick)]]) (V:=.bool (decide ((QaA (Qau l v0) v1 n).cart=(Qb9 (Qaq l v1) n).cart)&&(((QaA (Qau l v0) v1 n).out) == ((Qb9 (Qaq l v1) n).out))&&decide ((QaA (Qau l v0) v1 n).tick=(Qb9 (Qaq l v1) n).tick)&&decide ((QaA (Qau l v0) v1 n).lines=(Qb9 (Qaq l v1) n).lines))) Qut rfl rfl (QkV _ ((QaA (Qau l v0) v1 n).cart) ((Qb9 (Qaq l v1) n).cart) ((QaA (Qau l v0) v1 n).tick) ((Qb9 (Qaq l v1) n).tick) ((QaA (Qau l v0) v1 n).out) ((Qb9 (Qaq l v1) n).out) x14.1 (aOf (Qdq (J 72) 1)) x14.2 (cOf (Qdq (J 72) 1)) ((QaA (Qau l v0) v1 n).lines) ((Qb9 (Qaq l v1) n).lines) (Y.rd 6 rfl) (Y.rd 10 rfl)) Y fun _ Y=>Zz Y
 ·exact oi [9,14] fun Y=>QcY (V:=.bool true) rfl rfl (Zz Y)
 ·exact oi [15] fun Y=>Qam (.bool true) (Zz Y)
 rintro J1 w30 J2 hJ Y
 replace hJ:J2=upd (mix (sq 59 16++[6]) J1 _) 6 (.bool true):=hJ
 replace Y:Own w no w30 [blk b1 ((vc v0)++(vc v1)) 88,row (.slice x4.1.1.1 ((Qau l v0).base.ents.length) x4.1.1.2) (((Qau l v0).base.ents).map cec) 106 7,row (.slice x4.1.2.1 ((Qau l v0).base.ticks.length) x4.1.2.2) (((Qau l v0).base.ticks).map lsc) 102 2,row (.slice x4.2.1 ((Qau l v0).ops.length) x4.2.2) (((Qau l v0).ops).map oc) 98 23,blk b6 (((vc ((Qau l v0).base.known))++[(.slice x4.1.1.1 ((Qau l v0).base.ents.length) x4.1.1.2:Value),(.slice x4.1.2.1 ((Qau l v0).base.ticks.length) x4.1.2.2:Value) ])++[(.slice x4.2.1 ((Qau l v0).ops.length) x4.2.2:Value) ]++(vc ((Qau l v0).known))) 43,blk b10 (vc v1) 24,row (.slice x14.1 (((QaA (Qau l v0) v1 n).lines).length) x14.2) (((QaA (Qau l v0) v1 n).lines).map lc) 127 2,blk b15 [I7 ((QaA (Qau l v0) v1 n).cart),.slice x14.1 (((QaA (Qau l v0) v1 n).lines).length) x14.2,.bool ((QaA (Qau l v0) v1 n).out),.int .u32 ((QaA (Qau l v0) v1 n).tick)] 49,row (.slice x24.1 ((Qaq l v1).length) x24.2) ((Qaq l v1).map oc) 98 23,row (.slice (aOf (Qdq (J1 65) 1)) (((Qcd (Qaq l v1) n).lines).length) (cOf (Qdq (J1 65) 1))) (((Qcd (Qaq l v1) n).lines).map lc) 127 2,row (.slice (aOf (Qdq (J1 72) 1)) (((Qb9 (Qaq l v1) n).lines).length) (cOf (Qdq (J1 72) 1))) (((Qb9 (Qaq l v1) n).lines).map lc) 127 2]:=Y
 generalize (aOf (Qdq (J1 65) 1))=na31 at Y
 generalize (cOf (Qdq (J1 65) 1))=nc32 at Y
 generalize (aOf (Qdq (J1 72) 1))=na33 at Y
 generalize (cOf (Qdq (J1 72) 1))=nc34 at Y
 subst hJ
 refine Qav ?_
 refine ⟨_,Qan (V:=.bool true) results9 rfl,(Zr Y ?_)⟩
 rfl
end Tt
end Go.Proofs
namespace Go.Vx
open Go.RowKit Go.ChangeShapes Go.WideShapes Go.ChangeAt
def pv2 (p:Vec × Vec):List Value:=vc p.1++vc p.2
theorem QxK {P:Program} {t el:TypeId} (ht:P.underlying t=some (.array 2 el)) (hV:QfF P el vc QbH) (hc:P.cellsOf el=16) (hct:P.cellsOf t=32):QfF P t pv2 (fun p=>QbH p.1/\QbH p.2):=by
 intro H enc w base spare held fuel cs x h
 obtain ⟨xs,m,_,_,hl,hxl,hx⟩:=DataW.trod_array ht h
 rw [hct] at hl
 have each:∀ i,i<2->∃ a,QbH a/\(cs.drop (i*16)).take 16=vc a:=by
  intro i hi
  have h1:=hx i hi
  rw [hc,List.getElem?_eq_getElem (by omega)] at h1
  exact hV _ _ _ _ _ _ _ _ _ h1
 obtain ⟨a,ha,e0⟩:=each 0 (by omega)
 obtain ⟨b,hb,e1⟩:=each 1 (by omega)
 refine ⟨(a,b),⟨ha,hb⟩,?_⟩
 show cs=vc a++vc b
 rw [Nat.zero_mul,List.drop_zero] at e0
 rw [Nat.one_mul,List.take_of_length_le (by rw [List.length_drop];omega)] at e1
 rw [← e0,← e1,List.take_append_drop]
end Go.Vx
namespace Go.Proofs.YtbjbjboehjdcaaaGreat
open Go.RowKit Go.Vx
theorem Tryz.own:ownKnob Tryz.prog.godebug=none:=by kernel_rfl
theorem Tryz.laidOut:laidOutB Tryz.prog=true:=by kernel_rfl
theorem O24:QfF Tryz.prog 24 vc QbH:=Qx0 Tryz.underlying24 Tryz.underlying22 (by kernel_rfl) (by kernel_rfl)
theorem O96:QfF Tryz.prog 96 dc QcS:=QwU Tryz.underlying96 rfl rfl Tryz.underlying5 Tryz.underlying22 (by kernel_rfl) (by kernel_rfl) (by kernel_rfl)
theorem O98:QfF Tryz.prog 98 oc QbL:=Qw0 Tryz.underlying98 rfl rfl O96 O24 Tryz.underlying5 Tryz.underlying32 Tryz.underlying32 Tryz.underlying32 Tryz.underlying22 (by kernel_rfl) (by kernel_rfl)
theorem O88:QfF Tryz.prog 88 pv2 (fun p=>QbH p.1/\QbH p.2):=QxK (P:=Tryz.prog) Tryz.underlying88 O24 (by kernel_rfl) (by kernel_rfl)
end Go.Proofs.YtbjbjboehjdcaaaGreat
namespace Go.Vx
open Go.RowKit Go.Shelf Go.Sort Go.Proofs
theorem Qp3 {w w':World} {L:List Res} (h:Own w no w' L):∃ q os,w'=grow (w.drewN q) os:=by
 refine ⟨w'.drawn-w.drawn,w'.heap.extract w.heap.size w'.heap.size,?_⟩
 have hd:w.drawn+(w'.drawn-w.drawn)=w'.drawn:=by have:=h.tape.2;omega
 have hh:w.heap++w'.heap.extract w.heap.size w'.heap.size=w'.heap:=by
  apply Array.ext_getElem?
  intro i
  by_cases hi:i<w.heap.size
  ·rw [Array.getElem?_append_left hi,h.old i hi (fun h=>h)]
  rw [Array.getElem?_append_right (by omega)]
  have:=h.size
  simp only [Array.getElem?_extract]
  split
  ·congr 1;omega
  rw [Array.getElem?_eq_none (by omega)]
 have h1:=h.os
 have h2:=h.tape.1
 have h3:=h.output
 cases w' with
 | mk heap tape drawn os output =>
  cases w with
  | mk heap0 tape0 drawn0 os0 output0 =>
   simp only at h1 h2 h3 hd hh
   subst h1;subst h2;subst h3
   simp [grow,World.drewN,hh,hd]
section
variable {P:Program} {J:Ren} {α:Type} [Inhabited α]
theorem Qk3 {enc:α->List Value} {k:Nat} {l:List α} (hk:∀ x,(enc x).length=k) {j:Nat} (hj:j<l.length*k):(l.map enc).flatten[j]?=some (flatK enc k l.toArray)[j]!:=by
 have hk0:0<k:=by
  rcases Nat.eq_zero_or_pos k with h|h
  ·subst h;simp at hj
  exact h
 have hi:j/k<l.length:=Nat.div_lt_of_lt_mul (by rw [Nat.mul_comm];exact hj)
 have hm:j%k<k:=Nat.mod_lt _ hk0
 have e1:(l.map enc)[j/k]?=some (enc l[j/k]):=by simp [hi]
 have e2:(enc l[j/k])[j%k]?=some (enc l[j/k])[j%k]!:=by
  rw [List.getElem?_eq_getElem (by rw [hk];exact hm),List.getElem!_eq_getElem?_getD,List.getElem?_eq_getElem (by rw [hk];exact hm)]
  rfl
 have h:=QhU (l.map enc) k (Qbn hk l) (j/k) (j%k) _ _ e1 e2
 rw [Nat.mul_comm,Nat.div_add_mod] at h
 rw [h,get_flatK enc k l.toArray j (by simpa using hj)]
 simp [hi]
theorem QlZ {enc:α->List Value} {k:Nat} {w:World} {S:Nat->Prop} {g cap T n:Nat} {l m:List α} {os:Array Obj} (hk:∀ x,(enc x).length=k) (h1:∀ x,∀ v∈enc x,v.oneCell'=true)
  (hR:(row (.slice (some ⟨g,0,none⟩) l.length cap) (l.map enc) T k).holds w S) (hlt:∀ b,S b->b<w.heap.size) (hlen:m.length=l.length) :
  Own w S (sortWorldK enc k w g 0 n m.toArray os) [row (.slice (some ⟨g,0,none⟩) l.length cap) (m.map enc) T k]:=by
 obtain ⟨_,hown,hS⟩:=hR
 have hSg:=hS g rfl
 have hgl:=hlt g hSg
 rcases hown.2 with ⟨hv,_⟩|⟨g',cap',cur,hv,_,hg,hnc,hcm,hcs,htake⟩
 ·cases hv
 simp only [Value.slice.injEq,Option.some.injEq,Addr.mk.injEq,and_true] at hv
 obtain ⟨rfl,hn,rfl⟩:=hv
 simp only [QQ6] at hnc htake hn
 have hX:∀ c,c<w.heap.size->(sortWorldK enc k w g 0 n m.toArray os).heap[c]?=(w.heap.modify g (onCells (putCells id 0 (flatK enc k m.toArray))))[c]?:=by
  intro c hc
  show ((w.heap.modify g (onCells (putCells id 0 (flatK enc k m.toArray))))++os)[c]?=_
  rw [Array.getElem?_append_left (by simpa using hc)]
 have hXg:(sortWorldK enc k w g 0 n m.toArray os).heap[g]?=some (.cells (putCells id 0 (flatK enc k m.toArray) cur) T (0,0)):=by
  rw [hX g hgl,Array.getElem?_modify,if_pos rfl,hg];rfl
 have hXo:∀ c,c<w.heap.size->c≠g->(sortWorldK enc k w g 0 n m.toArray os).heap[c]?=w.heap[c]?:=by
  intro c hc hne
  rw [hX c hc,Array.getElem?_modify,if_neg (fun e=>hne e.symm)]
 have hsz:(sortWorldK enc k w g 0 n m.toArray os).heap.size=w.heap.size+os.size:=by
  show ((w.heap.modify g (onCells (putCells id 0 (flatK enc k m.toArray))))++os).size=_
  simp
 refine ⟨rfl,⟨rfl,Nat.le_add_right _ _⟩,rfl,by omega,fun b hb hm=>hXo b hb (fun e=>hm (e ▸ hSg)),fun j b=>j=0/\b=g,fun j R hj=>?_,fun j b hb=>by rw [hb.2];omega,fun j j' b hb hb'=>hb.1.trans hb'.1.symm,fun j b hb _=>by rw [hb.2];exact hSg⟩
 cases j with
 | succ j=>simp at hj
 | zero =>
  simp only [List.getElem?_cons_zero,Option.some.injEq] at hj
  subst hj
  refine ⟨⟨Qbn hk m,QaW h1 m⟩,⟨?_,.inr ⟨g,cap,_,by rw [QQ6,hlen],Nat.zero_le _,hXg,by rw [QQ6];omega,hcm,by unfold putCells;simpa using hcs,?_⟩⟩,fun g' hg'=>by cases hg';exact ⟨rfl,rfl⟩⟩
  ·rw [Qcg _ (Qbn hk m)]
  apply List.ext_getElem?
  intro j
  rw [List.getElem?_take,QQ6]
  by_cases hj:j<m.length*k
  ·have hjc:j<cur.size:=by
    rw [hcs]
    exact Nat.lt_of_lt_of_le hj (Nat.mul_le_mul_right _ (by omega))
   rw [if_pos hj,Qk3 hk hj,Array.getElem?_toList]
   unfold putCells
   rw [Array.getElem?_mapIdx,Array.getElem?_eq_getElem hjc]
   simp [hj]
  rw [if_neg hj,List.getElem?_eq_none (by rw [Qcg _ (Qbn hk m),QQ6];omega)]
theorem Qq6 (L:SlLaysF0.n6 P J) {k T g:Nat} {enc:α->List Value} {cf:α->α->Int} (aE:∀ w,(isAgg (J.t 24)).run P w = .ok true w) (zE:∀ w,(Go.sizeOf (J.t 24)).run P w = .ok k w) (hk:∀ x,(enc x).length=k) (h1:∀ x,∀ v∈enc x,v.oneCell'=true)
  (hO:SWO (ltOf cf)) (hg:En P g) (hc:∀ w x y,Calls P g #[.agg (enc x).toArray,.agg (enc y).toArray] w fun e w'=>e = .returned (.int .i64 (cf x y))/\Own w no w' [])
  (hnil:∀ w,Calls P (J.f 6) #[.slice none 0 0,.func (.func g) #[] #[]] w fun e w'=>e = .returned (.tuple #[])/\w'=w) :
  Qhn P (J.f 6) g enc T k (fun l m=>m.Perm l/\m.Pairwise fun x y=>¬cf y x<0):=by
 intro w S a c l hR hlt hsz
 have hR':=hR
 obtain ⟨_,hown,hS⟩:=hR
 rcases hown.2 with ⟨hv,hn⟩|⟨b,cap,cur,hv,_,hb,hnc,hcm,hcs,htake⟩
 ·have hl:l=[]:=by simpa using hn
  subst hl
  simp only [List.length_nil,Value.slice.injEq] at hv
  obtain ⟨rfl,_,rfl⟩:=hv
  exact (hnil w).mono fun e w' ⟨he,hw⟩=>⟨⟨[],List.Perm.refl _,List.Pairwise.nil⟩,he,by subst hw;exact Own.lent hR' hlt,trivial⟩
 simp only [Value.slice.injEq,QQ6] at hv
 obtain ⟨rfl,_,rfl⟩:=hv
 have hbl:=hlt b (hS b rfl)
 have hH:HoldsK enc k w b 0 l.toArray:=by
  intro j hj
  have hj':j<l.length*k:=by simpa using hj
  rw [Nat.zero_add]
  refine ⟨?_,frozen_of_row w b _ _ _ hb⟩
  rw [cell_of_row w b j _ _ _ hb]
  have h2:=Qk3 (l:=l) hk hj'
  rw [← htake,List.getElem?_take,QQ6,if_pos hj'] at h2
  simpa using h2
 have hcmp:CmpLays P g #[] enc k cf b 0 l.toArray.size w:=fun m os dk _ x y =>
  (hc _ x y).mono fun e w' ⟨he,ho⟩=>⟨he,Qp3 ho⟩
 refine (AnyQ.slices_SortFunc L k aE zE enc hk h1 cf hO g #[] b 0 c l.toArray w hg hcmp hH hbl (by simpa using hsz)).mono ?_
 rintro e w' ⟨he,d',n,os,hp,hs,rfl⟩
 obtain ⟨hp1,_,hp2⟩:=hp
 have hsz':d'.toList.length=l.length:=by simpa using hp1
 refine ⟨⟨d'.toList,?_,?_⟩,he,?_,trivial⟩
 ·have e1:d'.extract 0 l.toArray.size=d':=by rw [← hp1];simp
  have e2:l.toArray.extract 0 l.toArray.size=l.toArray:=by simp
  rw [e1,e2] at hp2
  simpa using hp2
 ·rw [List.pairwise_iff_getElem]
  intro i j hi hj hij
  have h3:=hs i j (Nat.zero_le _) hij (by rw [← hp1];simpa using hj)
  unfold ltOf at h3
  have e1:d'[i]! = d'.toList[i]:=by simp at hi;simp [hi]
  have e2:d'[j]! = d'.toList[j]:=by simp at hj;simp [hj]
  rw [e1,e2] at h3
  simpa using h3
 have:=QlZ (n:=n) (os:=os) hk h1 hR' hlt hsz'
 simpa using this
end
end Go.Vx
namespace Go.Proofs
open Go.Shelf
def Tryz.sortE_ren:Go.Shelf.Ren:=⟨fun|6=>48|15=>92|14=>91|28=>144|29=>145|20=>136|21=>137|22=>138|23=>139|24=>140|25=>141|26=>142|27=>143|46=>161|47=>162|48=>163|49=>164|50=>165|57=>181|n=>n,fun|22=>35|24=>106|25=>116|3=>3|39=>159|0=>0|53=>22|55=>104|4=>4|46=>192|45=>191|50=>138|5=>5|9=>9|66=>211|70=>215|76=>227|77=>228|n=>n,fun|n=>n⟩
theorem Tryz.sortE:Go.Proofs.SlLaysF0.n6 Tryz.prog Tryz.sortE_ren:={
 mixed:=by kernel_rfl
 f6:=⟨Tryz.f48.name,by decide,Tryz.func48.trans (congrArg some (by kernel_rfl))⟩
 f14:=⟨Tryz.f91.name,by decide,Tryz.func91.trans (congrArg some (by kernel_rfl))⟩
 f15:=Tryz.func92.trans (congrArg some (by kernel_rfl))
 f20:=⟨Tryz.f136.name,by decide,Tryz.func136.trans (congrArg some (by kernel_rfl))⟩
 f21:=⟨Tryz.f137.name,by decide,Tryz.func137.trans (congrArg some (by kernel_rfl))⟩
 f22:=⟨Tryz.f138.name,by decide,Tryz.func138.trans (congrArg some (by kernel_rfl))⟩
 f23:=⟨Tryz.f139.name,by decide,Tryz.func139.trans (congrArg some (by kernel_rfl))⟩
 f24:=⟨Tryz.f140.name,by decide,Tryz.func140.trans (congrArg some (by kernel_rfl))⟩
 f25:=⟨Tryz.f141.name,by decide,Tryz.func141.trans (congrArg some (by kernel_rfl))⟩
 f26:=⟨Tryz.f142.name,by decide,Tryz.func142.trans (congrArg some (by kernel_rfl))⟩
 f27:=⟨Tryz.f143.name,by decide,Tryz.func143.trans (congrArg some (by kernel_rfl))⟩
 f28:=Tryz.func144.trans (congrArg some (by kernel_rfl))
 f29:=Tryz.func145.trans (congrArg some (by kernel_rfl))
 f46:=⟨Tryz.f161.name,by decide,Tryz.func161.trans (congrArg some (by kernel_rfl))⟩
 f47:=Tryz.func162.trans (congrArg some (by kernel_rfl))
 f48:=Tryz.func163.trans (congrArg some (by kernel_rfl))
 f49:=⟨Tryz.f164.name,by decide,Tryz.func164.trans (congrArg some (by kernel_rfl))⟩
 f50:=⟨Tryz.f165.name,by decide,Tryz.func165.trans (congrArg some (by kernel_rfl))⟩
 f57:=⟨Tryz.f181.name,by decide,Tryz.func181.trans (congrArg some (by kernel_rfl))⟩
 t0:=Tryz.underlying0
 a0:=Tryz.isAgg0
 z0:=Tryz.sizeOf0
 v0:=Tryz.zeroValue0
 t3:=Tryz.underlying3
 a3:=Tryz.isAgg3
 z3:=Tryz.sizeOf3
 v3:=Tryz.zeroValue3
 t4:=Tryz.underlying4
 a4:=Tryz.isAgg4
 z4:=Tryz.sizeOf4
 v4:=Tryz.zeroValue4
 t5:=Tryz.underlying5
 a5:=Tryz.isAgg5
 z5:=Tryz.sizeOf5
 v5:=Tryz.zeroValue5
 t9:=Tryz.underlying9
 a9:=Tryz.isAgg9
 z9:=Tryz.sizeOf9
 v9:=Tryz.zeroValue9
 t22:=Tryz.underlying35
 a22:=Tryz.isAgg35
 z22:=Tryz.sizeOf35
 v22:=Tryz.zeroValue35
 t25:=Tryz.underlying116
 a25:=Tryz.isAgg116
 z25:=Tryz.sizeOf116
 v25:=Tryz.zeroValue116
 t39:=Tryz.underlying159
 a39:=Tryz.isAgg159
 z39:=Tryz.sizeOf159
 v39:=Tryz.zeroValue159
 t45:=Tryz.underlying191
 a45:=Tryz.isAgg191
 z45:=Tryz.sizeOf191
 v45:=Tryz.zeroValue191
 t46:=Tryz.underlying192
 a46:=Tryz.isAgg192
 z46:=Tryz.sizeOf192
 v46:=Tryz.zeroValue192
 t50:=Tryz.underlying138
 a50:=Tryz.isAgg138
 z50:=Tryz.sizeOf138
 v50:=Tryz.zeroValue138
 t53:=Tryz.underlying22
 a53:=Tryz.isAgg22
 z53:=Tryz.sizeOf22
 v53:=Tryz.zeroValue22
 t55:=Tryz.underlying104
 a55:=Tryz.isAgg104
 z55:=Tryz.sizeOf104
 v55:=Tryz.zeroValue104
 t66:=Tryz.underlying211
 a66:=Tryz.isAgg211
 z66:=Tryz.sizeOf211
 v66:=Tryz.zeroValue211
 t70:=Tryz.underlying215
 a70:=Tryz.isAgg215
 z70:=Tryz.sizeOf215
 v70:=Tryz.zeroValue215
 t76:=Tryz.underlying227
 a76:=Tryz.isAgg227
 z76:=Tryz.sizeOf227
 v76:=Tryz.zeroValue227
 t77:=Tryz.underlying228
 a77:=Tryz.isAgg228
 z77:=Tryz.sizeOf228
 v77:=Tryz.zeroValue228 }
end Go.Proofs
namespace Go.Proofs.YtbjbjboehjdcaaaGreat
open Go.Vx Go.Sort Go.Proofs
theorem Qyd:SWO (ltOf Qb1) where
 irrefl x:=by unfold ltOf;rw [decide_eq_false_iff_not,Qd3,Qb5];decide
 trans x y z h1 h2:=by unfold ltOf at *;rw [decide_eq_true_iff,Qd3] at *;exact QcE h1 h2
 ntrans x y z h1 h2:=by unfold ltOf at *;rw [decide_eq_false_iff_not,Qd3,QdX] at *;omega
theorem QvG:Qhn Tryz.prog 48 49 cec 106 7 Qlk :=
 Qq6 (J:=Tryz.sortE_ren) (k:=7) (T:=106) Tryz.sortE Tryz.isAgg106 Tryz.sizeOf106 (fun _=>rfl) Qby Qyd Tryz.call49 (fun w x y=>Tt.order_ok w x y) (fun w=>AnyF.slices_SortFunc_none Tryz.sortE none 0 _ w)
end Go.Proofs.YtbjbjboehjdcaaaGreat
namespace Go.Proofs
open Go Go.Vx Go.RowKit
open Go.Sort (ltInt medianAdjacent order2 partition)
open Tryz
namespace Tt
theorem Qpn (w:World) (x:Int):Calls prog 127 #[.int .u16 x] w (fun e w'=>e = .returned (.bool false)/\Own w no w' []):=by
 refine Qah (n:=6) func127 rfl ntmps127 rfl ?_
 have Y:=Own.start w
 refine Qae (Qab (Qaa (Qam (.bool false) (Qad (Qae (Qab (Qaa (Qaf (I7 x) (Qaa (Qaf (I7 x) (Qaa (Qck rfl rfl (Qaa (Qam (.bool (!decide (x=x))) (Qad (Qav ?_))))))))))))))))
 refine ⟨_,Qan (V:=.bool (!decide (x=x))) results127 rfl,(Zr Y ?_)⟩
 simp
theorem QcF (w:World) (x y:Int):Calls prog 178 #[.int .u16 x,.int .u16 y] w (fun e w'=>e = .returned (.bool (decide (x<y)))/\Own w no w' []):=by
 refine Qah (n:=17) func178 rfl ntmps178 rfl ?_
 have Y:=Own.start w
 refine Qae (Qab (Qaa (Qam (.bool false) (Qad (Qae (Qbv (so 5 12++[some 4]) [] [0,1,3,7,15,31,63,127,255,255,1023,2047,4095] [pv (I7 x),pv (.bool false),pv (.bool false),pg false (.bool true),pg false (.bool true),pg false (.bool true),pv (.bool false),pv (.bool false),pv (I7 x),pv (I7 y),pv (.bool (decide (x<y))),pv (.bool (decide (x<y))),pv (.bool (decide (x<y)))] (fun _ _=>_) [12] (by kernel_rfl) Y ⟨?_,?_,?_,?_,?_,?_,?_,?_,?_,?_,?_,?_,?_,trivial⟩ ?_))))))
 ·exact oi [] fun Y=>Qaf (.int .u16 x) (Zz Y)
 ·exact oi [0] fun Y=>Qas (vs:=[.int .u16 x]) (V:=.bool false) QnS rfl rfl (Qpn _ x) Y fun _ Y=>Zz Y
 ·exact oi [1] fun Y=>Qaf (.bool false) (Zz Y)
 ·exact obg [] [] false rfl (fun _=>rfl) rfl (fun _ _ _ _ h=>h) (fun _ _ _ h=>nomatch h)
 ·exact obg [] [] false rfl (fun _=>rfl) rfl (fun _ _ _ _ h=>h) (fun _ _ _ h=>nomatch h)
 ·exact obg [] [] false rfl (fun _=>rfl) rfl (fun _ _ _ _ h=>h) (fun _ _ _ h=>nomatch h)
 ·exact oi [2] fun Y=>QcY (V:=.bool false) rfl rfl (Zz Y)
 ·exact oi [6] fun Y=>Qaf (.bool false) (Zz Y)
 ·exact obg [7] [] false rfl (fun _=>rfl) rfl (fun _ _ _ h=>nomatch h) fun D J w _ Y=>Qaf (I7 x) (Zz Y)
 ·exact obg [7] [] false rfl (fun _=>rfl) rfl (fun _ _ _ h=>nomatch h) fun D J w _ Y=>Qaf (I7 y) (Zz Y)
 ·exact obg [7,8,9] [] false rfl (fun _=>rfl) rfl (fun _ _ _ h=>nomatch h) fun D J w _ Y=>Qa0 rfl rfl (Zz Y)
 ·exact oi [7,10] fun Y=>QcY (V:=.bool (decide (x<y))) rfl rfl (Zz Y)
 ·exact oi [11] fun Y=>Qam (.bool (decide (x<y))) (Zz Y)
 rintro J1 w2 J2 hJ Y
 replace hJ:J2=upd (mix (sq 5 12++[4]) J1 _) 4 (.bool (decide (x<y))):=hJ
 subst hJ
 refine Qav ?_
 refine ⟨_,Qan (V:=.bool (decide (x<y))) results178 rfl,(Zr Y ?_)⟩
 first|rfl|simp
theorem Qti {lo j:Nat} {d:Array Int} (h1:(lo:Int)<(j:Int)) (h2:d[j]!<d[j-1]!):Sort.insInner ltInt lo j d=Sort.insInner ltInt lo (j-1) (Sort.swp d j (j-1)):=by
 obtain ⟨i,rfl⟩:∃ i,j=i+1:=⟨j-1,by omega⟩
 rw [Nat.add_sub_cancel] at *
 rw [Sort.insInner,if_pos]
 simp [ltInt,h2];omega
theorem QvW {lo j:Nat} {d:Array Int} (h:(decide ((lo:Int)<(j:Int))&&decide (d[j]!<d[j-1]!))=false):Sort.insInner ltInt lo j d=d:=by
 cases j with
 | zero=>rfl
 | succ i =>
  rw [Sort.insInner,if_neg]
  intro h2
  simp [ltInt] at h2 h
  have:=h (by omega)
  omega
theorem QsM {lo hi k:Nat} {d:Array Int} (h:(k:Int)<(hi:Int)):Sort.insOuter ltInt lo hi k d=Sort.insOuter ltInt lo hi (k+1) (Sort.insInner ltInt lo k d):=by
 rw [Sort.insOuter,if_pos (by omega)]
theorem QvO {lo hi k:Nat} {d:Array Int} (h:¬(k:Int)<(hi:Int)):Sort.insOuter ltInt lo hi k d=d:=by
 rw [Sort.insOuter,if_neg (by omega)]
theorem Qvo (w:World) (S:Nat->Prop) (a:Option Addr) (N c:Nat) (d:Array Int) (hsz:d.size=N) (hN:N<=2305843009213693951) (lo hi:Nat) (h1:lo<=hi) (h2:hi<=N) (hR:(row (.slice a N c) (d.toList.map (ic .u16)) 32 1).holds w S) (hlt:∀ x,S x->x<w.heap.size):Calls prog 172 #[.slice a N c,.int .i64 (lo:Int),.int .i64 (hi:Int)] w (fun e w'=>∃ x:Unit,e = .returned (.tuple #[])/\Own w S w' [row (.slice a N c) ((Sort.insertionSort ltInt d lo hi).toList.map (ic .u16)) 32 1]/\(Sort.insertionSort ltInt d lo hi).size=N):=by
 refine Qah (n:=49) func172 rfl ntmps172 rfl ?_
 have Y:=Own.lent hR hlt
 refine Qae (Qab (Qaa (Qaf (I6 (lo:Int)) (Qaa (QaB (a:=(lo:Int)) (b:=1) (c:=((lo+1:Nat):Int)) rfl rfl (Qaj (by omega) (by omega)) (Qaa (Qam (I6 ((lo+1:Nat):Int)) (Qad (Qal (QaE (fun J μ J' w'=>∃ (Jo:Env) (k:Nat) (d1:Array Int),J'=upd (mix ([6,7]++sq 10 39) Jo J) 6 (I6 (k:Int))/\(lo+1<=k)/\(k<=hi∨k=lo+1)/\(d1.size=N)/\(Sort.insOuter ltInt lo hi k d1=Sort.insertionSort ltInt d lo hi)/\μ=hi-k/\Own w S w' [row (.slice a N c) (d1.toList.map (ic .u16)) 32 1]) ?_ ?_))))))))))
 ·exact ⟨_,_,lo+1,d,Qai (Qao (ds:=([6,7]++sq 10 39)) (Agr.refl _ _)) rfl,(Nat.le_refl _),(Or.inr rfl),hsz,rfl,rfl,Y⟩
 rintro μ J' w1 ⟨Jo,k,d1,rfl,hk0,hk,hz1,hev,rfl,Y⟩
 refine Qae (Qae (Qab (Qaa (Qaf (I6 (k:Int)) (Qaa (Qaf (I6 (hi:Int)) (Qaa (Qa0 rfl rfl (Qad (Qak (t:=decide ((k:Int)<(hi:Int))) rfl (fun c2=>?_) (fun c2=>?_)))))))))))
 ·
  replace c2:=QQ1 c2
  refine Qap (Qae (Qal (Qae (Qab (Qaa (Qaf (I6 (k:Int)) (Qaa (Qam (I6 (k:Int)) (Qad (Qal (QaE (fun J μ J' w'=>∃ (Jo:Env) (j:Nat) (d2:Array Int),J'=upd (mix ([7]++sq 16 33) Jo J) 7 (I6 (j:Int))/\(lo<=j)/\(j<=k)/\(d2.size=N)/\(Sort.insInner ltInt lo j d2=Sort.insInner ltInt lo k d1)/\μ=2*j/\Own w S w' [row (.slice a N c) (d2.toList.map (ic .u16)) 32 1]) ?_ ?_)))))))))))
  ·exact ⟨_,_,k,d1,Qai (Qao (ds:=([7]++sq 16 33)) (Agr.refl _ _)) rfl,(by omega),(Nat.le_refl _),hz1,rfl,rfl,Y⟩
  rintro μ J' w3 ⟨Jo,j,d2,rfl,hj0,hj,hz2,hin,rfl,Y⟩
  refine Qae (Qae (QaH HM (so 16 15) [] [0,0,3,7,15,15,63,127,15,15,527,1807,3855,8191,16383] [pv (I6 (j:Int)),pv (I6 (lo:Int)),pv (.bool (decide ((lo:Int)<(j:Int)))),pv (.bool (decide ((lo:Int)<(j:Int)))),pg ((decide ((lo:Int)<(j:Int))) == true) (.slice a N c),pg ((decide ((lo:Int)<(j:Int))) == true) (I6 (j:Int)),pg ((decide ((lo:Int)<(j:Int))) == true) (.pointer (some ⟨bkS (.slice a N c),ofS (.slice a N c)+(j:Int).toNat*1,none⟩)),pg ((decide ((lo:Int)<(j:Int))) == true) (I7 (d2[j]!)),pg ((decide ((lo:Int)<(j:Int))) == true) (.slice a N c),pg ((decide ((lo:Int)<(j:Int))) == true) (I6 (j:Int)),pg ((decide ((lo:Int)<(j:Int))) == true) (I6 ((j-1:Nat):Int)),pg ((decide ((lo:Int)<(j:Int))) == true) (.pointer (some ⟨bkS (.slice a N c),ofS (.slice a N c)+((j-1:Nat):Int).toNat*1,none⟩)),pg ((decide ((lo:Int)<(j:Int))) == true) (I7 (d2[j-1]!)),pg ((decide ((lo:Int)<(j:Int))) == true) (.bool (decide (d2[j]!<d2[j-1]!))),pv (.bool ((decide ((lo:Int)<(j:Int)))&&(decide (d2[j]!<d2[j-1]!))))] (fun _ _=>_) [14] (by kernel_rfl) Y ⟨?_,?_,?_,?_,?_,?_,?_,?_,?_,?_,?_,?_,?_,?_,?_,trivial⟩ ?_))
  ·exact oi [] fun Y=>Qaf (.int .i64 (j:Int)) (Zz Y)
  ·exact oi [] fun Y=>Qaf (.int .i64 (lo:Int)) (Zz Y)
  ·exact oi [0,1] fun Y=>Qca rfl rfl (Zz Y)
  ·exact oi [2] fun Y=>Qaf (.bool (decide ((lo:Int)<(j:Int)))) (Zz Y)
  ·refine ogi [3] fun hG Y=>?_
   have hgd:=QQ1 (eq_of_beq hG)
   exact Qaf (.slice a N c) (Zz Y)
  ·refine ogi [3] fun hG Y=>?_
   have hgd:=QQ1 (eq_of_beq hG)
   exact Qaf (.int .i64 (j:Int)) (Zz Y)
  ·refine oyi [3,4,5] [4,5] fun hG Y=>?_
   have hgd:=QQ1 (eq_of_beq hG)
   exact Qax QaP Qar.1 (Y.rd 0 rfl) rfl rfl (by omega) (by simp only [QQ6,QQ9,QQ5,Go.Sort.size_swp];omega) (Zz Y)
  ·refine oyi [3,6] [6] fun hG Y=>?_
   have hgd:=QQ1 (eq_of_beq hG)
   exact QaV (j:=0) (V:=.int .u16 (d2[j]!)) j Qar (Y.rd 0 rfl) (QbA (by omega)) rfl rfl (by omega) (Zz Y)
  ·refine ogi [3] fun hG Y=>?_
   have hgd:=QQ1 (eq_of_beq hG)
   exact Qaf (.slice a N c) (Zz Y)
  ·refine ogi [3] fun hG Y=>?_
   have hgd:=QQ1 (eq_of_beq hG)
   exact Qaf (.int .i64 (j:Int)) (Zz Y)
  ·refine oyi [3,9] [9] fun hG Y=>?_
   have hgd:=QQ1 (eq_of_beq hG)
   exact Qbb (a:=(j:Int)) (b:=1) (c:=((j-1:Nat):Int)) rfl rfl (Qaj (by omega) (by omega)) (Zz Y)
  ·refine oyi [3,8,10] [8,10] fun hG Y=>?_
   have hgd:=QQ1 (eq_of_beq hG)
   exact Qax QaP Qar.1 (Y.rd 0 rfl) rfl rfl (by omega) (by simp only [QQ6,QQ9,QQ5,Go.Sort.size_swp];omega) (Zz Y)
  ·refine oyi [3,11] [11] fun hG Y=>?_
   have hgd:=QQ1 (eq_of_beq hG)
   exact QaV (j:=0) (V:=.int .u16 (d2[j-1]!)) (j-1) Qar (Y.rd 0 rfl) (QbA (by omega)) rfl rfl (by omega) (Zz Y)
  ·refine oyi [3,7,12] [7,12] fun hG Y=>?_
   have hgd:=QQ1 (eq_of_beq hG)
   exact Qas (vs:=[.int .u16 (d2[j]!),.int .u16 (d2[j-1]!)]) (V:=.bool (decide (d2[j]!<d2[j-1]!))) Qdr rfl rfl (QcF _ (d2[j]!) (d2[j-1]!)) Y fun _ Y=>Zz Y
  ·exact oi [3,13] fun Y=>Qbg (h':=decide (d2[j]!<d2[j-1]!)) rfl rfl rfl (Zz Y)
  rintro J1 w5 J2 hJ Y
  replace hJ:J2=upd (mix (sq 16 15) J1 _) 30 (.bool ((decide ((lo:Int)<(j:Int)))&&(decide (d2[j]!<d2[j-1]!)))):=hJ
  subst hJ
  refine Qak (t:=(decide ((lo:Int)<(j:Int)))&&(decide (d2[j]!<d2[j-1]!))) rfl (fun c6=>?_) (fun c6=>?_)
  ·
   have c6r:=Qcl c6
   replace c6:=QbZ c6
   replace c6:=QQ1 c6
   replace c6r:=QQ1 c6r
   refine Qap (Qae (Qal (QaH HM (so 33 15++[none,some 48,none]) [] [0,0,0,0,8,0,0,64,224,480,0,0,3072,7168,16355,32739,65535,131071] [pv (.slice a N c),pv (I6 (j:Int)),pv (.slice a N c),pv (I6 (j:Int)),pv (I6 ((j-1:Nat):Int)),pv (.slice a N c),pv (I6 (j:Int)),pv (I6 ((j-1:Nat):Int)),pv (.pointer (some ⟨bkS (.slice a N c),ofS (.slice a N c)+((j-1:Nat):Int).toNat*1,none⟩)),pv (I7 (d2[j-1]!)),pv (.slice a N c),pv (I6 (j:Int)),pv (.pointer (some ⟨bkS (.slice a N c),ofS (.slice a N c)+(j:Int).toNat*1,none⟩)),pv (I7 (d2[j]!)),pv (.pointer (some ⟨bkS (.slice a N c),ofS (.slice a N c)+(j:Int).toNat*1,none⟩)),pn,pv (.pointer (some ⟨bkS (.slice a N c),ofS (.slice a N c)+((j-1:Nat):Int).toNat*1,none⟩)),pn] (fun D J=>[cond (D 17) (row (.slice a N c) ((((d2.setIfInBounds j (d2[j-1]!)).setIfInBounds (j-1) (d2[j]!)).toList).map (ic .u16)) 32 1) (cond (D 15) (row (.slice a N c) (((d2.setIfInBounds j (d2[j-1]!)).toList).map (ic .u16)) 32 1) (row (.slice a N c) (d2.toList.map (ic .u16)) 32 1))]) [] (by kernel_rfl) Y ⟨?_,?_,?_,?_,?_,?_,?_,?_,?_,?_,?_,?_,?_,?_,?_,?_,?_,?_,trivial⟩ ?_)))
   ·exact oi [] fun Y=>Qaf (.slice a N c) (Zz Y)
   ·exact oi [] fun Y=>Qaf (.int .i64 (j:Int)) (Zz Y)
   ·exact oi [] fun Y=>Qaf (.slice a N c) (Zz Y)
   ·exact oi [] fun Y=>Qaf (.int .i64 (j:Int)) (Zz Y)
   ·exact oi [3] fun Y=>Qbb (a:=(j:Int)) (b:=1) (c:=((j-1:Nat):Int)) rfl rfl (Qaj (by omega) (by omega)) (Zz Y)
   ·exact oi [] fun Y=>Qaf (.slice a N c) (Zz Y)
   ·exact oi [] fun Y=>Qaf (.int .i64 (j:Int)) (Zz Y)
   ·exact oi [6] fun Y=>Qbb (a:=(j:Int)) (b:=1) (c:=((j-1:Nat):Int)) rfl rfl (Qaj (by omega) (by omega)) (Zz Y)
   ·exact ob [5,7] [15,17] rfl rfl fun D J w Y=>Qax QaP Qar.1 (Y.rd 0 rfl) rfl rfl (by omega) (by simp only [QQ6,QQ9,QQ5,Go.Sort.size_swp];omega) (Zz Y)
   ·exact ob [8] [15,17] rfl rfl fun D J w Y=>QaV (j:=0) (V:=I7 (d2[j-1]!)) (j-1) Qar (Y.rd 0 rfl) (QbA (by omega)) rfl rfl (by omega) (Zz Y)
   ·exact oi [] fun Y=>Qaf (.slice a N c) (Zz Y)
   ·exact oi [] fun Y=>Qaf (.int .i64 (j:Int)) (Zz Y)
   ·exact ob [10,11] [15,17] rfl rfl fun D J w Y=>Qax QaP Qar.1 (Y.rd 0 rfl) rfl rfl (by omega) (by simp only [QQ6,QQ9,QQ5,Go.Sort.size_swp];omega) (Zz Y)
   ·exact ob [12] [15,17] rfl rfl fun D J w Y=>QaV (j:=0) (V:=I7 (d2[j]!)) j Qar (Y.rd 0 rfl) (QbA (by omega)) rfl rfl (by omega) (Zz Y)
   ·exact ob [0,1] [15,17] rfl rfl fun D J w Y=>Qax QaP Qar.1 (Y.rd 0 rfl) rfl rfl (by omega) (by simp only [QQ6,QQ9,QQ5,Go.Sort.size_swp];omega) (Zz Y)
   ·exact ob [9,14] [17] rfl rfl fun D J w Y=>Qcv (z:=d2[j-1]!) j Qar Y 0 rfl rfl (by omega) (by first|omega|(simp only [QQ5,Go.Sort.size_swp];omega)) rfl rfl rfl fun _ Y=>⟨trivial,Y⟩
   ·exact ob [2,4,15] [17] rfl rfl fun D J w Y=>Qax QaP Qar.1 (Y.rd 0 rfl) rfl rfl (by omega) (by simp only [QQ6,QQ9,QQ5,Go.Sort.size_swp];omega) (Zz Y)
   ·exact oi [13,15,16] fun Y=>Qcv (z:=d2[j]!) (j-1) Qar Y 0 rfl rfl (by omega) (by first|omega|(simp only [QQ5,Go.Sort.size_swp];omega)) rfl rfl rfl fun _ Y=>⟨trivial,Y⟩
   rintro J1 w9 J2 hJ Y
   replace hJ:J2=mix (sq 33 16) J1 _:=hJ
   replace Y:Own w S w9 [row (.slice a N c) ((((d2.setIfInBounds j (d2[j-1]!)).setIfInBounds (j-1) (d2[j]!)).toList).map (ic .u16)) 32 1]:=Y
   subst hJ
   refine Qab (Qaa (Qaf (I6 (j:Int)) (Qaa (Qbb (a:=(j:Int)) (b:=1) (c:=((j-1:Nat):Int)) rfl rfl (Qaj (by omega) (by omega)) (Qaa (Qam (I6 ((j-1:Nat):Int)) (Qad ?_)))))))
   refine ⟨_,?_,_,j-1,((d2.setIfInBounds j (d2[j-1]!)).setIfInBounds (j-1) (d2[j]!)),Qai (Qao (ds:=([7]++sq 16 33)) (by repeat (first|exact Agr.refl _ _|refine Agr.upd ?_ rfl|refine Agr.mix ?_ rfl))) rfl,(by omega),(by omega),(by simp only [QQ5];exact hz2),(by rw [← hin];exact (Qti c6 c6r).symm),rfl,Y.take 1⟩
   omega
  refine QaI (Qab (Qaa (Qaf (I6 (k:Int)) (Qaa (QaB (a:=(k:Int)) (b:=1) (c:=((k+1:Nat):Int)) rfl rfl (Qaj (by omega) (by omega)) (Qaa (Qam (I6 ((k+1:Nat):Int)) (Qad ?_))))))))
  refine ⟨_,?_,_,k+1,d2,Qai (Qao (ds:=([6,7]++sq 10 39)) (by repeat (first|exact Agr.refl _ _|refine Agr.upd ?_ rfl|refine Agr.mix ?_ rfl))) rfl,(by omega),(by omega),hz2,(by rw [← hev,QsM (d:=d1) c2,← hin,QvW c6]),rfl,Y.take 1⟩
  omega
 replace c2:=QQ2 c2
 refine QaI ?_
 refine ⟨_,Qbl results172,?_⟩
 have hX:d1=Sort.insertionSort ltInt d lo hi:=by rw [← hev,QvO c2]
 exact ⟨(),rfl,hX ▸ Y.take 1,hX ▸ (by first|assumption|(simp only [QQ5,Go.Sort.size_swp];omega))⟩
end Tt
end Go.Proofs
namespace Go.Proofs
open Go Go.Vx Go.RowKit
open Go.Sort (ltInt medianAdjacent order2 partition)
open Tryz
namespace Tt
section
variable {hi first r:Nat} {d:Array Int}
theorem QtC (h:(hi:Int)<=((2*r+1:Nat):Int)):Sort.siftDown ltInt hi first r d=d:=by rw [Sort.siftDown,dif_pos (by omega)]
theorem Qx9 (h:¬(hi:Int)<=((2*r+1:Nat):Int)) (h1:(((2*r+1)+1:Nat):Int)<(hi:Int)) (h2:d[first+(2*r+1)]!<d[(first+(2*r+1))+1]!) :
  Sort.siftDown ltInt hi first r d=if d[first+r]!<d[first+((2*r+1)+1)]! then Sort.siftDown ltInt hi first ((2*r+1)+1) (Sort.swp d (first+r) (first+((2*r+1)+1))) else d:=by
 rw [Sort.siftDown,dif_neg (by omega),if_pos (by simp only [ltInt,h2,decide_true,Bool.and_true,decide_eq_true_eq];omega)]
 by_cases h3:d[first+r]!<d[first+(2*r+2)]!
 ·rw [if_neg (by simp [ltInt,h3]),dif_pos (by omega)]
  show _=if d[first+r]!<d[first+(2*r+2)]! then Sort.siftDown ltInt hi first (2*r+2) (Sort.swp d (first+r) (first+(2*r+2))) else d
  rw [if_pos h3]
 rw [if_pos (by simp only [ltInt,Bool.not_eq_true',decide_eq_false_iff_not];exact h3)]
 show _=if d[first+r]!<d[first+(2*r+2)]! then Sort.siftDown ltInt hi first (2*r+2) (Sort.swp d (first+r) (first+(2*r+2))) else d
 rw [if_neg h3]
theorem Qx7 (h:¬(hi:Int)<=((2*r+1:Nat):Int)) (h1:(decide ((((2*r+1)+1:Nat):Int)<(hi:Int))&&decide (d[first+(2*r+1)]!<d[(first+(2*r+1))+1]!))=false) :
  Sort.siftDown ltInt hi first r d=if d[first+r]!<d[first+(2*r+1)]! then Sort.siftDown ltInt hi first (2*r+1) (Sort.swp d (first+r) (first+(2*r+1))) else d:=by
 rw [Sort.siftDown,dif_neg (by omega),if_neg]
 ·by_cases h3:d[first+r]!<d[first+(2*r+1)]!
  ·rw [if_neg (by simp [ltInt,h3]),if_pos h3]
  rw [if_pos (by simp only [ltInt,Bool.not_eq_true',decide_eq_false_iff_not];exact h3),if_neg h3]
 intro h2
 rw [Bool.and_eq_true,decide_eq_true_iff] at h2
 rw [Bool.and_eq_false_iff,decide_eq_false_iff_not,decide_eq_false_iff_not] at h1
 rcases h1 with h1|h1
 ·exact h1 (by omega)
 exact h1 (by simpa [ltInt] using h2.2)
end
theorem QmV (w:World) (S:Nat->Prop) (a:Option Addr) (N c:Nat) (d:Array Int) (hsz:d.size=N) (hN:N<=2305843009213693951) (lo hi first:Nat) (h1:lo<=N) (h2:first+hi<=N) (hR:(row (.slice a N c) (d.toList.map (ic .u16)) 32 1).holds w S) (hlt:∀ x,S x->x<w.heap.size):Calls prog 185 #[.slice a N c,.int .i64 (lo:Int),.int .i64 (hi:Int),.int .i64 (first:Int)] w (fun e w'=>∃ x:Unit,e = .returned (.tuple #[])/\Own w S w' [row (.slice a N c) ((Sort.siftDown ltInt hi first lo d).toList.map (ic .u16)) 32 1]/\(Sort.siftDown ltInt hi first lo d).size=N):=by
 refine Qah (n:=76) func185 rfl ntmps185 rfl ?_
 have Y:=Own.lent hR hlt
 refine Qae (Qab (Qaa (Qaf (I6 (lo:Int)) (Qaa (Qam (I6 (lo:Int)) (Qad (Qal (QaE (fun J μ J' w'=>∃ (Jo:Env) (r:Nat) (d1:Array Int),J'=upd (mix ([8,9]++sq 11 65) Jo J) 8 (I6 (r:Int))/\(r<=N)/\(d1.size=N)/\(Sort.siftDown ltInt hi first r d1=Sort.siftDown ltInt hi first lo d)/\μ=hi-r/\Own w S w' [row (.slice a N c) (d1.toList.map (ic .u16)) 32 1]) ?_ ?_))))))))
 ·exact ⟨_,_,lo,d,Qai (Qao (ds:=([8,9]++sq 11 65)) (Agr.refl _ _)) rfl,(by omega),hsz,rfl,rfl,Y⟩
 rintro μ J' w1 ⟨Jo,r,d1,rfl,hr0,hz1,hev,rfl,Y⟩
 refine Qal (Qae (Qab (Qaa (Qaf (I6 (r:Int)) (Qaa (Qhh (a:=2) (b:=(r:Int)) (c:=((2*r:Nat):Int)) rfl rfl (Qaj (by omega) (by omega)) (Qaa (QaB (a:=((2*r:Nat):Int)) (b:=1) (c:=(((2*r)+1:Nat):Int)) rfl rfl (Qaj (by omega) (by omega)) (Qaa (Qam (I6 (((2*r)+1:Nat):Int)) (Qad (Qae (Qae (Qab (Qaa (Qaf (I6 (((2*r)+1:Nat):Int)) (Qaa (Qaf (I6 (hi:Int)) (Qaa (QcZ rfl rfl (Qad (Qak (t:=decide ((hi:Int)<=(((2*r)+1:Nat):Int))) rfl (fun c2=>?_) (fun c2=>?_)))))))))))))))))))))))
 ·
  replace c2:=QQ1 c2
  refine QaI ?_
  refine ⟨_,Qbl results185,?_⟩
  have hX:d1=Sort.siftDown ltInt hi first lo d:=by rw [← hev,QtC c2]
  exact ⟨(),rfl,hX ▸ Y.take 1,hX ▸ (by first|assumption|(simp only [QQ5,Go.Sort.size_swp];omega))⟩
 replace c2:=QQ2 c2
 refine Qap (Qae (Qae (QaH HM (so 17 20) [] [0,1,0,7,15,31,31,31,223,511,1023,31,31,31,12319,28703,63519,129055,262143,524287] [pv (I6 (((2*r)+1:Nat):Int)),pv (I6 ((((2*r)+1)+1:Nat):Int)),pv (I6 (hi:Int)),pv (.bool (decide (((((2*r)+1)+1:Nat):Int)<(hi:Int)))),pv (.bool (decide (((((2*r)+1)+1:Nat):Int)<(hi:Int)))),pg ((decide (((((2*r)+1)+1:Nat):Int)<(hi:Int))) == true) (.slice a N c),pg ((decide (((((2*r)+1)+1:Nat):Int)<(hi:Int))) == true) (I6 (first:Int)),pg ((decide (((((2*r)+1)+1:Nat):Int)<(hi:Int))) == true) (I6 (((2*r)+1:Nat):Int)),pg ((decide (((((2*r)+1)+1:Nat):Int)<(hi:Int))) == true) (I6 ((first+((2*r)+1):Nat):Int)),pg ((decide (((((2*r)+1)+1:Nat):Int)<(hi:Int))) == true) (.pointer (some ⟨bkS (.slice a N c),ofS (.slice a N c)+((first+((2*r)+1):Nat):Int).toNat*1,none⟩)),pg ((decide (((((2*r)+1)+1:Nat):Int)<(hi:Int))) == true) (I7 (d1[first+((2*r)+1)]!)),pg ((decide (((((2*r)+1)+1:Nat):Int)<(hi:Int))) == true) (.slice a N c),pg ((decide (((((2*r)+1)+1:Nat):Int)<(hi:Int))) == true) (I6 (first:Int)),pg ((decide (((((2*r)+1)+1:Nat):Int)<(hi:Int))) == true) (I6 (((2*r)+1:Nat):Int)),pg ((decide (((((2*r)+1)+1:Nat):Int)<(hi:Int))) == true) (I6 ((first+((2*r)+1):Nat):Int)),pg ((decide (((((2*r)+1)+1:Nat):Int)<(hi:Int))) == true) (I6 (((first+((2*r)+1))+1:Nat):Int)),pg ((decide (((((2*r)+1)+1:Nat):Int)<(hi:Int))) == true) (.pointer (some ⟨bkS (.slice a N c),ofS (.slice a N c)+(((first+((2*r)+1))+1:Nat):Int).toNat*1,none⟩)),pg ((decide (((((2*r)+1)+1:Nat):Int)<(hi:Int))) == true) (I7 (d1[(first+((2*r)+1))+1]!)),pg ((decide (((((2*r)+1)+1:Nat):Int)<(hi:Int))) == true) (.bool (decide (d1[first+((2*r)+1)]!<d1[(first+((2*r)+1))+1]!))),pv (.bool ((decide (((((2*r)+1)+1:Nat):Int)<(hi:Int)))&&(decide (d1[first+((2*r)+1)]!<d1[(first+((2*r)+1))+1]!))))] (fun _ _=>_) [19] (by kernel_rfl) Y ⟨?_,?_,?_,?_,?_,?_,?_,?_,?_,?_,?_,?_,?_,?_,?_,?_,?_,?_,?_,?_,trivial⟩ ?_)))
 ·exact oi [] fun Y=>Qaf (.int .i64 (((2*r)+1:Nat):Int)) (Zz Y)
 ·exact oi [0] fun Y=>QaB (a:=(((2*r)+1:Nat):Int)) (b:=1) (c:=((((2*r)+1)+1:Nat):Int)) rfl rfl (Qaj (by omega) (by omega)) (Zz Y)
 ·exact oi [] fun Y=>Qaf (.int .i64 (hi:Int)) (Zz Y)
 ·exact oi [1,2] fun Y=>Qa0 rfl rfl (Zz Y)
 ·exact oi [3] fun Y=>Qaf (.bool (decide (((((2*r)+1)+1:Nat):Int)<(hi:Int)))) (Zz Y)
 ·refine ogi [4] fun hG Y=>?_
  have hgd:=QQ1 (eq_of_beq hG)
  exact Qaf (.slice a N c) (Zz Y)
 ·refine ogi [4] fun hG Y=>?_
  have hgd:=QQ1 (eq_of_beq hG)
  exact Qaf (.int .i64 (first:Int)) (Zz Y)
 ·refine ogi [4] fun hG Y=>?_
  have hgd:=QQ1 (eq_of_beq hG)
  exact Qaf (.int .i64 (((2*r)+1:Nat):Int)) (Zz Y)
 ·refine oyi [4,6,7] [6,7] fun hG Y=>?_
  have hgd:=QQ1 (eq_of_beq hG)
  exact QaB (a:=(first:Int)) (b:=(((2*r)+1:Nat):Int)) (c:=((first+((2*r)+1):Nat):Int)) rfl rfl (Qaj (by omega) (by omega)) (Zz Y)
 ·refine oyi [4,5,8] [5,8] fun hG Y=>?_
  have hgd:=QQ1 (eq_of_beq hG)
  exact Qax QaP Qar.1 (Y.rd 0 rfl) rfl rfl (by omega) (by simp only [QQ6,QQ9,QQ5,Go.Sort.size_swp];omega) (Zz Y)
 ·refine oyi [4,9] [9] fun hG Y=>?_
  have hgd:=QQ1 (eq_of_beq hG)
  exact QaV (j:=0) (V:=.int .u16 (d1[first+((2*r)+1)]!)) (first+((2*r)+1)) Qar (Y.rd 0 rfl) (QbA (by omega)) rfl rfl (by omega) (Zz Y)
 ·refine ogi [4] fun hG Y=>?_
  have hgd:=QQ1 (eq_of_beq hG)
  exact Qaf (.slice a N c) (Zz Y)
 ·refine ogi [4] fun hG Y=>?_
  have hgd:=QQ1 (eq_of_beq hG)
  exact Qaf (.int .i64 (first:Int)) (Zz Y)
 ·refine ogi [4] fun hG Y=>?_
  have hgd:=QQ1 (eq_of_beq hG)
  exact Qaf (.int .i64 (((2*r)+1:Nat):Int)) (Zz Y)
 ·refine oyi [4,12,13] [12,13] fun hG Y=>?_
  have hgd:=QQ1 (eq_of_beq hG)
  exact QaB (a:=(first:Int)) (b:=(((2*r)+1:Nat):Int)) (c:=((first+((2*r)+1):Nat):Int)) rfl rfl (Qaj (by omega) (by omega)) (Zz Y)
 ·refine oyi [4,14] [14] fun hG Y=>?_
  have hgd:=QQ1 (eq_of_beq hG)
  exact QaB (a:=((first+((2*r)+1):Nat):Int)) (b:=1) (c:=(((first+((2*r)+1))+1:Nat):Int)) rfl rfl (Qaj (by omega) (by omega)) (Zz Y)
 ·refine oyi [4,11,15] [11,15] fun hG Y=>?_
  have hgd:=QQ1 (eq_of_beq hG)
  exact Qax QaP Qar.1 (Y.rd 0 rfl) rfl rfl (by omega) (by simp only [QQ6,QQ9,QQ5,Go.Sort.size_swp];omega) (Zz Y)
 ·refine oyi [4,16] [16] fun hG Y=>?_
  have hgd:=QQ1 (eq_of_beq hG)
  exact QaV (j:=0) (V:=.int .u16 (d1[(first+((2*r)+1))+1]!)) ((first+((2*r)+1))+1) Qar (Y.rd 0 rfl) (QbA (by omega)) rfl rfl (by omega) (Zz Y)
 ·refine oyi [4,10,17] [10,17] fun hG Y=>?_
  have hgd:=QQ1 (eq_of_beq hG)
  exact Qas (vs:=[.int .u16 (d1[first+((2*r)+1)]!),.int .u16 (d1[(first+((2*r)+1))+1]!)]) (V:=.bool (decide (d1[first+((2*r)+1)]!<d1[(first+((2*r)+1))+1]!))) Qdr rfl rfl (QcF _ (d1[first+((2*r)+1)]!) (d1[(first+((2*r)+1))+1]!)) Y fun _ Y=>Zz Y
 ·exact oi [4,18] fun Y=>Qbg (h':=decide (d1[first+((2*r)+1)]!<d1[(first+((2*r)+1))+1]!)) rfl rfl rfl (Zz Y)
 rintro J1 w4 J2 hJ Y
 replace hJ:J2=upd (mix (sq 17 20) J1 _) 36 (.bool ((decide (((((2*r)+1)+1:Nat):Int)<(hi:Int)))&&(decide (d1[first+((2*r)+1)]!<d1[(first+((2*r)+1))+1]!)))):=hJ
 subst hJ
 refine Qak (t:=(decide (((((2*r)+1)+1:Nat):Int)<(hi:Int)))&&(decide (d1[first+((2*r)+1)]!<d1[(first+((2*r)+1))+1]!))) rfl (fun c5=>?_) (fun c5=>?_)
 ·
  have c5r:=Qcl c5
  replace c5:=QbZ c5
  replace c5:=QQ1 c5
  replace c5r:=QQ1 c5r
  refine Qab (Qaa (Qaf (I6 (((2*r)+1:Nat):Int)) (Qaa (QaB (a:=(((2*r)+1:Nat):Int)) (b:=1) (c:=((((2*r)+1)+1:Nat):Int)) rfl rfl (Qaj (by omega) (by omega)) (Qaa (Qam (I6 ((((2*r)+1)+1:Nat):Int)) (Qad (Qae (Qae (QaH HM (so 39 14) [] [0,0,0,6,15,31,0,0,0,384,960,1984,4095,8191] [pv (.slice a N c),pv (I6 (first:Int)),pv (I6 (r:Int)),pv (I6 ((first+r:Nat):Int)),pv (.pointer (some ⟨bkS (.slice a N c),ofS (.slice a N c)+((first+r:Nat):Int).toNat*1,none⟩)),pv (I7 (d1[first+r]!)),pv (.slice a N c),pv (I6 (first:Int)),pv (I6 ((((2*r)+1)+1:Nat):Int)),pv (I6 ((first+(((2*r)+1)+1):Nat):Int)),pv (.pointer (some ⟨bkS (.slice a N c),ofS (.slice a N c)+((first+(((2*r)+1)+1):Nat):Int).toNat*1,none⟩)),pv (I7 (d1[first+(((2*r)+1)+1)]!)),pv (.bool (decide (d1[first+r]!<d1[first+(((2*r)+1)+1)]!))),pv (.bool (!decide (d1[first+r]!<d1[first+(((2*r)+1)+1)]!)))] (fun _ _=>_) [13] (by kernel_rfl) Y ⟨?_,?_,?_,?_,?_,?_,?_,?_,?_,?_,?_,?_,?_,?_,trivial⟩ ?_))))))))))
  ·exact oi [] fun Y=>Qaf (.slice a N c) (Zz Y)
  ·exact oi [] fun Y=>Qaf (.int .i64 (first:Int)) (Zz Y)
  ·exact oi [] fun Y=>Qaf (.int .i64 (r:Int)) (Zz Y)
  ·exact oi [1,2] fun Y=>QaB (a:=(first:Int)) (b:=(r:Int)) (c:=((first+r:Nat):Int)) rfl rfl (Qaj (by omega) (by omega)) (Zz Y)
  ·exact oi [0,3] fun Y=>Qax QaP Qar.1 (Y.rd 0 rfl) rfl rfl (by omega) (by simp only [QQ6,QQ9,QQ5,Go.Sort.size_swp];omega) (Zz Y)
  ·exact oi [4] fun Y=>QaV (j:=0) (V:=.int .u16 (d1[first+r]!)) (first+r) Qar (Y.rd 0 rfl) (QbA (by omega)) rfl rfl (by omega) (Zz Y)
  ·exact oi [] fun Y=>Qaf (.slice a N c) (Zz Y)
  ·exact oi [] fun Y=>Qaf (.int .i64 (first:Int)) (Zz Y)
  ·exact oi [] fun Y=>Qaf (.int .i64 ((((2*r)+1)+1:Nat):Int)) (Zz Y)
  ·exact oi [7,8] fun Y=>QaB (a:=(first:Int)) (b:=((((2*r)+1)+1:Nat):Int)) (c:=((first+(((2*r)+1)+1):Nat):Int)) rfl rfl (Qaj (by omega) (by omega)) (Zz Y)
  ·exact oi [6,9] fun Y=>Qax QaP Qar.1 (Y.rd 0 rfl) rfl rfl (by omega) (by simp only [QQ6,QQ9,QQ5,Go.Sort.size_swp];omega) (Zz Y)
  ·exact oi [10] fun Y=>QaV (j:=0) (V:=.int .u16 (d1[first+(((2*r)+1)+1)]!)) (first+(((2*r)+1)+1)) Qar (Y.rd 0 rfl) (QbA (by omega)) rfl rfl (by omega) (Zz Y)
  ·exact oi [5,11] fun Y=>Qas (vs:=[.int .u16 (d1[first+r]!),.int .u16 (d1[first+(((2*r)+1)+1)]!)]) (V:=.bool (decide (d1[first+r]!<d1[first+(((2*r)+1)+1)]!))) Qdr rfl rfl (QcF _ (d1[first+r]!) (d1[first+(((2*r)+1)+1)]!)) Y fun _ Y=>Zz Y
  ·exact oi [12] fun Y=>QbB rfl (Zz Y)
  rintro J1 w7 J2 hJ Y
  replace hJ:J2=upd (mix (sq 39 14) J1 _) 52 (.bool (!decide (d1[first+r]!<d1[first+(((2*r)+1)+1)]!))):=hJ
  subst hJ
  refine Qak (t:=!decide (d1[first+r]!<d1[first+(((2*r)+1)+1)]!)) rfl (fun c8=>?_) (fun c8=>?_)
  ·
   replace c8:=QbE c8
   replace c8:=QQ2 c8
   refine Qav ?_
   refine ⟨_,Qbl results185,?_⟩
   have hX:d1=Sort.siftDown ltInt hi first lo d:=by rw [← hev,Qx9 c2 c5 c5r,if_neg c8]
   exact ⟨(),rfl,hX ▸ Y.take 1,hX ▸ (by first|assumption|(simp only [QQ5,Go.Sort.size_swp];omega))⟩
  replace c8:=Qbd c8
  replace c8:=QQ1 c8
  refine Qap (Qae (QaH HM (so 53 21++[none,some 74,none]) [] [0,0,0,6,0,0,0,96,0,0,0,1536,3840,7936,0,0,0,98304,245760,507904,1048335,2096911,4194303,8388607] [pv (.slice a N c),pv (I6 (first:Int)),pv (I6 (r:Int)),pv (I6 ((first+r:Nat):Int)),pv (.slice a N c),pv (I6 (first:Int)),pv (I6 ((((2*r)+1)+1:Nat):Int)),pv (I6 ((first+(((2*r)+1)+1):Nat):Int)),pv (.slice a N c),pv (I6 (first:Int)),pv (I6 ((((2*r)+1)+1:Nat):Int)),pv (I6 ((first+(((2*r)+1)+1):Nat):Int)),pv (.pointer (some ⟨bkS (.slice a N c),ofS (.slice a N c)+((first+(((2*r)+1)+1):Nat):Int).toNat*1,none⟩)),pv (I7 (d1[first+(((2*r)+1)+1)]!)),pv (.slice a N c),pv (I6 (first:Int)),pv (I6 (r:Int)),pv (I6 ((first+r:Nat):Int)),pv (.pointer (some ⟨bkS (.slice a N c),ofS (.slice a N c)+((first+r:Nat):Int).toNat*1,none⟩)),pv (I7 (d1[first+r]!)),pv (.pointer (some ⟨bkS (.slice a N c),ofS (.slice a N c)+((first+r:Nat):Int).toNat*1,none⟩)),pn,pv (.pointer (some ⟨bkS (.slice a N c),ofS (.slice a N c)+((first+(((2*r)+1)+1):Nat):Int).toNat*1,none⟩)),pn] (fun D J=>[cond (D 23) (row (.slice a N c) ((((d1.setIfInBounds (first+r) (d1[first+(((2*r)+1)+1)]!)).setIfInBounds (first+(((2*r)+1)+1)) (d1[first+r]!)).toList).map (ic .u16)) 32 1) (cond (D 21) (row (.slice a N c) (((d1.setIfInBounds (first+r) (d1[first+(((2*r)+1)+1)]!)).toList).map (ic .u16)) 32 1) (row (.slice a N c) (d1.toList.map (ic .u16)) 32 1))]) [] (by kernel_rfl) Y ⟨?_,?_,?_,?_,?_,?_,?_,?_,?_,?_,?_,?_,?_,?_,?_,?_,?_,?_,?_,?_,?_,?_,?_,?_,trivial⟩ ?_))
  ·exact oi [] fun Y=>Qaf (.slice a N c) (Zz Y)
  ·exact oi [] fun Y=>Qaf (.int .i64 (first:Int)) (Zz Y)
  ·exact oi [] fun Y=>Qaf (.int .i64 (r:Int)) (Zz Y)
  ·exact oi [1,2] fun Y=>QaB (a:=(first:Int)) (b:=(r:Int)) (c:=((first+r:Nat):Int)) rfl rfl (Qaj (by omega) (by omega)) (Zz Y)
  ·exact oi [] fun Y=>Qaf (.slice a N c) (Zz Y)
  ·exact oi [] fun Y=>Qaf (.int .i64 (first:Int)) (Zz Y)
  ·exact oi [] fun Y=>Qaf (.int .i64 ((((2*r)+1)+1:Nat):Int)) (Zz Y)
  ·exact oi [5,6] fun Y=>QaB (a:=(first:Int)) (b:=((((2*r)+1)+1:Nat):Int)) (c:=((first+(((2*r)+1)+1):Nat):Int)) rfl rfl (Qaj (by omega) (by omega)) (Zz Y)
  ·exact oi [] fun Y=>Qaf (.slice a N c) (Zz Y)
  ·exact oi [] fun Y=>Qaf (.int .i64 (first:Int)) (Zz Y)
  ·exact oi [] fun Y=>Qaf (.int .i64 ((((2*r)+1)+1:Nat):Int)) (Zz Y)
  ·exact oi [9,10] fun Y=>QaB (a:=(first:Int)) (b:=((((2*r)+1)+1:Nat):Int)) (c:=((first+(((2*r)+1)+1):Nat):Int)) rfl rfl (Qaj (by omega) (by omega)) (Zz Y)
  ·exact ob [8,11] [21,23] rfl rfl fun D J w Y=>Qax QaP Qar.1 (Y.rd 0 rfl) rfl rfl (by omega) (by simp only [QQ6,QQ9,QQ5,Go.Sort.size_swp];omega) (Zz Y)
  ·exact ob [12] [21,23] rfl rfl fun D J w Y=>QaV (j:=0) (V:=I7 (d1[first+(((2*r)+1)+1)]!)) (first+(((2*r)+1)+1)) Qar (Y.rd 0 rfl) (QbA (by omega)) rfl rfl (by omega) (Zz Y)
  ·exact oi [] fun Y=>Qaf (.slice a N c) (Zz Y)
  ·exact oi [] fun Y=>Qaf (.int .i64 (first:Int)) (Zz Y)
  ·exact oi [] fun Y=>Qaf (.int .i64 (r:Int)) (Zz Y)
  ·exact oi [15,16] fun Y=>QaB (a:=(first:Int)) (b:=(r:Int)) (c:=((first+r:Nat):Int)) rfl rfl (Qaj (by omega) (by omega)) (Zz Y)
  ·exact ob [14,17] [21,23] rfl rfl fun D J w Y=>Qax QaP Qar.1 (Y.rd 0 rfl) rfl rfl (by omega) (by simp only [QQ6,QQ9,QQ5,Go.Sort.size_swp];omega) (Zz Y)
  ·exact ob [18] [21,23] rfl rfl fun D J w Y=>QaV (j:=0) (V:=I7 (d1[first+r]!)) (first+r) Qar (Y.rd 0 rfl) (QbA (by omega)) rfl rfl (by omega) (Zz Y)
  ·exact ob [0,3] [21,23] rfl rfl fun D J w Y=>Qax QaP Qar.1 (Y.rd 0 rfl) rfl rfl (by omega) (by simp only [QQ6,QQ9,QQ5,Go.Sort.size_swp];omega) (Zz Y)
  ·exact ob [13,20] [23] rfl rfl fun D J w Y=>Qcv (z:=d1[first+(((2*r)+1)+1)]!) (first+r) Qar Y 0 rfl rfl (by omega) (by first|omega|(simp only [QQ5,Go.Sort.size_swp];omega)) rfl rfl rfl fun _ Y=>⟨trivial,Y⟩
  ·exact ob [4,7,21] [23] rfl rfl fun D J w Y=>Qax QaP Qar.1 (Y.rd 0 rfl) rfl rfl (by omega) (by simp only [QQ6,QQ9,QQ5,Go.Sort.size_swp];omega) (Zz Y)
  ·exact oi [19,21,22] fun Y=>Qcv (z:=d1[first+r]!) (first+(((2*r)+1)+1)) Qar Y 0 rfl rfl (by omega) (by first|omega|(simp only [QQ5,Go.Sort.size_swp];omega)) rfl rfl rfl fun _ Y=>⟨trivial,Y⟩
  rintro J1 w11 J2 hJ Y
  replace hJ:J2=mix (sq 53 22) J1 _:=hJ
  replace Y:Own w S w11 [row (.slice a N c) ((((d1.setIfInBounds (first+r) (d1[first+(((2*r)+1)+1)]!)).setIfInBounds (first+(((2*r)+1)+1)) (d1[first+r]!)).toList).map (ic .u16)) 32 1]:=Y
  subst hJ
  refine Qab (Qaa (Qaf (I6 ((((2*r)+1)+1:Nat):Int)) (Qaa (Qam (I6 ((((2*r)+1)+1:Nat):Int)) (Qad ?_)))))
  refine ⟨_,?_,_,((2*r)+1)+1,((d1.setIfInBounds (first+r) (d1[first+(((2*r)+1)+1)]!)).setIfInBounds (first+(((2*r)+1)+1)) (d1[first+r]!)),Qai (Qao (ds:=([8,9]++sq 11 65)) (by repeat (first|exact Agr.refl _ _|refine Agr.upd ?_ rfl|refine Agr.mix ?_ rfl))) rfl,(by omega),(by simp only [QQ5];exact hz1),(by rw [← hev,Qx9 c2 c5 c5r,if_pos c8];rfl),rfl,Y.take 1⟩
  omega
 refine Qap (Qae (Qae (QaH HM (so 39 14) [] [0,0,0,6,15,31,0,0,0,384,960,1984,4095,8191] [pv (.slice a N c),pv (I6 (first:Int)),pv (I6 (r:Int)),pv (I6 ((first+r:Nat):Int)),pv (.pointer (some ⟨bkS (.slice a N c),ofS (.slice a N c)+((first+r:Nat):Int).toNat*1,none⟩)),pv (I7 (d1[first+r]!)),pv (.slice a N c),pv (I6 (first:Int)),pv (I6 (((2*r)+1:Nat):Int)),pv (I6 ((first+((2*r)+1):Nat):Int)),pv (.pointer (some ⟨bkS (.slice a N c),ofS (.slice a N c)+((first+((2*r)+1):Nat):Int).toNat*1,none⟩)),pv (I7 (d1[first+((2*r)+1)]!)),pv (.bool (decide (d1[first+r]!<d1[first+((2*r)+1)]!))),pv (.bool (!decide (d1[first+r]!<d1[first+((2*r)+1)]!)))] (fun _ _=>_) [13] (by kernel_rfl) Y ⟨?_,?_,?_,?_,?_,?_,?_,?_,?_,?_,?_,?_,?_,?_,trivial⟩ ?_)))
 ·exact oi [] fun Y=>Qaf (.slice a N c) (Zz Y)
 ·exact oi [] fun Y=>Qaf (.int .i64 (first:Int)) (Zz Y)
 ·exact oi [] fun Y=>Qaf (.int .i64 (r:Int)) (Zz Y)
 ·exact oi [1,2] fun Y=>QaB (a:=(first:Int)) (b:=(r:Int)) (c:=((first+r:Nat):Int)) rfl rfl (Qaj (by omega) (by omega)) (Zz Y)
 ·exact oi [0,3] fun Y=>Qax QaP Qar.1 (Y.rd 0 rfl) rfl rfl (by omega) (by simp only [QQ6,QQ9,QQ5,Go.Sort.size_swp];omega) (Zz Y)
 ·exact oi [4] fun Y=>QaV (j:=0) (V:=.int .u16 (d1[first+r]!)) (first+r) Qar (Y.rd 0 rfl) (QbA (by omega)) rfl rfl (by omega) (Zz Y)
 ·exact oi [] fun Y=>Qaf (.slice a N c) (Zz Y)
 ·exact oi [] fun Y=>Qaf (.int .i64 (first:Int)) (Zz Y)
 ·exact oi [] fun Y=>Qaf (.int .i64 (((2*r)+1:Nat):Int)) (Zz Y)
 ·exact oi [7,8] fun Y=>QaB (a:=(first:Int)) (b:=(((2*r)+1:Nat):Int)) (c:=((first+((2*r)+1):Nat):Int)) rfl rfl (Qaj (by omega) (by omega)) (Zz Y)
 ·exact oi [6,9] fun Y=>Qax QaP Qar.1 (Y.rd 0 rfl) rfl rfl (by omega) (by simp only [QQ6,QQ9,QQ5,Go.Sort.size_swp];omega) (Zz Y)
 ·exact oi [10] fun Y=>QaV (j:=0) (V:=.int .u16 (d1[first+((2*r)+1)]!)) (first+((2*r)+1)) Qar (Y.rd 0 rfl) (QbA (by omega)) rfl rfl (by omega) (Zz Y)
 ·exact oi [5,11] fun Y=>Qas (vs:=[.int .u16 (d1[first+r]!),.int .u16 (d1[first+((2*r)+1)]!)]) (V:=.bool (decide (d1[first+r]!<d1[first+((2*r)+1)]!))) Qdr rfl rfl (QcF _ (d1[first+r]!) (d1[first+((2*r)+1)]!)) Y fun _ Y=>Zz Y
 ·exact oi [12] fun Y=>QbB rfl (Zz Y)
 rintro J1 w13 J2 hJ Y
 replace hJ:J2=upd (mix (sq 39 14) J1 _) 52 (.bool (!decide (d1[first+r]!<d1[first+((2*r)+1)]!))):=hJ
 subst hJ
 refine Qak (t:=!decide (d1[first+r]!<d1[first+((2*r)+1)]!)) rfl (fun c14=>?_) (fun c14=>?_)
 ·
  replace c14:=QbE c14
  replace c14:=QQ2 c14
  refine Qav ?_
  refine ⟨_,Qbl results185,?_⟩
  have hX:d1=Sort.siftDown ltInt hi first lo d:=by rw [← hev,Qx7 c2 c5,if_neg c14]
  exact ⟨(),rfl,hX ▸ Y.take 1,hX ▸ (by first|assumption|(simp only [QQ5,Go.Sort.size_swp];omega))⟩
 replace c14:=Qbd c14
 replace c14:=QQ1 c14
 refine Qap (Qae (QaH HM (so 53 21++[none,some 74,none]) [] [0,0,0,6,0,0,0,96,0,0,0,1536,3840,7936,0,0,0,98304,245760,507904,1048335,2096911,4194303,8388607] [pv (.slice a N c),pv (I6 (first:Int)),pv (I6 (r:Int)),pv (I6 ((first+r:Nat):Int)),pv (.slice a N c),pv (I6 (first:Int)),pv (I6 (((2*r)+1:Nat):Int)),pv (I6 ((first+((2*r)+1):Nat):Int)),pv (.slice a N c),pv (I6 (first:Int)),pv (I6 (((2*r)+1:Nat):Int)),pv (I6 ((first+((2*r)+1):Nat):Int)),pv (.pointer (some ⟨bkS (.slice a N c),ofS (.slice a N c)+((first+((2*r)+1):Nat):Int).toNat*1,none⟩)),pv (I7 (d1[first+((2*r)+1)]!)),pv (.slice a N c),pv (I6 (first:Int)),pv (I6 (r:Int)),pv (I6 ((first+r:Nat):Int)),pv (.pointer (some ⟨bkS (.slice a N c),ofS (.slice a N c)+((first+r:Nat):Int).toNat*1,none⟩)),pv (I7 (d1[first+r]!)),pv (.pointer (some ⟨bkS (.slice a N c),ofS (.slice a N c)+((first+r:Nat):Int).toNat*1,none⟩)),pn,pv (.pointer (some ⟨bkS (.slice a N c),ofS (.slice a N c)+((first+((2*r)+1):Nat):Int).toNat*1,none⟩)),pn] (fun D J=>[cond (D 23) (row (.slice a N c) ((((d1.setIfInBounds (first+r) (d1[first+((2*r)+1)]!)).setIfInBounds (first+((2*r)+1)) (d1[first+r]!)).toList).map (ic .u16)) 32 1) (cond (D 21) (row (.slice a N c) (((d1.setIfInBounds (first+r) (d1[first+((2*r)+1)]!)).toList).map (ic .u16)) 32 1) (row (.slice a N c) (d1.toList.map (ic .u16)) 32 1))]) [] (by kernel_rfl) Y ⟨?_,?_,?_,?_,?_,?_,?_,?_,?_,?_,?_,?_,?_,?_,?_,?_,?_,?_,?_,?_,?_,?_,?_,?_,trivial⟩ ?_))
 ·exact oi [] fun Y=>Qaf (.slice a N c) (Zz Y)
 ·exact oi [] fun Y=>Qaf (.int .i64 (first:Int)) (Zz Y)
 ·exact oi [] fun Y=>Qaf (.int .i64 (r:Int)) (Zz Y)
 ·exact oi [1,2] fun Y=>QaB (a:=(first:Int)) (b:=(r:Int)) (c:=((first+r:Nat):Int)) rfl rfl (Qaj (by omega) (by omega)) (Zz Y)
 ·exact oi [] fun Y=>Qaf (.slice a N c) (Zz Y)
 ·exact oi [] fun Y=>Qaf (.int .i64 (first:Int)) (Zz Y)
 ·exact oi [] fun Y=>Qaf (.int .i64 (((2*r)+1:Nat):Int)) (Zz Y)
 ·exact oi [5,6] fun Y=>QaB (a:=(first:Int)) (b:=(((2*r)+1:Nat):Int)) (c:=((first+((2*r)+1):Nat):Int)) rfl rfl (Qaj (by omega) (by omega)) (Zz Y)
 ·exact oi [] fun Y=>Qaf (.slice a N c) (Zz Y)
 ·exact oi [] fun Y=>Qaf (.int .i64 (first:Int)) (Zz Y)
 ·exact oi [] fun Y=>Qaf (.int .i64 (((2*r)+1:Nat):Int)) (Zz Y)
 ·exact oi [9,10] fun Y=>QaB (a:=(first:Int)) (b:=(((2*r)+1:Nat):Int)) (c:=((first+((2*r)+1):Nat):Int)) rfl rfl (Qaj (by omega) (by omega)) (Zz Y)
 ·exact ob [8,11] [21,23] rfl rfl fun D J w Y=>Qax QaP Qar.1 (Y.rd 0 rfl) rfl rfl (by omega) (by simp only [QQ6,QQ9,QQ5,Go.Sort.size_swp];omega) (Zz Y)
 ·exact ob [12] [21,23] rfl rfl fun D J w Y=>QaV (j:=0) (V:=I7 (d1[first+((2*r)+1)]!)) (first+((2*r)+1)) Qar (Y.rd 0 rfl) (QbA (by omega)) rfl rfl (by omega) (Zz Y)
 ·exact oi [] fun Y=>Qaf (.slice a N c) (Zz Y)
 ·exact oi [] fun Y=>Qaf (.int .i64 (first:Int)) (Zz Y)
 ·exact oi [] fun Y=>Qaf (.int .i64 (r:Int)) (Zz Y)
 ·exact oi [15,16] fun Y=>QaB (a:=(first:Int)) (b:=(r:Int)) (c:=((first+r:Nat):Int)) rfl rfl (Qaj (by omega) (by omega)) (Zz Y)
 ·exact ob [14,17] [21,23] rfl rfl fun D J w Y=>Qax QaP Qar.1 (Y.rd 0 rfl) rfl rfl (by omega) (by simp only [QQ6,QQ9,QQ5,Go.Sort.size_swp];omega) (Zz Y)
 ·exact ob [18] [21,23] rfl rfl fun D J w Y=>QaV (j:=0) (V:=I7 (d1[first+r]!)) (first+r) Qar (Y.rd 0 rfl) (QbA (by omega)) rfl rfl (by omega) (Zz Y)
 ·exact ob [0,3] [21,23] rfl rfl fun D J w Y=>Qax QaP Qar.1 (Y.rd 0 rfl) rfl rfl (by omega) (by simp only [QQ6,QQ9,QQ5,Go.Sort.size_swp];omega) (Zz Y)
 ·exact ob [13,20] [23] rfl rfl fun D J w Y=>Qcv (z:=d1[first+((2*r)+1)]!) (first+r) Qar Y 0 rfl rfl (by omega) (by first|omega|(simp only [QQ5,Go.Sort.size_swp];omega)) rfl rfl rfl fun _ Y=>⟨trivial,Y⟩
 ·exact ob [4,7,21] [23] rfl rfl fun D J w Y=>Qax QaP Qar.1 (Y.rd 0 rfl) rfl rfl (by omega) (by simp only [QQ6,QQ9,QQ5,Go.Sort.size_swp];omega) (Zz Y)
 ·exact oi [19,21,22] fun Y=>Qcv (z:=d1[first+r]!) (first+((2*r)+1)) Qar Y 0 rfl rfl (by omega) (by first|omega|(simp only [QQ5,Go.Sort.size_swp];omega)) rfl rfl rfl fun _ Y=>⟨trivial,Y⟩
 rintro J1 w17 J2 hJ Y
 replace hJ:J2=mix (sq 53 22) J1 _:=hJ
 replace Y:Own w S w17 [row (.slice a N c) ((((d1.setIfInBounds (first+r) (d1[first+((2*r)+1)]!)).setIfInBounds (first+((2*r)+1)) (d1[first+r]!)).toList).map (ic .u16)) 32 1]:=Y
 subst hJ
 refine Qab (Qaa (Qaf (I6 (((2*r)+1:Nat):Int)) (Qaa (Qam (I6 (((2*r)+1:Nat):Int)) (Qad ?_)))))
 refine ⟨_,?_,_,(2*r)+1,((d1.setIfInBounds (first+r) (d1[first+((2*r)+1)]!)).setIfInBounds (first+((2*r)+1)) (d1[first+r]!)),Qai (Qao (ds:=([8,9]++sq 11 65)) (by repeat (first|exact Agr.refl _ _|refine Agr.upd ?_ rfl|refine Agr.mix ?_ rfl))) rfl,(by omega),(by simp only [QQ5];exact hz1),(by rw [← hev,Qx7 c2 c5,if_pos c14];rfl),rfl,Y.take 1⟩
 omega
theorem Qt0 {i j:Nat} {d:Array Int} (h:(i:Int)<(j:Int)):Sort.reverseLoop i j d=Sort.reverseLoop (i+1) (j-1) (Sort.swp d i j):=by rw [Sort.reverseLoop,if_pos (by omega)]
theorem Qv4 {i j:Nat} {d:Array Int} (h:¬(i:Int)<(j:Int)):Sort.reverseLoop i j d=d:=by rw [Sort.reverseLoop,if_neg (by omega)]
theorem Qwd (w:World) (S:Nat->Prop) (a:Option Addr) (N c:Nat) (d:Array Int) (hsz:d.size=N) (hN:N<=2305843009213693951) (lo hi:Nat) (h1:lo<hi) (h2:hi<=N) (hR:(row (.slice a N c) (d.toList.map (ic .u16)) 32 1).holds w S) (hlt:∀ x,S x->x<w.heap.size):Calls prog 176 #[.slice a N c,.int .i64 (lo:Int),.int .i64 (hi:Int)] w (fun e w'=>∃ x:Unit,e = .returned (.tuple #[])/\Own w S w' [row (.slice a N c) ((Sort.reverseRange d lo hi).toList.map (ic .u16)) 32 1]/\(Sort.reverseRange d lo hi).size=N):=by
 refine Qah (n:=32) func176 rfl ntmps176 rfl ?_
 have Y:=Own.lent hR hlt
 refine Qae (Qab (Qaa (Qaf (I6 (lo:Int)) (Qaa (Qam (I6 (lo:Int)) (Qad (Qae (Qab (Qaa (Qaf (I6 (hi:Int)) (Qaa (Qbb (a:=(hi:Int)) (b:=1) (c:=((hi-1:Nat):Int)) rfl rfl (Qaj (by omega) (by omega)) (Qaa (Qam (I6 ((hi-1:Nat):Int)) (Qad (Qal (QaE (fun J μ J' w'=>∃ (Jo:Env) (i:Nat) (j:Nat) (d1:Array Int),J'=upd (upd (mix ([6,7]++sq 11 21) Jo J) 6 (I6 (i:Int))) 7 (I6 (j:Int))/\(lo<=i)/\(j<hi)/\(d1.size=N)/\(Sort.reverseLoop i j d1=Sort.reverseRange d lo hi)/\μ=j-i/\Own w S w' [row (.slice a N c) (d1.toList.map (ic .u16)) 32 1]) ?_ ?_)))))))))))))))))
 ·exact ⟨_,_,lo,hi-1,d,Qai (Qai (Qao (ds:=([6,7]++sq 11 21)) (Agr.refl _ _)) rfl) rfl,(Nat.le_refl _),(by omega),hsz,rfl,rfl,Y⟩
 rintro μ J' w1 ⟨Jo,i,j,d1,rfl,hi0,hj,hz1,hev,rfl,Y⟩
 refine Qae (Qae (Qab (Qaa (Qaf (I6 (i:Int)) (Qaa (Qaf (I6 (j:Int)) (Qaa (Qa0 rfl rfl (Qad (Qak (t:=decide ((i:Int)<(j:Int))) rfl (fun c2=>?_) (fun c2=>?_)))))))))))
 ·
  replace c2:=QQ1 c2
  refine Qap (Qal (Qae (QaH HM (so 14 13++[none,some 27,none]) [] [0,0,0,0,0,0,48,112,0,0,768,1792,4083,8179,16383,32767] [pv (.slice a N c),pv (I6 (i:Int)),pv (.slice a N c),pv (I6 (j:Int)),pv (.slice a N c),pv (I6 (j:Int)),pv (.pointer (some ⟨bkS (.slice a N c),ofS (.slice a N c)+(j:Int).toNat*1,none⟩)),pv (I7 (d1[j]!)),pv (.slice a N c),pv (I6 (i:Int)),pv (.pointer (some ⟨bkS (.slice a N c),ofS (.slice a N c)+(i:Int).toNat*1,none⟩)),pv (I7 (d1[i]!)),pv (.pointer (some ⟨bkS (.slice a N c),ofS (.slice a N c)+(i:Int).toNat*1,none⟩)),pn,pv (.pointer (some ⟨bkS (.slice a N c),ofS (.slice a N c)+(j:Int).toNat*1,none⟩)),pn] (fun D J=>[cond (D 15) (row (.slice a N c) ((((d1.setIfInBounds i (d1[j]!)).setIfInBounds j (d1[i]!)).toList).map (ic .u16)) 32 1) (cond (D 13) (row (.slice a N c) (((d1.setIfInBounds i (d1[j]!)).toList).map (ic .u16)) 32 1) (row (.slice a N c) (d1.toList.map (ic .u16)) 32 1))]) [] (by kernel_rfl) Y ⟨?_,?_,?_,?_,?_,?_,?_,?_,?_,?_,?_,?_,?_,?_,?_,?_,trivial⟩ ?_)))
  ·exact oi [] fun Y=>Qaf (.slice a N c) (Zz Y)
  ·exact oi [] fun Y=>Qaf (.int .i64 (i:Int)) (Zz Y)
  ·exact oi [] fun Y=>Qaf (.slice a N c) (Zz Y)
  ·exact oi [] fun Y=>Qaf (.int .i64 (j:Int)) (Zz Y)
  ·exact oi [] fun Y=>Qaf (.slice a N c) (Zz Y)
  ·exact oi [] fun Y=>Qaf (.int .i64 (j:Int)) (Zz Y)
  ·exact ob [4,5] [13,15] rfl rfl fun D J w Y=>Qax QaP Qar.1 (Y.rd 0 rfl) rfl rfl (by omega) (by simp only [QQ6,QQ9,QQ5,Go.Sort.size_swp];omega) (Zz Y)
  ·exact ob [6] [13,15] rfl rfl fun D J w Y=>QaV (j:=0) (V:=I7 (d1[j]!)) j Qar (Y.rd 0 rfl) (QbA (by omega)) rfl rfl (by omega) (Zz Y)
  ·exact oi [] fun Y=>Qaf (.slice a N c) (Zz Y)
  ·exact oi [] fun Y=>Qaf (.int .i64 (i:Int)) (Zz Y)
  ·exact ob [8,9] [13,15] rfl rfl fun D J w Y=>Qax QaP Qar.1 (Y.rd 0 rfl) rfl rfl (by omega) (by simp only [QQ6,QQ9,QQ5,Go.Sort.size_swp];omega) (Zz Y)
  ·exact ob [10] [13,15] rfl rfl fun D J w Y=>QaV (j:=0) (V:=I7 (d1[i]!)) i Qar (Y.rd 0 rfl) (QbA (by omega)) rfl rfl (by omega) (Zz Y)
  ·exact ob [0,1] [13,15] rfl rfl fun D J w Y=>Qax QaP Qar.1 (Y.rd 0 rfl) rfl rfl (by omega) (by simp only [QQ6,QQ9,QQ5,Go.Sort.size_swp];omega) (Zz Y)
  ·exact ob [7,12] [15] rfl rfl fun D J w Y=>Qcv (z:=d1[j]!) i Qar Y 0 rfl rfl (by omega) (by first|omega|(simp only [QQ5,Go.Sort.size_swp];omega)) rfl rfl rfl fun _ Y=>⟨trivial,Y⟩
  ·exact ob [2,3,13] [15] rfl rfl fun D J w Y=>Qax QaP Qar.1 (Y.rd 0 rfl) rfl rfl (by omega) (by simp only [QQ6,QQ9,QQ5,Go.Sort.size_swp];omega) (Zz Y)
  ·exact oi [11,13,14] fun Y=>Qcv (z:=d1[i]!) j Qar Y 0 rfl rfl (by omega) (by first|omega|(simp only [QQ5,Go.Sort.size_swp];omega)) rfl rfl rfl fun _ Y=>⟨trivial,Y⟩
  rintro J1 w5 J2 hJ Y
  replace hJ:J2=mix (sq 14 14) J1 _:=hJ
  replace Y:Own w S w5 [row (.slice a N c) ((((d1.setIfInBounds i (d1[j]!)).setIfInBounds j (d1[i]!)).toList).map (ic .u16)) 32 1]:=Y
  subst hJ
  refine Qae (Qab (Qaa (Qaf (I6 (i:Int)) (Qaa (QaB (a:=(i:Int)) (b:=1) (c:=((i+1:Nat):Int)) rfl rfl (Qaj (by omega) (by omega)) (Qaa (Qam (I6 ((i+1:Nat):Int)) (Qad (Qab (Qaa (Qaf (I6 (j:Int)) (Qaa (Qbb (a:=(j:Int)) (b:=1) (c:=((j-1:Nat):Int)) rfl rfl (Qaj (by omega) (by omega)) (Qaa (Qam (I6 ((j-1:Nat):Int)) (Qad ?_))))))))))))))))
  refine ⟨_,?_,_,i+1,j-1,((d1.setIfInBounds i (d1[j]!)).setIfInBounds j (d1[i]!)),Qai (Qai (Qao (ds:=([6,7]++sq 11 21)) (by repeat (first|exact Agr.refl _ _|refine Agr.upd ?_ rfl|refine Agr.mix ?_ rfl))) rfl) rfl,(by omega),(by omega),(by simp only [QQ5];exact hz1),(by rw [← hev,Qt0 (d:=d1) c2];rfl),rfl,Y.take 1⟩
  omega
 replace c2:=QQ2 c2
 refine QaI ?_
 refine ⟨_,Qbl results176,?_⟩
 have hX:d1=Sort.reverseRange d lo hi:=by rw [← hev,Qv4 c2]
 exact ⟨(),rfl,hX ▸ Y.take 1,hX ▸ (by first|assumption|(simp only [QQ5,Go.Sort.size_swp];omega))⟩
end Tt
end Go.Proofs
namespace Go.Proofs
open Go Go.Vx Go.RowKit
open Go.Sort (ltInt medianAdjacent order2 partition)
open Tryz
namespace Tt
theorem QsY {n first k:Nat} {d:Array Int} (h:1<=k):Sort.heapBuild ltInt n first k d=Sort.heapBuild ltInt n first (k-1) (Sort.siftDown ltInt n first (k-1) d):=by
 obtain ⟨i,rfl⟩:∃ i,k=i+1:=⟨k-1,by omega⟩
 rfl
theorem Qta {first k:Nat} {d:Array Int} (h:1<=k):Sort.heapPop ltInt first k d=Sort.heapPop ltInt first (k-1) (Sort.siftDown ltInt (k-1) first 0 (Sort.swp d first (first+(k-1)))):=by
 obtain ⟨i,rfl⟩:∃ i,k=i+1:=⟨k-1,by omega⟩
 rfl
theorem QpC {n:Nat}:((n:Int)-1).tdiv 2=(((n-1)/2:Nat):Int):=by
 cases n with
 | zero=>rfl
 | succ m=>rw [show (((m+1:Nat):Int)-1)=(m:Int) by omega];rfl
theorem Qtr (w:World) (S:Nat->Prop) (a:Option Addr) (N c:Nat) (d:Array Int) (hsz:d.size=N) (hN:N<=2305843009213693951) (lo hi:Nat) (h1:lo<=hi) (h2:hi<=N) (hR:(row (.slice a N c) (d.toList.map (ic .u16)) 32 1).holds w S) (hlt:∀ x,S x->x<w.heap.size):Calls prog 173 #[.slice a N c,.int .i64 (lo:Int),.int .i64 (hi:Int)] w (fun e w'=>∃ x:Unit,e = .returned (.tuple #[])/\Own w S w' [row (.slice a N c) ((Sort.heapSort ltInt d lo hi).toList.map (ic .u16)) 32 1]/\(Sort.heapSort ltInt d lo hi).size=N):=by
 refine Qah (n:=56) func173 rfl ntmps173 rfl ?_
 have Y:=Own.lent hR hlt
 refine Qae (Qab (Qaa (Qaf (I6 (lo:Int)) (Qaa (Qam (I6 (lo:Int)) (Qad (Qae (Qab (Qaa (Qam (I6 0) (Qad (Qae (Qab (Qaa (Qaf (I6 (hi:Int)) (Qaa (Qaf (I6 (lo:Int)) (Qaa (Qbb (a:=(hi:Int)) (b:=(lo:Int)) (c:=((hi-lo:Nat):Int)) rfl rfl (Qaj (by omega) (by omega)) (Qaa (Qam (I6 ((hi-lo:Nat):Int)) (Qad (Qae (Qae (Qab (Qaa (Qaf (I6 ((hi-lo:Nat):Int)) (Qaa (Qbb (a:=((hi-lo:Nat):Int)) (b:=1) (c:=((hi-lo:Nat):Int)-1) rfl rfl (Qbx (by omega) (by omega)) (Qaa (Qa8 (V:=I6 (IntKind.i64.wrap ((((hi-lo:Nat):Int)-1).tdiv 2))) (V':=I6 ((((hi-lo)-1)/2:Nat):Int)) (QjA rfl rfl (by omega) rfl ⟨rfl,rfl⟩) (congrArg (Value.int .i64) (by rw [QpC];exact Qaj rfl (by omega))) (Qaa (Qam (I6 ((((hi-lo)-1)/2:Nat):Int)) (Qad (Qal (QaE (fun J μ J' w'=>∃ (Jo:Env) (k:Nat) (d1:Array Int),J'=upd (mix ([9]++sq 18 9) Jo J) 9 (I6 ((k:Int)-1))/\(k<=N+1)/\(d1.size=N)/\(Sort.heapPop ltInt lo (hi-lo) (Sort.heapBuild ltInt (hi-lo) lo k d1)=Sort.heapSort ltInt d lo hi)/\μ=2*k/\Own w S w' [row (.slice a N c) (d1.toList.map (ic .u16)) 32 1]) ?_ ?_))))))))))))))))))))))))))))))))))))
 ·exact ⟨_,_,((hi-lo)-1)/2+1,d,Qai (Qao (ds:=([9]++sq 18 9)) (Agr.refl _ _)) (congrArg (Value.int .i64) (by omega)),(by omega),hsz,rfl,rfl,Y⟩
 rintro μ J' w1 ⟨Jo,k,d1,rfl,hk,hz1,hev,rfl,Y⟩
 refine Qae (Qae (Qab (Qaa (Qaf (I6 ((k:Int)-1)) (Qaa (QcZ rfl rfl (Qad (Qak (t:=decide (0<=(k:Int)-1)) rfl (fun c2=>?_) (fun c2=>?_)))))))))
 ·
  replace c2:=QQ1 c2
  refine Qap (Qae (Qal (Qab (Qaa (Qaf (.slice a N c) (Qaa (Qa8 (V:=I6 ((k:Int)-1)) (V':=I6 ((k-1:Nat):Int)) (Qaf (I6 ((k:Int)-1)) ⟨rfl,rfl⟩) (congrArg (Value.int .i64) (by omega)) (Qaa (Qaf (I6 ((hi-lo:Nat):Int)) (Qaa (Qaf (I6 (lo:Int)) (Qaa (QbF (vs:=[.slice a N c,I6 ((k-1:Nat):Int),I6 ((hi-lo:Nat):Int),I6 (lo:Int)]) (V:=fun _:Unit=>.tuple #[]) (R:=row (.slice a N c) (d1.toList.map (ic .u16)) 32 1) (R':=fun _=>row (.slice a N c) ((Sort.siftDown ltInt (hi-lo) lo (k-1) d1).toList.map (ic .u16)) 32 1) (Lo:=fun _=>[]) (F:=fun _ _=>(Sort.siftDown ltInt (hi-lo) lo (k-1) d1).size=N) Qr6 rfl rfl Y 0 rfl (fun S hS hlt=>QmV _ S a N c d1 (by first|assumption|(simp only [QQ5,Go.Sort.size_swp];omega)) hN (k-1) (hi-lo) lo (by omega) (by omega) hS hlt) fun _ w3 Y hz4=>(Qad (Qab (Qaa (Qaf (I6 ((k:Int)-1)) (Qaa (Qbb (a:=(k:Int)-1) (b:=1) (c:=((k:Int)-1)-1) rfl rfl (Qbx (by omega) (by omega)) (Qaa (Qam (I6 (((k:Int)-1)-1)) (Qad ?_))))))))))))))))))))))
  refine ⟨_,?_,_,k-1,Sort.siftDown ltInt (hi-lo) lo (k-1) d1,Qai (Qao (ds:=([9]++sq 18 9)) (by repeat (first|exact Agr.refl _ _|refine Agr.upd ?_ rfl|refine Agr.mix ?_ rfl))) (congrArg (Value.int .i64) (by omega)),(by omega),(by assumption),(by rw [← hev,QsY (k:=k) (by omega)]),rfl,Y.take 1⟩
  omega
 replace c2:=QQ2 c2
 refine QaI (Qae (Qab (Qaa (Qaf (I6 ((hi-lo:Nat):Int)) (Qaa (Qbb (a:=((hi-lo:Nat):Int)) (b:=1) (c:=((hi-lo:Nat):Int)-1) rfl rfl (Qbx (by omega) (by omega)) (Qaa (Qam (I6 (((hi-lo:Nat):Int)-1)) (Qad (Qal ?_))))))))))
 have hk0:k=0:=by omega
 subst hk0
 have hev1:Sort.heapPop ltInt lo (hi-lo) d1=Sort.heapSort ltInt d lo hi:=hev
 refine QaE (fun J μ J' w'=>∃ (Jo:Env) (q:Nat) (d2:Array Int),J'=upd (mix ([10]++sq 29 27) Jo J) 10 (I6 ((q:Int)-1))/\(q<=hi-lo)/\(d2.size=N)/\(Sort.heapPop ltInt lo q d2=Sort.heapSort ltInt d lo hi)/\μ=2*q/\Own w S w' [row (.slice a N c) (d2.toList.map (ic .u16)) 32 1]) ?_ ?_
 ·exact ⟨_,_,hi-lo,d1,Qai (Qao (ds:=([10]++sq 29 27)) (Agr.refl _ _)) rfl,(Nat.le_refl _),hz1,hev1,rfl,Y⟩
 rintro μ J' w6 ⟨Jo,q,d2,rfl,hk2,hz2,hev2,rfl,Y⟩
 refine Qae (Qae (Qab (Qaa (Qaf (I6 ((q:Int)-1)) (Qaa (QcZ rfl rfl (Qad (Qak (t:=decide (0<=(q:Int)-1)) rfl (fun c7=>?_) (fun c7=>?_)))))))))
 ·
  replace c7:=QQ1 c7
  refine Qap (Qae (Qal (Qae (QaH HM (so 33 17++[none,some 50,none]) [] [0,0,0,0,0,24,0,0,0,384,960,1984,0,0,12288,28672,65475,131011,262143,524287] [pv (.slice a N c),pv (I6 (lo:Int)),pv (.slice a N c),pv (I6 (lo:Int)),pv (I6 ((q-1:Nat):Int)),pv (I6 ((lo+(q-1):Nat):Int)),pv (.slice a N c),pv (I6 (lo:Int)),pv (I6 ((q-1:Nat):Int)),pv (I6 ((lo+(q-1):Nat):Int)),pv (.pointer (some ⟨bkS (.slice a N c),ofS (.slice a N c)+((lo+(q-1):Nat):Int).toNat*1,none⟩)),pv (I7 (d2[lo+(q-1)]!)),pv (.slice a N c),pv (I6 (lo:Int)),pv (.pointer (some ⟨bkS (.slice a N c),ofS (.slice a N c)+(lo:Int).toNat*1,none⟩)),pv (I7 (d2[lo]!)),pv (.pointer (some ⟨bkS (.slice a N c),ofS (.slice a N c)+(lo:Int).toNat*1,none⟩)),pn,pv (.pointer (some ⟨bkS (.slice a N c),ofS (.slice a N c)+((lo+(q-1):Nat):Int).toNat*1,none⟩)),pn] (fun D J=>[cond (D 19) (row (.slice a N c) ((((d2.setIfInBounds lo (d2[lo+(q-1)]!)).setIfInBounds (lo+(q-1)) (d2[lo]!)).toList).map (ic .u16)) 32 1) (cond (D 17) (row (.slice a N c) (((d2.setIfInBounds lo (d2[lo+(q-1)]!)).toList).map (ic .u16)) 32 1) (row (.slice a N c) (d2.toList.map (ic .u16)) 32 1))]) [] (by kernel_rfl) Y ⟨?_,?_,?_,?_,?_,?_,?_,?_,?_,?_,?_,?_,?_,?_,?_,?_,?_,?_,?_,?_,trivial⟩ ?_))))
  ·exact oi [] fun Y=>Qaf (.slice a N c) (Zz Y)
  ·exact oi [] fun Y=>Qaf (.int .i64 (lo:Int)) (Zz Y)
  ·exact oi [] fun Y=>Qaf (.slice a N c) (Zz Y)
  ·exact oi [] fun Y=>Qaf (.int .i64 (lo:Int)) (Zz Y)
  ·exact oi [] fun Y=>Qa8 (V:=.int .i64 ((q:Int)-1)) (V':=.int .i64 ((q-1:Nat):Int)) (Qaf (.int .i64 ((q:Int)-1)) ⟨rfl,rfl⟩) (congrArg (Value.int .i64) (by omega)) (Zz Y)
  ·exact oi [3,4] fun Y=>QaB (a:=(lo:Int)) (b:=((q-1:Nat):Int)) (c:=((lo+(q-1):Nat):Int)) rfl rfl (Qaj (by omega) (by omega)) (Zz Y)
  ·exact oi [] fun Y=>Qaf (.slice a N c) (Zz Y)
  ·exact oi [] fun Y=>Qaf (.int .i64 (lo:Int)) (Zz Y)
  ·exact oi [] fun Y=>Qa8 (V:=.int .i64 ((q:Int)-1)) (V':=.int .i64 ((q-1:Nat):Int)) (Qaf (.int .i64 ((q:Int)-1)) ⟨rfl,rfl⟩) (congrArg (Value.int .i64) (by omega)) (Zz Y)
  ·exact oi [7,8] fun Y=>QaB (a:=(lo:Int)) (b:=((q-1:Nat):Int)) (c:=((lo+(q-1):Nat):Int)) rfl rfl (Qaj (by omega) (by omega)) (Zz Y)
  ·exact ob [6,9] [17,19] rfl rfl fun D J w Y=>Qax QaP Qar.1 (Y.rd 0 rfl) rfl rfl (by omega) (by simp only [QQ6,QQ9,QQ5,Go.Sort.size_swp];omega) (Zz Y)
  ·exact ob [10] [17,19] rfl rfl fun D J w Y=>QaV (j:=0) (V:=I7 (d2[lo+(q-1)]!)) (lo+(q-1)) Qar (Y.rd 0 rfl) (QbA (by omega)) rfl rfl (by omega) (Zz Y)
  ·exact oi [] fun Y=>Qaf (.slice a N c) (Zz Y)
  ·exact oi [] fun Y=>Qaf (.int .i64 (lo:Int)) (Zz Y)
  ·exact ob [12,13] [17,19] rfl rfl fun D J w Y=>Qax QaP Qar.1 (Y.rd 0 rfl) rfl rfl (by omega) (by simp only [QQ6,QQ9,QQ5,Go.Sort.size_swp];omega) (Zz Y)
  ·exact ob [14] [17,19] rfl rfl fun D J w Y=>QaV (j:=0) (V:=I7 (d2[lo]!)) lo Qar (Y.rd 0 rfl) (QbA (by omega)) rfl rfl (by omega) (Zz Y)
  ·exact ob [0,1] [17,19] rfl rfl fun D J w Y=>Qax QaP Qar.1 (Y.rd 0 rfl) rfl rfl (by omega) (by simp only [QQ6,QQ9,QQ5,Go.Sort.size_swp];omega) (Zz Y)
  ·exact ob [11,16] [19] rfl rfl fun D J w Y=>Qcv (z:=d2[lo+(q-1)]!) lo Qar Y 0 rfl rfl (by omega) (by first|omega|(simp only [QQ5,Go.Sort.size_swp];omega)) rfl rfl rfl fun _ Y=>⟨trivial,Y⟩
  ·exact ob [2,5,17] [19] rfl rfl fun D J w Y=>Qax QaP Qar.1 (Y.rd 0 rfl) rfl rfl (by omega) (by simp only [QQ6,QQ9,QQ5,Go.Sort.size_swp];omega) (Zz Y)
  ·exact oi [15,17,18] fun Y=>Qcv (z:=d2[lo]!) (lo+(q-1)) Qar Y 0 rfl rfl (by omega) (by first|omega|(simp only [QQ5,Go.Sort.size_swp];omega)) rfl rfl rfl fun _ Y=>⟨trivial,Y⟩
  rintro J1 w10 J2 hJ Y
  replace hJ:J2=mix (sq 33 18) J1 _:=hJ
  replace Y:Own w S w10 [row (.slice a N c) ((((d2.setIfInBounds lo (d2[lo+(q-1)]!)).setIfInBounds (lo+(q-1)) (d2[lo]!)).toList).map (ic .u16)) 32 1]:=Y
  subst hJ
  refine Qab (Qaa (Qaf (.slice a N c) (Qaa (Qaf (I6 0) (Qaa (Qa8 (V:=I6 ((q:Int)-1)) (V':=I6 ((q-1:Nat):Int)) (Qaf (I6 ((q:Int)-1)) ⟨rfl,rfl⟩) (congrArg (Value.int .i64) (by omega)) (Qaa (Qaf (I6 (lo:Int)) (Qaa (QbF (vs:=[.slice a N c,I6 0,I6 ((q-1:Nat):Int),I6 (lo:Int)]) (V:=fun _:Unit=>.tuple #[]) (R:=row (.slice a N c) (((d2.setIfInBounds lo (d2[lo+(q-1)]!)).setIfInBounds (lo+(q-1)) (d2[lo]!)).toList.map (ic .u16)) 32 1) (R':=fun _=>row (.slice a N c) ((Sort.siftDown ltInt (q-1) lo 0 ((d2.setIfInBounds lo (d2[lo+(q-1)]!)).setIfInBounds (lo+(q-1)) (d2[lo]!))).toList.map (ic .u16)) 32 1) (Lo:=fun _=>[]) (F:=fun _ _=>(Sort.siftDown ltInt (q-1) lo 0 ((d2.setIfInBounds lo (d2[lo+(q-1)]!)).setIfInBounds (lo+(q-1)) (d2[lo]!))).size=N) Qr6 rfl rfl Y 0 rfl (fun S hS hlt=>QmV _ S a N c ((d2.setIfInBounds lo (d2[lo+(q-1)]!)).setIfInBounds (lo+(q-1)) (d2[lo]!)) (by first|assumption|(simp only [QQ5,Go.Sort.size_swp];omega)) hN 0 (q-1) lo (by omega) (by omega) hS hlt) fun _ w11 Y hz12=>(Qad (Qab (Qaa (Qaf (I6 ((q:Int)-1)) (Qaa (Qbb (a:=(q:Int)-1) (b:=1) (c:=((q:Int)-1)-1) rfl rfl (Qbx (by omega) (by omega)) (Qaa (Qam (I6 (((q:Int)-1)-1)) (Qad ?_)))))))))))))))))))
  refine ⟨_,?_,_,q-1,Sort.siftDown ltInt (q-1) lo 0 ((d2.setIfInBounds lo (d2[lo+(q-1)]!)).setIfInBounds (lo+(q-1)) (d2[lo]!)),Qai (Qao (ds:=([10]++sq 29 27)) (by repeat (first|exact Agr.refl _ _|refine Agr.upd ?_ rfl|refine Agr.mix ?_ rfl))) (congrArg (Value.int .i64) (by omega)),(by omega),(by assumption),(by rw [← hev2,Qta (k:=q) (by omega)];rfl),rfl,Y.take 1⟩
  omega
 replace c7:=QQ2 c7
 refine QaI ?_
 refine ⟨_,Qbl results173,?_⟩
 have hk3:q=0:=by omega
 subst hk3
 have hX:d2=Sort.heapSort ltInt d lo hi:=hev2
 exact ⟨(),rfl,hX ▸ Y.take 1,hX ▸ (by first|assumption|(simp only [QQ5,Go.Sort.size_swp];omega))⟩
end Tt
end Go.Proofs
namespace Go.Proofs
open Go Go.Vx Go.RowKit
open Go.Sort (ltInt medianAdjacent order2 partition)
open Tryz
namespace Tt
section
variable {d:Array Int} {x y sw:Nat}
theorem Qum (h:d[y]!<d[x]!):order2 ltInt d x y sw=(y,x,sw+1):=by unfold order2;rw [if_pos (by simpa [ltInt] using h)]
theorem QxQ (h:¬d[y]!<d[x]!):order2 ltInt d x y sw=(x,y,sw):=by unfold order2;rw [if_neg (by simpa [ltInt] using h)]
theorem Qn5 {N:Nat} (hx:x<N) (hy:y<N):(order2 ltInt d x y sw).1<N/\(order2 ltInt d x y sw).2.1<N/\(order2 ltInt d x y sw).2.2<=sw+1:=by
 unfold order2;split<;>simp [hx,hy]
end
theorem QwE {d:Array Int} {N x y z sw:Nat} (hx:x<N) (hy:y<N) (hz:z<N):(Sort.median ltInt d x y z sw).1<N/\(Sort.median ltInt d x y z sw).2<=sw+3:=by
 unfold Sort.median
 have h1:=Qn5 (d:=d) (sw:=sw) hx hy
 have h2:=Qn5 (d:=d) (sw:=(order2 ltInt d x y sw).2.2) h1.2.1 hz
 have h3:=Qn5 (d:=d) (sw:=(order2 ltInt d (order2 ltInt d x y sw).2.1 z (order2 ltInt d x y sw).2.2).2.2) h1.1 h2.1
 exact ⟨h3.2.1,Nat.le_trans h3.2.2 (Nat.succ_le_succ (Nat.le_trans h2.2.2 (Nat.succ_le_succ h1.2.2)))⟩
theorem Qmy {d:Array Int} {N x sw:Nat} (h1:1<=x) (hx:x+1<N):(medianAdjacent ltInt d x sw).1<N/\(medianAdjacent ltInt d x sw).2<=sw+3:=QwE (by omega) (by omega) (by omega)
theorem QsW (w:World) (S:Nat->Prop) (a:Option Addr) (N c:Nat) (d:Array Int) (hsz:d.size=N) (hN:N<=2305843009213693951) (sb sw:Nat) (hsw:sw<=1000) (hr:Rd w (.slice a N c) 1 (d.toList.map (ic .u16))) (hb:bkS (.slice a N c)<w.heap.size) (hm:¬S (bkS (.slice a N c))) (hR:(blk sb [.int .i64 (sw:Int)] 3).holds w S) (hlt:∀ x,S x->x<w.heap.size) (x y:Nat) (hx:x<N) (hy:y<N):Calls prog 189 #[.slice a N c,.int .i64 (x:Int),.int .i64 (y:Int),.pointer (some ⟨sb,0,none⟩)] w (fun e w'=>∃ _u:Unit,e = .returned (.tuple #[.int .i64 (((order2 ltInt d x y sw).1:Nat):Int),.int .i64 (((order2 ltInt d x y sw).2.1:Nat):Int)])/\Own w S w' [blk sb [.int .i64 (((order2 ltInt d x y sw).2.2:Nat):Int)] 3]/\True):=by
 refine Qah (n:=28) func189 rfl ntmps189 rfl ?_
 have Y:=Own.lent hR hlt
 refine Qae (Qab (Qaa (Qam (I6 0) (Qaa (Qam (I6 0) (Qad (Qae (Qae (QaH HM (so 10 9) [] [0,0,3,7,0,0,48,112,255] [pv (.slice a N c),pv (I6 (y:Int)),pv (.pointer (some ⟨bkS (.slice a N c),ofS (.slice a N c)+(y:Int).toNat*1,none⟩)),pv (I7 (d[y]!)),pv (.slice a N c),pv (I6 (x:Int)),pv (.pointer (some ⟨bkS (.slice a N c),ofS (.slice a N c)+(x:Int).toNat*1,none⟩)),pv (I7 (d[x]!)),pv (.bool (decide (d[y]!<d[x]!)))] (fun _ _=>_) [8] (by kernel_rfl) Y ⟨?_,?_,?_,?_,?_,?_,?_,?_,?_,trivial⟩ ?_)))))))))
 ·exact oi [] fun Y=>Qaf (.slice a N c) (Zz Y)
 ·exact oi [] fun Y=>Qaf (.int .i64 (y:Int)) (Zz Y)
 ·exact oi [0,1] fun Y=>Qax QaP Qar.1 (Rd.ownS hm hr Y) rfl rfl (by omega) (by simp only [QQ6,QQ9,QQ5,Go.Sort.size_swp];omega) (Zz Y)
 ·exact oi [2] fun Y=>QaV (j:=0) (V:=.int .u16 (d[y]!)) y Qar (Rd.ownS hm hr Y) (QbA (by omega)) rfl rfl (by omega) (Zz Y)
 ·exact oi [] fun Y=>Qaf (.slice a N c) (Zz Y)
 ·exact oi [] fun Y=>Qaf (.int .i64 (x:Int)) (Zz Y)
 ·exact oi [4,5] fun Y=>Qax QaP Qar.1 (Rd.ownS hm hr Y) rfl rfl (by omega) (by simp only [QQ6,QQ9,QQ5,Go.Sort.size_swp];omega) (Zz Y)
 ·exact oi [6] fun Y=>QaV (j:=0) (V:=.int .u16 (d[x]!)) x Qar (Rd.ownS hm hr Y) (QbA (by omega)) rfl rfl (by omega) (Zz Y)
 ·exact oi [3,7] fun Y=>Qas (vs:=[.int .u16 (d[y]!),.int .u16 (d[x]!)]) (V:=.bool (decide (d[y]!<d[x]!))) Qdr rfl rfl (QcF _ (d[y]!) (d[x]!)) Y fun _ Y=>Zz Y
 rintro J1 w2 J2 hJ Y
 replace hJ:J2=upd (mix (sq 10 9) J1 _) 18 (.bool (decide (d[y]!<d[x]!))):=hJ
 subst hJ
 refine Qak (t:=decide (d[y]!<d[x]!)) rfl (fun c3=>?_) (fun c3=>?_)
 ·
  replace c3:=QQ1 c3
  refine Qae (Qab (Qaa (Qaf (Pq sb 0) (Qaa (Qc3 rfl (Qaa (QaN (I6 (sw:Int)) QtT Y 0 (Qaa (QaB (a:=(sw:Int)) (b:=1) (c:=((sw+1:Nat):Int)) rfl rfl (Qaj (by omega) (by omega)) (Qaa (Qc3 rfl (Qaa (Qcs (V:=I6 ((sw+1:Nat):Int)) (cs':=[I6 ((sw+1:Nat):Int)]) QtT Y 0 rfl rfl rfl rfl (QQ8 rfl) rfl fun w4 Y=>(Qad (Qae (Qab (Qaa (Qaf (I6 (y:Int)) (Qaa (Qaf (I6 (x:Int)) (Qaa (Qam (I6 (y:Int)) (Qaa (Qam (I6 (x:Int)) (Qad (Qav ?_))))))))))))))))))))))))))
  refine ⟨_,QbO (U:=I6 (y:Int)) (V:=I6 (x:Int)) results189 rfl rfl,?_⟩
  rw [Qum c3]
  exact ⟨(),rfl,Y.take 1,trivial⟩
 replace c3:=QQ2 c3
 refine Qap (Qae (Qab (Qaa (Qaf (I6 (x:Int)) (Qaa (Qaf (I6 (y:Int)) (Qaa (Qam (I6 (x:Int)) (Qaa (Qam (I6 (y:Int)) (Qad (Qav ?_))))))))))))
 refine ⟨_,QbO (U:=I6 (x:Int)) (V:=I6 (y:Int)) results189 rfl rfl,?_⟩
 rw [QxQ c3]
 exact ⟨(),rfl,Y.take 1,trivial⟩
theorem QoH (w:World) (S:Nat->Prop) (a:Option Addr) (N c:Nat) (d:Array Int) (hsz:d.size=N) (hN:N<=2305843009213693951) (sb sw:Nat) (hsw:sw<=900) (hr:Rd w (.slice a N c) 1 (d.toList.map (ic .u16))) (hb:bkS (.slice a N c)<w.heap.size) (hm:¬S (bkS (.slice a N c))) (hR:(blk sb [.int .i64 (sw:Int)] 3).holds w S) (hlt:∀ x,S x->x<w.heap.size) (x y z:Nat) (hx:x<N) (hy:y<N) (hz:z<N):Calls prog 187 #[.slice a N c,.int .i64 (x:Int),.int .i64 (y:Int),.int .i64 (z:Int),.pointer (some ⟨sb,0,none⟩)] w (fun e w'=>∃ _u:Unit,e = .returned (.int .i64 (((Sort.median ltInt d x y z sw).1:Nat):Int))/\Own w S w' [blk sb [.int .i64 (((Sort.median ltInt d x y z sw).2:Nat):Int)] 3]/\True):=by
 refine Qah (n:=36) func187 rfl ntmps187 rfl ?_
 have Y:=Own.lent hR hlt
 refine Qae (Qab (Qaa (Qam (I6 0) (Qad (Qae (Qab (Qaa (Qaf (.slice a N c) (Qaa (Qaf (I6 (x:Int)) (Qaa (Qaf (I6 (y:Int)) (Qaa (Qaf (Pq sb 0) (Qaa (Qdl (vs:=[.slice a N c,I6 (x:Int),I6 (y:Int),Pq sb 0]) (V:=fun _:Unit=>.tuple #[I6 (((order2 ltInt d x y sw).1:Nat):Int),I6 (((order2 ltInt d x y sw).2.1:Nat):Int)]) (R:=blk sb [I6 (sw:Int)] 3) (R':=fun _=>blk sb [I6 (((order2 ltInt d x y sw).2.2:Nat):Int)] 3) (Lo:=fun _=>[]) (F:=fun _ _=>True) Qm1 rfl rfl Y 0 rfl (fun S hS hlt hSM=>QsW _ S a N c d hsz hN sb sw (by omega) (Rd.ownS hm hr Y) (Nat.lt_of_lt_of_le hb Y.size) (fun h=>hm (hSM _ h hb)) hS hlt x y (by omega) (by omega)) fun _ w1 Y _=>(Qaa (Qaf (.tuple #[I6 (((order2 ltInt d x y sw).1:Nat):Int),I6 (((order2 ltInt d x y sw).2.1:Nat):Int)]) (Qaa (QaC (V:=I6 (((order2 ltInt d x y sw).1:Nat):Int)) rfl rfl (Qaa (QaC (V:=I6 (((order2 ltInt d x y sw).2.1:Nat):Int)) rfl rfl (Qaa (Qam (I6 (((order2 ltInt d x y sw).1:Nat):Int)) (Qaa (Qam (I6 (((order2 ltInt d x y sw).2.1:Nat):Int)) (Qad (Qae ?_))))))))))))))))))))))))))))
 have hq1:=Qn5 (d:=d) (sw:=sw) hx hy
 refine Qab (Qaa (Qaf (.slice a N c) (Qaa (Qaf (I6 (((order2 ltInt d x y sw).2.1:Nat):Int)) (Qaa (Qaf (I6 (z:Int)) (Qaa (Qaf (Pq sb 0) (Qaa (Qdl (vs:=[.slice a N c,I6 (((order2 ltInt d x y sw).2.1:Nat):Int),I6 (z:Int),Pq sb 0]) (V:=fun _:Unit=>.tuple #[I6 (((order2 ltInt d ((order2 ltInt d x y sw).2.1) z ((order2 ltInt d x y sw).2.2)).1:Nat):Int),I6 (((order2 ltInt d ((order2 ltInt d x y sw).2.1) z ((order2 ltInt d x y sw).2.2)).2.1:Nat):Int)]) (R:=blk sb [I6 (((order2 ltInt d x y sw).2.2:Nat):Int)] 3) (R':=fun _=>blk sb [I6 (((order2 ltInt d ((order2 ltInt d x y sw).2.1) z ((order2 ltInt d x y sw).2.2)).2.2:Nat):Int)] 3) (Lo:=fun _=>[]) (F:=fun _ _=>True) Qm1 rfl rfl Y 0 rfl (fun S hS hlt hSM=>QsW _ S a N c d hsz hN sb ((order2 ltInt d x y sw).2.2) (by omega) (Rd.ownS hm hr Y) (Nat.lt_of_lt_of_le hb Y.size) (fun h=>hm (hSM _ h hb)) hS hlt ((order2 ltInt d x y sw).2.1) z (by omega) (by omega)) fun _ w2 Y _=>(Qaa (Qaf (.tuple #[I6 (((order2 ltInt d ((order2 ltInt d x y sw).2.1) z ((order2 ltInt d x y sw).2.2)).1:Nat):Int),I6 (((order2 ltInt d ((order2 ltInt d x y sw).2.1) z ((order2 ltInt d x y sw).2.2)).2.1:Nat):Int)]) (Qaa (QaC (V:=I6 (((order2 ltInt d ((order2 ltInt d x y sw).2.1) z ((order2 ltInt d x y sw).2.2)).1:Nat):Int)) rfl rfl (Qaa (QaC (V:=I6 (((order2 ltInt d ((order2 ltInt d x y sw).2.1) z ((order2 ltInt d x y sw).2.2)).2.1:Nat):Int)) rfl rfl (Qaa (Qam (I6 (((order2 ltInt d ((order2 ltInt d x y sw).2.1) z ((order2 ltInt d x y sw).2.2)).1:Nat):Int)) (Qaa (Qam (I6 (((order2 ltInt d ((order2 ltInt d x y sw).2.1) z ((order2 ltInt d x y sw).2.2)).2.1:Nat):Int)) (Qad (Qae ?_))))))))))))))))))))))
 have hq2:=Qn5 (d:=d) (sw:=(order2 ltInt d x y sw).2.2) hq1.2.1 hz
 refine Qab (Qaa (Qaf (.slice a N c) (Qaa (Qaf (I6 (((order2 ltInt d x y sw).1:Nat):Int)) (Qaa (Qaf (I6 (((order2 ltInt d ((order2 ltInt d x y sw).2.1) z ((order2 ltInt d x y sw).2.2)).1:Nat):Int)) (Qaa (Qaf (Pq sb 0) (Qaa (Qdl (vs:=[.slice a N c,I6 (((order2 ltInt d x y sw).1:Nat):Int),I6 (((order2 ltInt d ((order2 ltInt d x y sw).2.1) z ((order2 ltInt d x y sw).2.2)).1:Nat):Int),Pq sb 0]) (V:=fun _:Unit=>.tuple #[I6 (((order2 ltInt d ((order2 ltInt d x y sw).1) ((order2 ltInt d ((order2 ltInt d x y sw).2.1) z ((order2 ltInt d x y sw).2.2)).1) ((order2 ltInt d ((order2 ltInt d x y sw).2.1) z ((order2 ltInt d x y sw).2.2)).2.2)).1:Nat):Int),I6 (((order2 ltInt d ((order2 ltInt d x y sw).1) ((order2 ltInt d ((order2 ltInt d x y sw).2.1) z ((order2 ltInt d x y sw).2.2)).1) ((order2 ltInt d ((order2 ltInt d x y sw).2.1) z ((order2 ltInt d x y sw).2.2)).2.2)).2.1:Nat):Int)]) (R:=blk sb [I6 (((order2 ltInt d ((order2 ltInt d x y sw).2.1) z ((order2 ltInt d x y sw).2.2)).2.2:Nat):Int)] 3) (R':=fun _=>blk sb [I6 (((order2 ltInt d ((order2 ltInt d x y sw).1) ((order2 ltInt d ((order2 ltInt d x y sw).2.1) z ((order2 ltInt d x y sw).2.2)).1) ((order2 ltInt d ((order2 ltInt d x y sw).2.1) z ((order2 ltInt d x y sw).2.2)).2.2)).2.2:Nat):Int)] 3) (Lo:=fun _=>[]) (F:=fun _ _=>True) Qm1 rfl rfl Y 0 rfl (fun S hS hlt hSM=>QsW _ S a N c d hsz hN sb ((order2 ltInt d ((order2 ltInt d x y sw).2.1) z ((order2 ltInt d x y sw).2.2)).2.2) (by omega) (Rd.ownS hm hr Y) (Nat.lt_of_lt_of_le hb Y.size) (fun h=>hm (hSM _ h hb)) hS hlt ((order2 ltInt d x y sw).1) ((order2 ltInt d ((order2 ltInt d x y sw).2.1) z ((order2 ltInt d x y sw).2.2)).1) (by omega) (by omega)) fun _ w3 Y _=>(Qaa (Qaf (.tuple #[I6 (((order2 ltInt d ((order2 ltInt d x y sw).1) ((order2 ltInt d ((order2 ltInt d x y sw).2.1) z ((order2 ltInt d x y sw).2.2)).1) ((order2 ltInt d ((order2 ltInt d x y sw).2.1) z ((order2 ltInt d x y sw).2.2)).2.2)).1:Nat):Int),I6 (((order2 ltInt d ((order2 ltInt d x y sw).1) ((order2 ltInt d ((order2 ltInt d x y sw).2.1) z ((order2 ltInt d x y sw).2.2)).1) ((order2 ltInt d ((order2 ltInt d x y sw).2.1) z ((order2 ltInt d x y sw).2.2)).2.2)).2.1:Nat):Int)]) (Qaa (QaC (V:=I6 (((order2 ltInt d ((order2 ltInt d x y sw).1) ((order2 ltInt d ((order2 ltInt d x y sw).2.1) z ((order2 ltInt d x y sw).2.2)).1) ((order2 ltInt d ((order2 ltInt d x y sw).2.1) z ((order2 ltInt d x y sw).2.2)).2.2)).1:Nat):Int)) rfl rfl (Qaa (QaC (V:=I6 (((order2 ltInt d ((order2 ltInt d x y sw).1) ((order2 ltInt d ((order2 ltInt d x y sw).2.1) z ((order2 ltInt d x y sw).2.2)).1) ((order2 ltInt d ((order2 ltInt d x y sw).2.1) z ((order2 ltInt d x y sw).2.2)).2.2)).2.1:Nat):Int)) rfl rfl (Qaa (Qam (I6 (((order2 ltInt d ((order2 ltInt d x y sw).1) ((order2 ltInt d ((order2 ltInt d x y sw).2.1) z ((order2 ltInt d x y sw).2.2)).1) ((order2 ltInt d ((order2 ltInt d x y sw).2.1) z ((order2 ltInt d x y sw).2.2)).2.2)).1:Nat):Int)) (Qaa (Qam (I6 (((order2 ltInt d ((order2 ltInt d x y sw).1) ((order2 ltInt d ((order2 ltInt d x y sw).2.1) z ((order2 ltInt d x y sw).2.2)).1) ((order2 ltInt d ((order2 ltInt d x y sw).2.1) z ((order2 ltInt d x y sw).2.2)).2.2)).2.1:Nat):Int)) (Qad (Qae (Qab (Qaa (Qaf (I6 (((order2 ltInt d ((order2 ltInt d x y sw).1) ((order2 ltInt d ((order2 ltInt d x y sw).2.1) z ((order2 ltInt d x y sw).2.2)).1) ((order2 ltInt d ((order2 ltInt d x y sw).2.1) z ((order2 ltInt d x y sw).2.2)).2.2)).2.1:Nat):Int)) (Qaa (Qam (I6 (((order2 ltInt d ((order2 ltInt d x y sw).1) ((order2 ltInt d ((order2 ltInt d x y sw).2.1) z ((order2 ltInt d x y sw).2.2)).1) ((order2 ltInt d ((order2 ltInt d x y sw).2.1) z ((order2 ltInt d x y sw).2.2)).2.2)).2.1:Nat):Int)) (Qad (Qav ?_)))))))))))))))))))))))))))))
 refine ⟨_,Qan (V:=I6 (((order2 ltInt d ((order2 ltInt d x y sw).1) ((order2 ltInt d ((order2 ltInt d x y sw).2.1) z ((order2 ltInt d x y sw).2.2)).1) ((order2 ltInt d ((order2 ltInt d x y sw).2.1) z ((order2 ltInt d x y sw).2.2)).2.2)).2.1:Nat):Int)) results187 rfl,?_⟩
 exact ⟨(),rfl,Y.take 1,trivial⟩
theorem QnK (w:World) (S:Nat->Prop) (a:Option Addr) (N c:Nat) (d:Array Int) (hsz:d.size=N) (hN:N<=2305843009213693951) (sb sw:Nat) (hsw:sw<=900) (hr:Rd w (.slice a N c) 1 (d.toList.map (ic .u16))) (hb:bkS (.slice a N c)<w.heap.size) (hm:¬S (bkS (.slice a N c))) (hR:(blk sb [.int .i64 (sw:Int)] 3).holds w S) (hlt:∀ x,S x->x<w.heap.size) (x:Nat) (hx:1<=x) (hy:x+1<N):Calls prog 186 #[.slice a N c,.int .i64 (x:Int),.pointer (some ⟨sb,0,none⟩)] w (fun e w'=>∃ _u:Unit,e = .returned (.int .i64 (((medianAdjacent ltInt d x sw).1:Nat):Int))/\Own w S w' [blk sb [.int .i64 (((medianAdjacent ltInt d x sw).2:Nat):Int)] 3]/\True):=by
 refine Qah (n:=15) func186 rfl ntmps186 rfl ?_
 have Y:=Own.lent hR hlt
 refine Qae (Qab (Qaa (Qam (I6 0) (Qad (Qae (Qab (Qaa (Qaf (.slice a N c) (Qaa (Qaf (I6 (x:Int)) (Qaa (Qbb (a:=(x:Int)) (b:=1) (c:=((x-1:Nat):Int)) rfl rfl (Qaj (by omega) (by omega)) (Qaa (Qaf (I6 (x:Int)) (Qaa (Qaf (I6 (x:Int)) (Qaa (QaB (a:=(x:Int)) (b:=1) (c:=((x+1:Nat):Int)) rfl rfl (Qaj (by omega) (by omega)) (Qaa (Qaf (Pq sb 0) (Qaa (Qdl (vs:=[.slice a N c,I6 ((x-1:Nat):Int),I6 (x:Int),I6 ((x+1:Nat):Int),Pq sb 0]) (V:=fun _:Unit=>I6 (((Sort.median ltInt d (x-1) x (x+1) sw).1:Nat):Int)) (R:=blk sb [I6 (sw:Int)] 3) (R':=fun _=>blk sb [I6 (((Sort.median ltInt d (x-1) x (x+1) sw).2:Nat):Int)] 3) (Lo:=fun _=>[]) (F:=fun _ _=>True) Qn1 rfl rfl Y 0 rfl (fun S hS hlt hSM=>QoH _ S a N c d hsz hN sb sw (by omega) (Rd.ownS hm hr Y) (Nat.lt_of_lt_of_le hb Y.size) (fun h=>hm (hSM _ h hb)) hS hlt (x-1) x (x+1) (by omega) (by omega) (by omega)) fun _ w1 Y _=>(Qaa (Qam (I6 (((Sort.median ltInt d (x-1) x (x+1) sw).1:Nat):Int)) (Qad (Qav ?_))))))))))))))))))))))))))
 refine ⟨_,Qan (V:=I6 (((Sort.median ltInt d (x-1) x (x+1) sw).1:Nat):Int)) results186 rfl,?_⟩
 exact ⟨(),rfl,Y.take 1,trivial⟩
end Tt
end Go.Proofs
namespace Go.Proofs
open Go Go.Vx Go.RowKit
open Go.Sort (ltInt medianAdjacent order2 partition)
open Tryz
namespace Tt
def QcU:Sort.Hint->Int
 | .unknown=>0
 | .increasing=>1
 | .decreasing=>2
def cpR (d:Array Int) (lo hi:Nat):Nat × Nat:=if hi-lo ≥ 8 then (if hi-lo ≥ 50 then Sort.median ltInt d (medianAdjacent ltInt d (lo+((hi-lo)/4)*1) (0)).1 (medianAdjacent ltInt d (lo+((hi-lo)/4)*2) ((medianAdjacent ltInt d (lo+((hi-lo)/4)*1) (0)).2)).1 (medianAdjacent ltInt d (lo+((hi-lo)/4)*3) ((medianAdjacent ltInt d (lo+((hi-lo)/4)*2) ((medianAdjacent ltInt d (lo+((hi-lo)/4)*1) (0)).2)).2)).1 (medianAdjacent ltInt d (lo+((hi-lo)/4)*3) ((medianAdjacent ltInt d (lo+((hi-lo)/4)*2) ((medianAdjacent ltInt d (lo+((hi-lo)/4)*1) (0)).2)).2)).2 else Sort.median ltInt d (lo+((hi-lo)/4)*1) (lo+((hi-lo)/4)*2) (lo+((hi-lo)/4)*3) 0) else (lo+((hi-lo)/4)*2,0)
theorem QwR (d:Array Int) (lo hi:Nat):Sort.choosePivot ltInt d lo hi=((cpR d lo hi).1,if (cpR d lo hi).2=0 then .increasing else if (cpR d lo hi).2=12 then .decreasing else .unknown):=rfl
theorem QjS {d:Array Int} {lo hi:Nat} {X:Nat × Nat} {h:Sort.Hint} (hR:cpR d lo hi=X) (hh:(if X.2=0 then Sort.Hint.increasing else if X.2=12 then .decreasing else .unknown)=h):Sort.choosePivot ltInt d lo hi=(X.1,h):=by
 rw [QwR,hR,hh]
theorem Qul (w:World) (a:Option Addr) (N c:Nat) (d:Array Int) (hsz:d.size=N) (hN:N<=2305843009213693951) (hr:Rd w (.slice a N c) 1 (d.toList.map (ic .u16))) (lo hi:Nat) (h1:lo<hi) (h2:hi<=N):Calls prog 175 #[.slice a N c,.int .i64 (lo:Int),.int .i64 (hi:Int)] w (fun e w'=>e = .returned (.tuple #[.int .i64 (((Sort.choosePivot ltInt d lo hi).1:Nat):Int),.int .i64 (QcU (Sort.choosePivot ltInt d lo hi).2)])/\Own w no w' []):=by
 refine Qah (n:=57) func175 rfl ntmps175 rfl ?_
 have Y:=Own.start w
 have hb:bkS (.slice a N c)<w.heap.size:=hr.bk_lt (by simp only [QQ6,QQ9];omega)
 refine Qae (Qab (Qaa (Qam (I6 0) (Qaa (Qam (I6 0) (Qad (Qae (Qab (Qaa (Qaf (I6 (hi:Int)) (Qaa (Qaf (I6 (lo:Int)) (Qaa (Qbb (a:=(hi:Int)) (b:=(lo:Int)) (c:=((hi-lo:Nat):Int)) rfl rfl (Qaj (by omega) (by omega)) (Qaa (Qam (I6 ((hi-lo:Nat):Int)) (Qad (Qae (Qab (Qaa (QaJ (cs:=[I6 0]) Qya rfl Y fun b1 w2 Y=>(Qad (Qae (Qab (Qaa (Qaf (I6 (lo:Int)) (Qaa (Qaf (I6 ((hi-lo:Nat):Int)) (Qaa (QjA (a:=((hi-lo:Nat):Int)) (b:=4) (c:=(((hi-lo)/4:Nat):Int)) rfl rfl (by decide) (Qaj rfl (by omega)) (Qaa (Qhh (a:=(((hi-lo)/4:Nat):Int)) (b:=1) (c:=((((hi-lo)/4)*1:Nat):Int)) rfl rfl (Qaj (by omega) (by omega)) (Qaa (QaB (a:=(lo:Int)) (b:=((((hi-lo)/4)*1:Nat):Int)) (c:=((lo+(((hi-lo)/4)*1):Nat):Int)) rfl rfl (Qaj (by omega) (by omega)) (Qaa (Qam (I6 ((lo+(((hi-lo)/4)*1):Nat):Int)) (Qad (Qae (Qab (Qaa (Qaf (I6 (lo:Int)) (Qaa (Qaf (I6 ((hi-lo:Nat):Int)) (Qaa (QjA (a:=((hi-lo:Nat):Int)) (b:=4) (c:=(((hi-lo)/4:Nat):Int)) rfl rfl (by decide) (Qaj rfl (by omega)) (Qaa (Qhh (a:=(((hi-lo)/4:Nat):Int)) (b:=2) (c:=((((hi-lo)/4)*2:Nat):Int)) rfl rfl (Qaj (by omega) (by omega)) (Qaa (QaB (a:=(lo:Int)) (b:=((((hi-lo)/4)*2:Nat):Int)) (c:=((lo+(((hi-lo)/4)*2):Nat):Int)) rfl rfl (Qaj (by omega) (by omega)) (Qaa (Qam (I6 ((lo+(((hi-lo)/4)*2):Nat):Int)) (Qad (Qae (Qab (Qaa (Qaf (I6 (lo:Int)) (Qaa (Qaf (I6 ((hi-lo:Nat):Int)) (Qaa (QjA (a:=((hi-lo:Nat):Int)) (b:=4) (c:=(((hi-lo)/4:Nat):Int)) rfl rfl (by decide) (Qaj rfl (by omega)) (Qaa (Qhh (a:=(((hi-lo)/4:Nat):Int)) (b:=3) (c:=((((hi-lo)/4)*3:Nat):Int)) rfl rfl (Qaj (by omega) (by omega)) (Qaa (QaB (a:=(lo:Int)) (b:=((((hi-lo)/4)*3:Nat):Int)) (c:=((lo+(((hi-lo)/4)*3):Nat):Int)) rfl rfl (Qaj (by omega) (by omega)) ?_))))))))))))))))))))))))))))))))))))))))))))))))))))))))))))))))
 refine Qaa (Qam (I6 ((lo+(((hi-lo)/4)*3):Nat):Int)) (Qad (Qae (Qae (Qab (Qaa (Qaf (I6 ((hi-lo:Nat):Int)) (Qaa (QcZ rfl rfl (Qad (Qak (t:=decide (8<=((hi-lo:Nat):Int))) rfl (fun c3=>?_) (fun c3=>?_))))))))))))
 ·
  replace c3:=QQ1 c3
  refine Qae (Qae (Qab (Qaa (Qaf (I6 ((hi-lo:Nat):Int)) (Qaa (QcZ rfl rfl (Qad (Qak (t:=decide (50<=((hi-lo:Nat):Int))) rfl (fun c4=>?_) (fun c4=>?_)))))))))
  ·
   replace c4:=QQ1 c4
   refine Qae (Qab (Qaa (Qaf (.slice a N c) (Qaa (Qaf (I6 ((lo+(((hi-lo)/4)*1):Nat):Int)) (Qaa (Qdl (vs:=[.slice a N c,I6 ((lo+(((hi-lo)/4)*1):Nat):Int),Pq b1 0]) (V:=fun _:Unit=>I6 (((medianAdjacent ltInt d (lo+(((hi-lo)/4)*1)) 0).1:Nat):Int)) (R:=blk b1 [I6 (0:Int)] 3) (R':=fun _=>blk b1 [I6 (((medianAdjacent ltInt d (lo+(((hi-lo)/4)*1)) 0).2:Nat):Int)] 3) (Lo:=fun _=>[]) (F:=fun _ _=>True) QoI rfl rfl Y 0 rfl (fun S hS hlt hSM=>QnK _ S a N c d hsz hN b1 0 (by omega) (Rd.own' hr Y) (Nat.lt_of_lt_of_le hb Y.size) (fun h=>hSM _ h hb) hS hlt (lo+(((hi-lo)/4)*1)) (by omega) (by omega)) fun _ w5 Y _=>(Qaa (Qam (I6 (((medianAdjacent ltInt d (lo+(((hi-lo)/4)*1)) 0).1:Nat):Int)) (Qad (Qae ?_)))))))))))
   have hq1:=Qmy (d:=d) (sw:=0) (N:=N) (x:=lo+((hi-lo)/4)*1) (by omega) (by omega)
   refine Qab (Qaa (Qaf (.slice a N c) (Qaa (Qaf (I6 ((lo+(((hi-lo)/4)*2):Nat):Int)) (Qaa (Qdl (vs:=[.slice a N c,I6 ((lo+(((hi-lo)/4)*2):Nat):Int),Pq b1 0]) (V:=fun _:Unit=>I6 (((medianAdjacent ltInt d (lo+(((hi-lo)/4)*2)) ((medianAdjacent ltInt d (lo+(((hi-lo)/4)*1)) 0).2)).1:Nat):Int)) (R:=blk b1 [I6 (((medianAdjacent ltInt d (lo+(((hi-lo)/4)*1)) 0).2:Nat):Int)] 3) (R':=fun _=>blk b1 [I6 (((medianAdjacent ltInt d (lo+(((hi-lo)/4)*2)) ((medianAdjacent ltInt d (lo+(((hi-lo)/4)*1)) 0).2)).2:Nat):Int)] 3) (Lo:=fun _=>[]) (F:=fun _ _=>True) QoI rfl rfl Y 0 rfl (fun S hS hlt hSM=>QnK _ S a N c d hsz hN b1 ((medianAdjacent ltInt d (lo+(((hi-lo)/4)*1)) 0).2) (by omega) (Rd.own' hr Y) (Nat.lt_of_lt_of_le hb Y.size) (fun h=>hSM _ h hb) hS hlt (lo+(((hi-lo)/4)*2)) (by omega) (by omega)) fun _ w6 Y _=>(Qaa (Qam (I6 (((medianAdjacent ltInt d (lo+(((hi-lo)/4)*2)) ((medianAdjacent ltInt d (lo+(((hi-lo)/4)*1)) 0).2)).1:Nat):Int)) (Qad ?_)))))))))
   have hq2:=Qmy (d:=d) (sw:=(medianAdjacent ltInt d (lo+((hi-lo)/4)*1) (0)).2) (N:=N) (x:=lo+((hi-lo)/4)*2) (by omega) (by omega)
   refine Qab (Qaa (Qaf (.slice a N c) (Qaa (Qaf (I6 ((lo+(((hi-lo)/4)*3):Nat):Int)) (Qaa (Qdl (vs:=[.slice a N c,I6 ((lo+(((hi-lo)/4)*3):Nat):Int),Pq b1 0]) (V:=fun _:Unit=>I6 (((medianAdjacent ltInt d (lo+(((hi-lo)/4)*3)) ((medianAdjacent ltInt d (lo+(((hi-lo)/4)*2)) ((medianAdjacent ltInt d (lo+(((hi-lo)/4)*1)) 0).2)).2)).1:Nat):Int)) (R:=blk b1 [I6 (((medianAdjacent ltInt d (lo+(((hi-lo)/4)*2)) ((medianAdjacent ltInt d (lo+(((hi-lo)/4)*1)) 0).2)).2:Nat):Int)] 3) (R':=fun _=>blk b1 [I6 (((medianAdjacent ltInt d (lo+(((hi-lo)/4)*3)) ((medianAdjacent ltInt d (lo+(((hi-lo)/4)*2)) ((medianAdjacent ltInt d (lo+(((hi-lo)/4)*1)) 0).2)).2)).2:Nat):Int)] 3) (Lo:=fun _=>[]) (F:=fun _ _=>True) QoI rfl rfl Y 0 rfl (fun S hS hlt hSM=>QnK _ S a N c d hsz hN b1 ((medianAdjacent ltInt d (lo+(((hi-lo)/4)*2)) ((medianAdjacent ltInt d (lo+(((hi-lo)/4)*1)) 0).2)).2) (by omega) (Rd.own' hr Y) (Nat.lt_of_lt_of_le hb Y.size) (fun h=>hSM _ h hb) hS hlt (lo+(((hi-lo)/4)*3)) (by omega) (by omega)) fun _ w7 Y _=>?_))))))
   replace Y:=Ow [blk b1 [I6 (((medianAdjacent ltInt d (lo+(((hi-lo)/4)*3)) ((medianAdjacent ltInt d (lo+(((hi-lo)/4)*2)) ((medianAdjacent ltInt d (lo+(((hi-lo)/4)*1)) 0).2)).2)).2:Nat):Int)] 3] Y
   refine Qaa (Qam (I6 (((medianAdjacent ltInt d (lo+(((hi-lo)/4)*3)) ((medianAdjacent ltInt d (lo+(((hi-lo)/4)*2)) ((medianAdjacent ltInt d (lo+(((hi-lo)/4)*1)) 0).2)).2)).1:Nat):Int)) (Qad ?_))
   have hq3:=Qmy (d:=d) (sw:=(medianAdjacent ltInt d (lo+((hi-lo)/4)*2) ((medianAdjacent ltInt d (lo+((hi-lo)/4)*1) (0)).2)).2) (N:=N) (x:=lo+((hi-lo)/4)*3) (by omega) (by omega)
   refine Qab (Qaa (Qaf (.slice a N c) (Qaa (Qaf (I6 (((medianAdjacent ltInt d (lo+(((hi-lo)/4)*1)) 0).1:Nat):Int)) (Qaa (Qaf (I6 (((medianAdjacent ltInt d (lo+(((hi-lo)/4)*2)) ((medianAdjacent ltInt d (lo+(((hi-lo)/4)*1)) 0).2)).1:Nat):Int)) (Qaa (Qaf (I6 (((medianAdjacent ltInt d (lo+(((hi-lo)/4)*3)) ((medianAdjacent ltInt d (lo+(((hi-lo)/4)*2)) ((medianAdjacent ltInt d (lo+(((hi-lo)/4)*1)) 0).2)).2)).1:Nat):Int)) (Qaa (Qdl (vs:=[.slice a N c,I6 (((medianAdjacent ltInt d (lo+(((hi-lo)/4)*1)) 0).1:Nat):Int),I6 (((medianAdjacent ltInt d (lo+(((hi-lo)/4)*2)) ((medianAdjacent ltInt d (lo+(((hi-lo)/4)*1)) 0).2)).1:Nat):Int),I6 (((medianAdjacent ltInt d (lo+(((hi-lo)/4)*3)) ((medianAdjacent ltInt d (lo+(((hi-lo)/4)*2)) ((medianAdjacent ltInt d (lo+(((hi-lo)/4)*1)) 0).2)).2)).1:Nat):Int),Pq b1 0]) (V:=fun _:Unit=>I6 (((Sort.median ltInt d ((medianAdjacent ltInt d (lo+(((hi-lo)/4)*1)) 0).1) ((medianAdjacent ltInt d (lo+(((hi-lo)/4)*2)) ((medianAdjacent ltInt d (lo+(((hi-lo)/4)*1)) 0).2)).1) ((medianAdjacent ltInt d (lo+(((hi-lo)/4)*3)) ((medianAdjacent ltInt d (lo+(((hi-lo)/4)*2)) ((medianAdjacent ltInt d (lo+(((hi-lo)/4)*1)) 0).2)).2)).1) ((medianAdjacent ltInt d (lo+(((hi-lo)/4)*3)) ((medianAdjacent ltInt d (lo+(((hi-lo)/4)*2)) ((medianAdjacent ltInt d (lo+(((hi-lo)/4)*1)) 0).2)).2)).2)).1:Nat):Int)) (R:=blk b1 [I6 (((medianAdjacent ltInt d (lo+(((hi-lo)/4)*3)) ((medianAdjacent ltInt d (lo+(((hi-lo)/4)*2)) ((medianAdjacent ltInt d (lo+(((hi-lo)/4)*1)) 0).2)).2)).2:Nat):Int)] 3) (R':=fun _=>blk b1 [I6 (((Sort.median ltInt d ((medianAdjacent ltInt d (lo+(((hi-lo)/4)*1)) 0).1) ((medianAdjacent ltInt d (lo+(((hi-lo)/4)*2)) ((medianAdjacent ltInt d (lo+(((hi-lo)/4)*1)) 0).2)).1) ((medianAdjacent ltInt d (lo+(((hi-lo)/4)*3)) ((medianAdjacent ltInt d (lo+(((hi-lo)/4)*2)) ((medianAdjacent ltInt d (lo+(((hi-lo)/4)*1)) 0).2)).2)).1) ((medianAdjacent ltInt d (lo+(((hi-lo)/4)*3)) ((medianAdjacent ltInt d (lo+(((hi-lo)/4)*2)) ((medianAdjacent ltInt d (lo+(((hi-lo)/4)*1)) 0).2)).2)).2)).2:Nat):Int)] 3) (Lo:=fun _=>[]) (F:=fun _ _=>True) Qn1 rfl rfl Y 0 rfl (fun S hS hlt hSM=>QoH _ S a N c d hsz hN b1 ((medianAdjacent ltInt d (lo+(((hi-lo)/4)*3)) ((medianAdjacent ltInt d (lo+(((hi-lo)/4)*2)) ((medianAdjacent ltInt d (lo+(((hi-lo)/4)*1)) 0).2)).2)).2) (by omega) (Rd.own' hr Y) (Nat.lt_of_lt_of_le hb Y.size) (fun h=>hSM _ h hb) hS hlt ((medianAdjacent ltInt d (lo+(((hi-lo)/4)*1)) 0).1) ((medianAdjacent ltInt d (lo+(((hi-lo)/4)*2)) ((medianAdjacent ltInt d (lo+(((hi-lo)/4)*1)) 0).2)).1) ((medianAdjacent ltInt d (lo+(((hi-lo)/4)*3)) ((medianAdjacent ltInt d (lo+(((hi-lo)/4)*2)) ((medianAdjacent ltInt d (lo+(((hi-lo)/4)*1)) 0).2)).2)).1) (by omega) (by omega) (by omega)) fun _ w8 Y _=>(Qaa (Qam (I6 (((Sort.median ltInt d ((medianAdjacent ltInt d (lo+(((hi-lo)/4)*1)) 0).1) ((medianAdjacent ltInt d (lo+(((hi-lo)/4)*2)) ((medianAdjacent ltInt d (lo+(((hi-lo)/4)*1)) 0).2)).1) ((medianAdjacent ltInt d (lo+(((hi-lo)/4)*3)) ((medianAdjacent ltInt d (lo+(((hi-lo)/4)*2)) ((medianAdjacent ltInt d (lo+(((hi-lo)/4)*1)) 0).2)).2)).1) ((medianAdjacent ltInt d (lo+(((hi-lo)/4)*3)) ((medianAdjacent ltInt d (lo+(((hi-lo)/4)*2)) ((medianAdjacent ltInt d (lo+(((hi-lo)/4)*1)) 0).2)).2)).2)).1:Nat):Int)) (Qad (Qae (Qab (Qaa (QaN (I6 (((Sort.median ltInt d ((medianAdjacent ltInt d (lo+(((hi-lo)/4)*1)) 0).1) ((medianAdjacent ltInt d (lo+(((hi-lo)/4)*2)) ((medianAdjacent ltInt d (lo+(((hi-lo)/4)*1)) 0).2)).1) ((medianAdjacent ltInt d (lo+(((hi-lo)/4)*3)) ((medianAdjacent ltInt d (lo+(((hi-lo)/4)*2)) ((medianAdjacent ltInt d (lo+(((hi-lo)/4)*1)) 0).2)).2)).1) ((medianAdjacent ltInt d (lo+(((hi-lo)/4)*3)) ((medianAdjacent ltInt d (lo+(((hi-lo)/4)*2)) ((medianAdjacent ltInt d (lo+(((hi-lo)/4)*1)) 0).2)).2)).2)).2:Nat):Int)) QtT Y 0 (Qad (Qal (Qae (Qab (Qaa (QaT rfl rfl (Qaa (Qam (.bool (decide ((((Sort.median ltInt d ((medianAdjacent ltInt d (lo+(((hi-lo)/4)*1)) 0).1) ((medianAdjacent ltInt d (lo+(((hi-lo)/4)*2)) ((medianAdjacent ltInt d (lo+(((hi-lo)/4)*1)) 0).2)).1) ((medianAdjacent ltInt d (lo+(((hi-lo)/4)*3)) ((medianAdjacent ltInt d (lo+(((hi-lo)/4)*2)) ((medianAdjacent ltInt d (lo+(((hi-lo)/4)*1)) 0).2)).2)).1) ((medianAdjacent ltInt d (lo+(((hi-lo)/4)*3)) ((medianAdjacent ltInt d (lo+(((hi-lo)/4)*2)) ((medianAdjacent ltInt d (lo+(((hi-lo)/4)*1)) 0).2)).2)).2)).2:Nat):Int)=0))) (Qad (Qak (t:=decide ((((Sort.median ltInt d ((medianAdjacent ltInt d (lo+(((hi-lo)/4)*1)) 0).1) ((medianAdjacent ltInt d (lo+(((hi-lo)/4)*2)) ((medianAdjacent ltInt d (lo+(((hi-lo)/4)*1)) 0).2)).1) ((medianAdjacent ltInt d (lo+(((hi-lo)/4)*3)) ((medianAdjacent ltInt d (lo+(((hi-lo)/4)*2)) ((medianAdjacent ltInt d (lo+(((hi-lo)/4)*1)) 0).2)).2)).1) ((medianAdjacent ltInt d (lo+(((hi-lo)/4)*3)) ((medianAdjacent ltInt d (lo+(((hi-lo)/4)*2)) ((medianAdjacent ltInt d (lo+(((hi-lo)/4)*1)) 0).2)).2)).2)).2:Nat):Int)=0)) rfl (fun c9=>?_) (fun c9=>?_))))))))))))))))))))))))))))
   ·
    replace c9:=QQ1 c9
    refine Qae (Qab (Qaa (Qaf (I6 (((Sort.median ltInt d ((medianAdjacent ltInt d (lo+(((hi-lo)/4)*1)) 0).1) ((medianAdjacent ltInt d (lo+(((hi-lo)/4)*2)) ((medianAdjacent ltInt d (lo+(((hi-lo)/4)*1)) 0).2)).1) ((medianAdjacent ltInt d (lo+(((hi-lo)/4)*3)) ((medianAdjacent ltInt d (lo+(((hi-lo)/4)*2)) ((medianAdjacent ltInt d (lo+(((hi-lo)/4)*1)) 0).2)).2)).1) ((medianAdjacent ltInt d (lo+(((hi-lo)/4)*3)) ((medianAdjacent ltInt d (lo+(((hi-lo)/4)*2)) ((medianAdjacent ltInt d (lo+(((hi-lo)/4)*1)) 0).2)).2)).2)).1:Nat):Int)) (Qaa (Qam (I6 (((Sort.median ltInt d ((medianAdjacent ltInt d (lo+(((hi-lo)/4)*1)) 0).1) ((medianAdjacent ltInt d (lo+(((hi-lo)/4)*2)) ((medianAdjacent ltInt d (lo+(((hi-lo)/4)*1)) 0).2)).1) ((medianAdjacent ltInt d (lo+(((hi-lo)/4)*3)) ((medianAdjacent ltInt d (lo+(((hi-lo)/4)*2)) ((medianAdjacent ltInt d (lo+(((hi-lo)/4)*1)) 0).2)).2)).1) ((medianAdjacent ltInt d (lo+(((hi-lo)/4)*3)) ((medianAdjacent ltInt d (lo+(((hi-lo)/4)*2)) ((medianAdjacent ltInt d (lo+(((hi-lo)/4)*1)) 0).2)).2)).2)).1:Nat):Int)) (Qaa (Qam (I6 1) (Qad (Qav ?_)))))))))
    refine ⟨_,QbO (U:=I6 (((Sort.median ltInt d ((medianAdjacent ltInt d (lo+(((hi-lo)/4)*1)) 0).1) ((medianAdjacent ltInt d (lo+(((hi-lo)/4)*2)) ((medianAdjacent ltInt d (lo+(((hi-lo)/4)*1)) 0).2)).1) ((medianAdjacent ltInt d (lo+(((hi-lo)/4)*3)) ((medianAdjacent ltInt d (lo+(((hi-lo)/4)*2)) ((medianAdjacent ltInt d (lo+(((hi-lo)/4)*1)) 0).2)).2)).1) ((medianAdjacent ltInt d (lo+(((hi-lo)/4)*3)) ((medianAdjacent ltInt d (lo+(((hi-lo)/4)*2)) ((medianAdjacent ltInt d (lo+(((hi-lo)/4)*1)) 0).2)).2)).2)).1:Nat):Int)) (V:=I6 1) results175 rfl rfl,?_⟩
    refine ⟨?_,Y.take 0⟩
    rw [QjS (X:=Sort.median ltInt d (medianAdjacent ltInt d (lo+((hi-lo)/4)*1) (0)).1 (medianAdjacent ltInt d (lo+((hi-lo)/4)*2) ((medianAdjacent ltInt d (lo+((hi-lo)/4)*1) (0)).2)).1 (medianAdjacent ltInt d (lo+((hi-lo)/4)*3) ((medianAdjacent ltInt d (lo+((hi-lo)/4)*2) ((medianAdjacent ltInt d (lo+((hi-lo)/4)*1) (0)).2)).2)).1 (medianAdjacent ltInt d (lo+((hi-lo)/4)*3) ((medianAdjacent ltInt d (lo+((hi-lo)/4)*2) ((medianAdjacent ltInt d (lo+((hi-lo)/4)*1) (0)).2)).2)).2) (h:=.increasing) ((if_pos (by omega)).trans (if_pos (by omega))) (if_pos (by omega))];rfl
   replace c9:=QQ2 c9
   refine Qae (Qab (Qaa (QaT rfl rfl (Qaa (Qam (.bool (decide ((((Sort.median ltInt d ((medianAdjacent ltInt d (lo+(((hi-lo)/4)*1)) 0).1) ((medianAdjacent ltInt d (lo+(((hi-lo)/4)*2)) ((medianAdjacent ltInt d (lo+(((hi-lo)/4)*1)) 0).2)).1) ((medianAdjacent ltInt d (lo+(((hi-lo)/4)*3)) ((medianAdjacent ltInt d (lo+(((hi-lo)/4)*2)) ((medianAdjacent ltInt d (lo+(((hi-lo)/4)*1)) 0).2)).2)).1) ((medianAdjacent ltInt d (lo+(((hi-lo)/4)*3)) ((medianAdjacent ltInt d (lo+(((hi-lo)/4)*2)) ((medianAdjacent ltInt d (lo+(((hi-lo)/4)*1)) 0).2)).2)).2)).2:Nat):Int)=12))) (Qad (Qak (t:=decide ((((Sort.median ltInt d ((medianAdjacent ltInt d (lo+(((hi-lo)/4)*1)) 0).1) ((medianAdjacent ltInt d (lo+(((hi-lo)/4)*2)) ((medianAdjacent ltInt d (lo+(((hi-lo)/4)*1)) 0).2)).1) ((medianAdjacent ltInt d (lo+(((hi-lo)/4)*3)) ((medianAdjacent ltInt d (lo+(((hi-lo)/4)*2)) ((medianAdjacent ltInt d (lo+(((hi-lo)/4)*1)) 0).2)).2)).1) ((medianAdjacent ltInt d (lo+(((hi-lo)/4)*3)) ((medianAdjacent ltInt d (lo+(((hi-lo)/4)*2)) ((medianAdjacent ltInt d (lo+(((hi-lo)/4)*1)) 0).2)).2)).2)).2:Nat):Int)=12)) rfl (fun c10=>?_) (fun c10=>?_))))))))
   ·
    replace c10:=QQ1 c10
    refine Qae (Qab (Qaa (Qaf (I6 (((Sort.median ltInt d ((medianAdjacent ltInt d (lo+(((hi-lo)/4)*1)) 0).1) ((medianAdjacent ltInt d (lo+(((hi-lo)/4)*2)) ((medianAdjacent ltInt d (lo+(((hi-lo)/4)*1)) 0).2)).1) ((medianAdjacent ltInt d (lo+(((hi-lo)/4)*3)) ((medianAdjacent ltInt d (lo+(((hi-lo)/4)*2)) ((medianAdjacent ltInt d (lo+(((hi-lo)/4)*1)) 0).2)).2)).1) ((medianAdjacent ltInt d (lo+(((hi-lo)/4)*3)) ((medianAdjacent ltInt d (lo+(((hi-lo)/4)*2)) ((medianAdjacent ltInt d (lo+(((hi-lo)/4)*1)) 0).2)).2)).2)).1:Nat):Int)) (Qaa (Qam (I6 (((Sort.median ltInt d ((medianAdjacent ltInt d (lo+(((hi-lo)/4)*1)) 0).1) ((medianAdjacent ltInt d (lo+(((hi-lo)/4)*2)) ((medianAdjacent ltInt d (lo+(((hi-lo)/4)*1)) 0).2)).1) ((medianAdjacent ltInt d (lo+(((hi-lo)/4)*3)) ((medianAdjacent ltInt d (lo+(((hi-lo)/4)*2)) ((medianAdjacent ltInt d (lo+(((hi-lo)/4)*1)) 0).2)).2)).1) ((medianAdjacent ltInt d (lo+(((hi-lo)/4)*3)) ((medianAdjacent ltInt d (lo+(((hi-lo)/4)*2)) ((medianAdjacent ltInt d (lo+(((hi-lo)/4)*1)) 0).2)).2)).2)).1:Nat):Int)) (Qaa (Qam (I6 2) (Qad (Qav ?_)))))))))
    refine ⟨_,QbO (U:=I6 (((Sort.median ltInt d ((medianAdjacent ltInt d (lo+(((hi-lo)/4)*1)) 0).1) ((medianAdjacent ltInt d (lo+(((hi-lo)/4)*2)) ((medianAdjacent ltInt d (lo+(((hi-lo)/4)*1)) 0).2)).1) ((medianAdjacent ltInt d (lo+(((hi-lo)/4)*3)) ((medianAdjacent ltInt d (lo+(((hi-lo)/4)*2)) ((medianAdjacent ltInt d (lo+(((hi-lo)/4)*1)) 0).2)).2)).1) ((medianAdjacent ltInt d (lo+(((hi-lo)/4)*3)) ((medianAdjacent ltInt d (lo+(((hi-lo)/4)*2)) ((medianAdjacent ltInt d (lo+(((hi-lo)/4)*1)) 0).2)).2)).2)).1:Nat):Int)) (V:=I6 2) results175 rfl rfl,?_⟩
    refine ⟨?_,Y.take 0⟩
    rw [QjS (X:=Sort.median ltInt d (medianAdjacent ltInt d (lo+((hi-lo)/4)*1) (0)).1 (medianAdjacent ltInt d (lo+((hi-lo)/4)*2) ((medianAdjacent ltInt d (lo+((hi-lo)/4)*1) (0)).2)).1 (medianAdjacent ltInt d (lo+((hi-lo)/4)*3) ((medianAdjacent ltInt d (lo+((hi-lo)/4)*2) ((medianAdjacent ltInt d (lo+((hi-lo)/4)*1) (0)).2)).2)).1 (medianAdjacent ltInt d (lo+((hi-lo)/4)*3) ((medianAdjacent ltInt d (lo+((hi-lo)/4)*2) ((medianAdjacent ltInt d (lo+((hi-lo)/4)*1) (0)).2)).2)).2) (h:=.decreasing) ((if_pos (by omega)).trans (if_pos (by omega))) ((if_neg (by omega)).trans (if_pos (by omega)))];rfl
   replace c10:=QQ2 c10
   refine Qae (Qab (Qaa (Qaf (I6 (((Sort.median ltInt d ((medianAdjacent ltInt d (lo+(((hi-lo)/4)*1)) 0).1) ((medianAdjacent ltInt d (lo+(((hi-lo)/4)*2)) ((medianAdjacent ltInt d (lo+(((hi-lo)/4)*1)) 0).2)).1) ((medianAdjacent ltInt d (lo+(((hi-lo)/4)*3)) ((medianAdjacent ltInt d (lo+(((hi-lo)/4)*2)) ((medianAdjacent ltInt d (lo+(((hi-lo)/4)*1)) 0).2)).2)).1) ((medianAdjacent ltInt d (lo+(((hi-lo)/4)*3)) ((medianAdjacent ltInt d (lo+(((hi-lo)/4)*2)) ((medianAdjacent ltInt d (lo+(((hi-lo)/4)*1)) 0).2)).2)).2)).1:Nat):Int)) (Qaa (Qam (I6 (((Sort.median ltInt d ((medianAdjacent ltInt d (lo+(((hi-lo)/4)*1)) 0).1) ((medianAdjacent ltInt d (lo+(((hi-lo)/4)*2)) ((medianAdjacent ltInt d (lo+(((hi-lo)/4)*1)) 0).2)).1) ((medianAdjacent ltInt d (lo+(((hi-lo)/4)*3)) ((medianAdjacent ltInt d (lo+(((hi-lo)/4)*2)) ((medianAdjacent ltInt d (lo+(((hi-lo)/4)*1)) 0).2)).2)).1) ((medianAdjacent ltInt d (lo+(((hi-lo)/4)*3)) ((medianAdjacent ltInt d (lo+(((hi-lo)/4)*2)) ((medianAdjacent ltInt d (lo+(((hi-lo)/4)*1)) 0).2)).2)).2)).1:Nat):Int)) (Qaa (Qam (I6 0) (Qad (Qav ?_)))))))))
   refine ⟨_,QbO (U:=I6 (((Sort.median ltInt d ((medianAdjacent ltInt d (lo+(((hi-lo)/4)*1)) 0).1) ((medianAdjacent ltInt d (lo+(((hi-lo)/4)*2)) ((medianAdjacent ltInt d (lo+(((hi-lo)/4)*1)) 0).2)).1) ((medianAdjacent ltInt d (lo+(((hi-lo)/4)*3)) ((medianAdjacent ltInt d (lo+(((hi-lo)/4)*2)) ((medianAdjacent ltInt d (lo+(((hi-lo)/4)*1)) 0).2)).2)).1) ((medianAdjacent ltInt d (lo+(((hi-lo)/4)*3)) ((medianAdjacent ltInt d (lo+(((hi-lo)/4)*2)) ((medianAdjacent ltInt d (lo+(((hi-lo)/4)*1)) 0).2)).2)).2)).1:Nat):Int)) (V:=I6 0) results175 rfl rfl,?_⟩
   refine ⟨?_,Y.take 0⟩
   rw [QjS (X:=Sort.median ltInt d (medianAdjacent ltInt d (lo+((hi-lo)/4)*1) (0)).1 (medianAdjacent ltInt d (lo+((hi-lo)/4)*2) ((medianAdjacent ltInt d (lo+((hi-lo)/4)*1) (0)).2)).1 (medianAdjacent ltInt d (lo+((hi-lo)/4)*3) ((medianAdjacent ltInt d (lo+((hi-lo)/4)*2) ((medianAdjacent ltInt d (lo+((hi-lo)/4)*1) (0)).2)).2)).1 (medianAdjacent ltInt d (lo+((hi-lo)/4)*3) ((medianAdjacent ltInt d (lo+((hi-lo)/4)*2) ((medianAdjacent ltInt d (lo+((hi-lo)/4)*1) (0)).2)).2)).2) (h:=.unknown) ((if_pos (by omega)).trans (if_pos (by omega))) ((if_neg (by omega)).trans (if_neg (by omega)))];rfl
  replace c4:=QQ2 c4
  refine Qap (Qab (Qaa (Qaf (.slice a N c) (Qaa (Qaf (I6 ((lo+(((hi-lo)/4)*1):Nat):Int)) (Qaa (Qaf (I6 ((lo+(((hi-lo)/4)*2):Nat):Int)) (Qaa (Qaf (I6 ((lo+(((hi-lo)/4)*3):Nat):Int)) (Qaa (Qdl (vs:=[.slice a N c,I6 ((lo+(((hi-lo)/4)*1):Nat):Int),I6 ((lo+(((hi-lo)/4)*2):Nat):Int),I6 ((lo+(((hi-lo)/4)*3):Nat):Int),Pq b1 0]) (V:=fun _:Unit=>I6 (((Sort.median ltInt d (lo+(((hi-lo)/4)*1)) (lo+(((hi-lo)/4)*2)) (lo+(((hi-lo)/4)*3)) 0).1:Nat):Int)) (R:=blk b1 [I6 (0:Int)] 3) (R':=fun _=>blk b1 [I6 (((Sort.median ltInt d (lo+(((hi-lo)/4)*1)) (lo+(((hi-lo)/4)*2)) (lo+(((hi-lo)/4)*3)) 0).2:Nat):Int)] 3) (Lo:=fun _=>[]) (F:=fun _ _=>True) Qn1 rfl rfl Y 0 rfl (fun S hS hlt hSM=>QoH _ S a N c d hsz hN b1 0 (by omega) (Rd.own' hr Y) (Nat.lt_of_lt_of_le hb Y.size) (fun h=>hSM _ h hb) hS hlt (lo+(((hi-lo)/4)*1)) (lo+(((hi-lo)/4)*2)) (lo+(((hi-lo)/4)*3)) (by omega) (by omega) (by omega)) fun _ w11 Y _=>(Qaa (Qam (I6 (((Sort.median ltInt d (lo+(((hi-lo)/4)*1)) (lo+(((hi-lo)/4)*2)) (lo+(((hi-lo)/4)*3)) 0).1:Nat):Int)) (Qad (Qae (Qab (Qaa (QaN (I6 (((Sort.median ltInt d (lo+(((hi-lo)/4)*1)) (lo+(((hi-lo)/4)*2)) (lo+(((hi-lo)/4)*3)) 0).2:Nat):Int)) QtT Y 0 (Qad (Qal (Qae (Qab (Qaa (QaT rfl rfl (Qaa (Qam (.bool (decide ((((Sort.median ltInt d (lo+(((hi-lo)/4)*1)) (lo+(((hi-lo)/4)*2)) (lo+(((hi-lo)/4)*3)) 0).2:Nat):Int)=0))) (Qad (Qak (t:=decide ((((Sort.median ltInt d (lo+(((hi-lo)/4)*1)) (lo+(((hi-lo)/4)*2)) (lo+(((hi-lo)/4)*3)) 0).2:Nat):Int)=0)) rfl (fun c12=>?_) (fun c12=>?_)))))))))))))))))))))))))))))
  ·
   replace c12:=QQ1 c12
   refine Qae (Qab (Qaa (Qaf (I6 (((Sort.median ltInt d (lo+(((hi-lo)/4)*1)) (lo+(((hi-lo)/4)*2)) (lo+(((hi-lo)/4)*3)) 0).1:Nat):Int)) (Qaa (Qam (I6 (((Sort.median ltInt d (lo+(((hi-lo)/4)*1)) (lo+(((hi-lo)/4)*2)) (lo+(((hi-lo)/4)*3)) 0).1:Nat):Int)) (Qaa (Qam (I6 1) (Qad (Qav ?_)))))))))
   refine ⟨_,QbO (U:=I6 (((Sort.median ltInt d (lo+(((hi-lo)/4)*1)) (lo+(((hi-lo)/4)*2)) (lo+(((hi-lo)/4)*3)) 0).1:Nat):Int)) (V:=I6 1) results175 rfl rfl,?_⟩
   refine ⟨?_,Y.take 0⟩
   rw [QjS (X:=Sort.median ltInt d (lo+((hi-lo)/4)*1) (lo+((hi-lo)/4)*2) (lo+((hi-lo)/4)*3) 0) (h:=.increasing) ((if_pos (by omega)).trans (if_neg (by omega))) (if_pos (by omega))];rfl
  replace c12:=QQ2 c12
  refine Qae (Qab (Qaa (QaT rfl rfl (Qaa (Qam (.bool (decide ((((Sort.median ltInt d (lo+(((hi-lo)/4)*1)) (lo+(((hi-lo)/4)*2)) (lo+(((hi-lo)/4)*3)) 0).2:Nat):Int)=12))) (Qad (Qak (t:=decide ((((Sort.median ltInt d (lo+(((hi-lo)/4)*1)) (lo+(((hi-lo)/4)*2)) (lo+(((hi-lo)/4)*3)) 0).2:Nat):Int)=12)) rfl (fun c13=>?_) (fun c13=>?_))))))))
  ·
   replace c13:=QQ1 c13
   refine Qae (Qab (Qaa (Qaf (I6 (((Sort.median ltInt d (lo+(((hi-lo)/4)*1)) (lo+(((hi-lo)/4)*2)) (lo+(((hi-lo)/4)*3)) 0).1:Nat):Int)) (Qaa (Qam (I6 (((Sort.median ltInt d (lo+(((hi-lo)/4)*1)) (lo+(((hi-lo)/4)*2)) (lo+(((hi-lo)/4)*3)) 0).1:Nat):Int)) (Qaa (Qam (I6 2) (Qad (Qav ?_)))))))))
   refine ⟨_,QbO (U:=I6 (((Sort.median ltInt d (lo+(((hi-lo)/4)*1)) (lo+(((hi-lo)/4)*2)) (lo+(((hi-lo)/4)*3)) 0).1:Nat):Int)) (V:=I6 2) results175 rfl rfl,?_⟩
   refine ⟨?_,Y.take 0⟩
   rw [QjS (X:=Sort.median ltInt d (lo+((hi-lo)/4)*1) (lo+((hi-lo)/4)*2) (lo+((hi-lo)/4)*3) 0) (h:=.decreasing) ((if_pos (by omega)).trans (if_neg (by omega))) ((if_neg (by omega)).trans (if_pos (by omega)))];rfl
  replace c13:=QQ2 c13
  refine Qae (Qab (Qaa (Qaf (I6 (((Sort.median ltInt d (lo+(((hi-lo)/4)*1)) (lo+(((hi-lo)/4)*2)) (lo+(((hi-lo)/4)*3)) 0).1:Nat):Int)) (Qaa (Qam (I6 (((Sort.median ltInt d (lo+(((hi-lo)/4)*1)) (lo+(((hi-lo)/4)*2)) (lo+(((hi-lo)/4)*3)) 0).1:Nat):Int)) (Qaa (Qam (I6 0) (Qad (Qav ?_)))))))))
  refine ⟨_,QbO (U:=I6 (((Sort.median ltInt d (lo+(((hi-lo)/4)*1)) (lo+(((hi-lo)/4)*2)) (lo+(((hi-lo)/4)*3)) 0).1:Nat):Int)) (V:=I6 0) results175 rfl rfl,?_⟩
  refine ⟨?_,Y.take 0⟩
  rw [QjS (X:=Sort.median ltInt d (lo+((hi-lo)/4)*1) (lo+((hi-lo)/4)*2) (lo+((hi-lo)/4)*3) 0) (h:=.unknown) ((if_pos (by omega)).trans (if_neg (by omega))) ((if_neg (by omega)).trans (if_neg (by omega)))];rfl
 replace c3:=QQ2 c3
 refine Qap (Qae (Qab (Qaa (QaN (I6 0) QtT Y 0 (Qad (Qal (Qae (Qab (Qaa (QaT rfl rfl (Qaa (Qam (.bool (decide ((0:Int)=0))) (Qad (Qak (t:=decide ((0:Int)=0)) rfl (fun c14=>?_) (fun c14=>?_)))))))))))))))
 ·
  replace c14:=QQ1 c14
  refine Qae (Qab (Qaa (Qaf (I6 ((lo+(((hi-lo)/4)*2):Nat):Int)) (Qaa (Qam (I6 ((lo+(((hi-lo)/4)*2):Nat):Int)) (Qaa (Qam (I6 1) (Qad (Qav ?_)))))))))
  refine ⟨_,QbO (U:=I6 ((lo+(((hi-lo)/4)*2):Nat):Int)) (V:=I6 1) results175 rfl rfl,?_⟩
  refine ⟨?_,Y.take 0⟩
  rw [QjS (X:=(lo+((hi-lo)/4)*2,0)) (h:=.increasing) (if_neg (by omega)) (if_pos rfl)];rfl
 replace c14:=QQ2 c14
 refine Qae (Qab (Qaa (QaT rfl rfl (Qaa (Qam (.bool (decide ((0:Int)=12))) (Qad (Qak (t:=decide ((0:Int)=12)) rfl (fun c15=>?_) (fun c15=>?_))))))))
 ·
  replace c15:=QQ1 c15
  refine Qae (Qab (Qaa (Qaf (I6 ((lo+(((hi-lo)/4)*2):Nat):Int)) (Qaa (Qam (I6 ((lo+(((hi-lo)/4)*2):Nat):Int)) (Qaa (Qam (I6 2) (Qad (Qav ?_)))))))))
  refine ⟨_,QbO (U:=I6 ((lo+(((hi-lo)/4)*2):Nat):Int)) (V:=I6 2) results175 rfl rfl,?_⟩
  exfalso;omega
 replace c15:=QQ2 c15
 refine Qae (Qab (Qaa (Qaf (I6 ((lo+(((hi-lo)/4)*2):Nat):Int)) (Qaa (Qam (I6 ((lo+(((hi-lo)/4)*2):Nat):Int)) (Qaa (Qam (I6 0) (Qad (Qav ?_)))))))))
 refine ⟨_,QbO (U:=I6 ((lo+(((hi-lo)/4)*2):Nat):Int)) (V:=I6 0) results175 rfl rfl,?_⟩
 exfalso;omega
end Tt
end Go.Proofs
namespace Go.Proofs
open Go Go.Vx Go.RowKit
open Go.Sort (ltInt medianAdjacent order2 partition)
open Tryz
namespace Tt
section
variable {lo hi i s:Nat} {d:Array Int}
theorem QwD (h:(i:Int)<(hi:Int)) (h2:¬d[i]!<d[i-1]!):Sort.scanSorted ltInt d hi i=Sort.scanSorted ltInt d hi (i+1):=by
 rw [Sort.scanSorted,if_pos]
 simp only [Bool.and_eq_true,decide_eq_true_eq,Bool.not_eq_true',ltInt,decide_eq_false_iff_not];exact ⟨by omega,h2⟩
theorem QxX (h:(decide ((i:Int)<(hi:Int))&&!decide (d[i]!<d[i-1]!))=false):Sort.scanSorted ltInt d hi i=i:=by
 rw [Sort.scanSorted,if_neg]
 intro h2
 simp only [Bool.and_eq_true,decide_eq_true_eq,Bool.not_eq_true',ltInt,decide_eq_false_iff_not] at h2
 simp only [Bool.and_eq_false_iff,decide_eq_false_iff_not,Bool.not_eq_false',decide_eq_true_eq] at h
 rcases h with h|h
 ·exact h (by omega)
 exact h2.2 h
theorem QvM (h:1<=(i:Int)) (h2:d[i]!<d[i-1]!):Sort.shiftDown ltInt i d=Sort.shiftDown ltInt (i-1) (Sort.swp d i (i-1)):=by
 obtain ⟨j,rfl⟩:∃ j,i=j+1:=⟨i-1,by omega⟩
 rw [Nat.add_sub_cancel] at *
 rw [Sort.shiftDown,if_neg (by simp [ltInt,h2])]
theorem QwM (h2:¬d[i]!<d[i-1]!):Sort.shiftDown ltInt i d=d:=by
 cases i with
 | zero=>rfl
 | succ j=>rw [Nat.add_sub_cancel] at h2;rw [Sort.shiftDown,if_pos (by simpa [ltInt] using h2)]
theorem Qyh (h:¬1<=(i:Int)):Sort.shiftDown ltInt i d=d:=by
 have:i=0:=by omega
 subst this;rfl
theorem Qv7 (h:(i:Int)<(hi:Int)) (h2:d[i]!<d[i-1]!):Sort.shiftUp ltInt hi i d=Sort.shiftUp ltInt hi (i+1) (Sort.swp d i (i-1)):=by
 rw [Sort.shiftUp,if_pos (by omega),if_neg (by simp [ltInt,h2])]
theorem Qxl (h:(i:Int)<(hi:Int)) (h2:¬d[i]!<d[i-1]!):Sort.shiftUp ltInt hi i d=d:=by
 rw [Sort.shiftUp,if_pos (by omega),if_pos (by simpa [ltInt] using h2)]
theorem Qye (h:¬(i:Int)<(hi:Int)):Sort.shiftUp ltInt hi i d=d:=by rw [Sort.shiftUp,if_neg (by omega)]
def dnI (lo i:Nat) (d:Array Int):Array Int:=if i-lo ≥ 2 then Sort.shiftDown ltInt (i-1) d else d
def upI (hi i:Nat) (d:Array Int):Array Int:=if hi-i ≥ 2 then Sort.shiftUp ltInt hi (i+1) d else d
theorem QjI {q i2:Nat} (hq:q<5) (h2:i2=Sort.scanSorted ltInt d hi i):Sort.partialIns ltInt lo hi (5-q) i d=if i2=hi then (d,true) else if hi-lo<50 then (d,false) else Sort.partialIns ltInt lo hi (5-(q+1)) i2 (upI hi i2 (dnI lo i2 (Sort.swp d i2 (i2-1)))):=by
 obtain ⟨s,Y⟩:∃ s,5-q=s+1:=⟨5-q-1,by omega⟩
 rw [Y,show 5-(q+1)=s by omega,h2]
 rfl
end
theorem Qtc (w:World) (S:Nat->Prop) (a:Option Addr) (N c:Nat) (d:Array Int) (hsz:d.size=N) (hN:N<=2305843009213693951) (lo hi:Nat) (h1:lo<hi) (h2:hi<=N) (hR:(row (.slice a N c) (d.toList.map (ic .u16)) 32 1).holds w S) (hlt:∀ x,S x->x<w.heap.size):Calls prog 177 #[.slice a N c,.int .i64 (lo:Int),.int .i64 (hi:Int)] w (fun e w'=>∃ _u:Unit,e = .returned (.bool (Sort.partialInsertionSort ltInt d lo hi).2)/\Own w S w' [row (.slice a N c) (((Sort.partialInsertionSort ltInt d lo hi).1).toList.map (ic .u16)) 32 1]/\(Sort.partialInsertionSort ltInt d lo hi).1.size=N):=by
 refine Qah (n:=133) func177 rfl ntmps177 rfl ?_
 have Y:=Own.lent hR hlt
 refine Qae (Qab (Qaa (Qam (.bool false) (Qad (Qae (Qab (Qaa (Qaf (I6 (lo:Int)) (Qaa (QaB (a:=(lo:Int)) (b:=1) (c:=((lo+1:Nat):Int)) rfl rfl (Qaj (by omega) (by omega)) (Qaa (Qam (I6 ((lo+1:Nat):Int)) (Qad (Qae (Qae (Qab (Qaa (Qam (I6 0) (Qad (Qal (QaE (fun J μ J' w'=>∃ (Jo:Env) (q:Nat) (i:Nat) (d1:Array Int),J'=upd (upd (mix ([6,7,8,9,10]++sq 13 120) Jo J) 8 (I6 (q:Int))) 7 (I6 (i:Int))/\(q<=5)/\(lo+1<=i)/\(i<=hi)/\(d1.size=N)/\(Sort.partialIns ltInt lo hi (5-q) i d1=Sort.partialInsertionSort ltInt d lo hi)/\μ=5-q/\Own w S w' [row (.slice a N c) (d1.toList.map (ic .u16)) 32 1]) ?_ ?_)))))))))))))))))))))
 ·exact ⟨_,_,0,lo+1,d,Qai (Qai (Qao (ds:=([6,7,8,9,10]++sq 13 120)) (Agr.refl _ _)) rfl) rfl,(by omega),(by omega),(by omega),hsz,rfl,rfl,Y⟩
 rintro μ J' w1 ⟨Jo,q,i,d1,rfl,hq,hi0,hi1,hz1,hev,rfl,Y⟩
 refine Qae (Qae (Qab (Qaa (Qaf (I6 (q:Int)) (Qaa (Qa0 rfl rfl (Qad (Qak (t:=decide ((q:Int)<5)) rfl (fun c2=>?_) (fun c2=>?_)))))))))
 ·
  replace c2:=QQ1 c2
  refine Qap (Qae (Qal (Qae (Qal (QaE (fun J μ J' w'=>∃ (Jo:Env) (i2:Nat),J'=upd (mix ([7]++sq 17 18) Jo J) 7 (I6 (i2:Int))/\(i<=i2)/\(i2<=hi)/\(Sort.scanSorted ltInt d1 hi i2=Sort.scanSorted ltInt d1 hi i)/\μ=hi-i2/\Own w S w' [row (.slice a N c) (d1.toList.map (ic .u16)) 32 1]) ?_ ?_)))))
  ·exact ⟨_,_,i,Qai (Qao (ds:=([7]++sq 17 18)) (Agr.refl _ _)) rfl,(Nat.le_refl _),hi1,rfl,rfl,Y⟩
  rintro μ J' w3 ⟨Jo,i2,rfl,hi2a,hi2b,hsc,rfl,Y⟩
  refine Qae (Qae (QaH HM (so 17 16) [] [0,0,3,7,15,15,63,127,15,15,527,1807,3855,8191,16383,32767] [pv (I6 (i2:Int)),pv (I6 (hi:Int)),pv (.bool (decide ((i2:Int)<(hi:Int)))),pv (.bool (decide ((i2:Int)<(hi:Int)))),pg ((decide ((i2:Int)<(hi:Int))) == true) (.slice a N c),pg ((decide ((i2:Int)<(hi:Int))) == true) (I6 (i2:Int)),pg ((decide ((i2:Int)<(hi:Int))) == true) (.pointer (some ⟨bkS (.slice a N c),ofS (.slice a N c)+(i2:Int).toNat*1,none⟩)),pg ((decide ((i2:Int)<(hi:Int))) == true) (I7 (d1[i2]!)),pg ((decide ((i2:Int)<(hi:Int))) == true) (.slice a N c),pg ((decide ((i2:Int)<(hi:Int))) == true) (I6 (i2:Int)),pg ((decide ((i2:Int)<(hi:Int))) == true) (I6 ((i2-1:Nat):Int)),pg ((decide ((i2:Int)<(hi:Int))) == true) (.pointer (some ⟨bkS (.slice a N c),ofS (.slice a N c)+((i2-1:Nat):Int).toNat*1,none⟩)),pg ((decide ((i2:Int)<(hi:Int))) == true) (I7 (d1[i2-1]!)),pg ((decide ((i2:Int)<(hi:Int))) == true) (.bool (decide (d1[i2]!<d1[i2-1]!))),pg ((decide ((i2:Int)<(hi:Int))) == true) (.bool (!decide (d1[i2]!<d1[i2-1]!))),pv (.bool ((decide ((i2:Int)<(hi:Int)))&&(!decide (d1[i2]!<d1[i2-1]!))))] (fun _ _=>_) [15] (by kernel_rfl) Y ⟨?_,?_,?_,?_,?_,?_,?_,?_,?_,?_,?_,?_,?_,?_,?_,?_,trivial⟩ ?_))
  ·exact oi [] fun Y=>Qaf (.int .i64 (i2:Int)) (Zz Y)
  ·exact oi [] fun Y=>Qaf (.int .i64 (hi:Int)) (Zz Y)
  ·exact oi [0,1] fun Y=>Qa0 rfl rfl (Zz Y)
  ·exact oi [2] fun Y=>Qaf (.bool (decide ((i2:Int)<(hi:Int)))) (Zz Y)
  ·refine ogi [3] fun hG Y=>?_
   have hgd:=QQ1 (eq_of_beq hG)
   exact Qaf (.slice a N c) (Zz Y)
  ·refine ogi [3] fun hG Y=>?_
   have hgd:=QQ1 (eq_of_beq hG)
   exact Qaf (.int .i64 (i2:Int)) (Zz Y)
  ·refine oyi [3,4,5] [4,5] fun hG Y=>?_
   have hgd:=QQ1 (eq_of_beq hG)
   exact Qax QaP Qar.1 (Y.rd 0 rfl) rfl rfl (by omega) (by simp only [QQ6,QQ9,QQ5,Go.Sort.size_swp];omega) (Zz Y)
  ·refine oyi [3,6] [6] fun hG Y=>?_
   have hgd:=QQ1 (eq_of_beq hG)
   exact QaV (j:=0) (V:=.int .u16 (d1[i2]!)) i2 Qar (Y.rd 0 rfl) (QbA (by omega)) rfl rfl (by omega) (Zz Y)
  ·refine ogi [3] fun hG Y=>?_
   have hgd:=QQ1 (eq_of_beq hG)
   exact Qaf (.slice a N c) (Zz Y)
  ·refine ogi [3] fun hG Y=>?_
   have hgd:=QQ1 (eq_of_beq hG)
   exact Qaf (.int .i64 (i2:Int)) (Zz Y)
  ·refine oyi [3,9] [9] fun hG Y=>?_
   have hgd:=QQ1 (eq_of_beq hG)
   exact Qbb (a:=(i2:Int)) (b:=1) (c:=((i2-1:Nat):Int)) rfl rfl (Qaj (by omega) (by omega)) (Zz Y)
  ·refine oyi [3,8,10] [8,10] fun hG Y=>?_
   have hgd:=QQ1 (eq_of_beq hG)
   exact Qax QaP Qar.1 (Y.rd 0 rfl) rfl rfl (by omega) (by simp only [QQ6,QQ9,QQ5,Go.Sort.size_swp];omega) (Zz Y)
  ·refine oyi [3,11] [11] fun hG Y=>?_
   have hgd:=QQ1 (eq_of_beq hG)
   exact QaV (j:=0) (V:=.int .u16 (d1[i2-1]!)) (i2-1) Qar (Y.rd 0 rfl) (QbA (by omega)) rfl rfl (by omega) (Zz Y)
  ·refine oyi [3,7,12] [7,12] fun hG Y=>?_
   have hgd:=QQ1 (eq_of_beq hG)
   exact Qas (vs:=[.int .u16 (d1[i2]!),.int .u16 (d1[i2-1]!)]) (V:=.bool (decide (d1[i2]!<d1[i2-1]!))) Qdr rfl rfl (QcF _ (d1[i2]!) (d1[i2-1]!)) Y fun _ Y=>Zz Y
  ·refine oyi [3,13] [13] fun hG Y=>?_
   have hgd:=QQ1 (eq_of_beq hG)
   exact QbB rfl (Zz Y)
  ·exact oi [3,14] fun Y=>Qbg (h':=!decide (d1[i2]!<d1[i2-1]!)) rfl rfl rfl (Zz Y)
  rintro J1 w5 J2 hJ Y
  replace hJ:J2=upd (mix (sq 17 16) J1 _) 32 (.bool ((decide ((i2:Int)<(hi:Int)))&&(!decide (d1[i2]!<d1[i2-1]!)))):=hJ
  subst hJ
  refine Qak (t:=(decide ((i2:Int)<(hi:Int)))&&(!decide (d1[i2]!<d1[i2-1]!))) rfl (fun c6=>?_) (fun c6=>?_)
  ·
   have c6r:=Qcl c6
   replace c6:=QbZ c6
   replace c6:=QQ1 c6
   replace c6r:=QbE c6r
   replace c6r:=QQ2 c6r
   refine Qap (Qal (Qab (Qaa (Qaf (I6 (i2:Int)) (Qaa (QaB (a:=(i2:Int)) (b:=1) (c:=((i2+1:Nat):Int)) rfl rfl (Qaj (by omega) (by omega)) (Qaa (Qam (I6 ((i2+1:Nat):Int)) (Qad ?_)))))))))
   refine ⟨_,?_,_,i2+1,Qai (Qao (ds:=([7]++sq 17 18)) (by repeat (first|exact Agr.refl _ _|refine Agr.upd ?_ rfl|refine Agr.mix ?_ rfl))) rfl,(by omega),(by omega),(by rw [← hsc,QwD c6 c6r]),rfl,Y.take 1⟩
   omega
  refine QaI (Qae (Qae ?_))
  have hi2e:i2=Sort.scanSorted ltInt d1 hi i:=by rw [← hsc,QxX c6]
  refine Qab (Qaa (Qaf (I6 (i2:Int)) (Qaa (Qaf (I6 (hi:Int)) (Qaa (QaT rfl rfl (Qad (Qak (t:=decide ((i2:Int)=(hi:Int))) rfl (fun c7=>?_) (fun c7=>?_)))))))))
  ·
   replace c7:=QQ1 c7
   refine Qae (Qab (Qaa (Qam (.bool true) (Qad (Qav ?_)))))
   refine ⟨_,Qan (V:=.bool true) results177 rfl,?_⟩
   have hX:Sort.partialInsertionSort ltInt d lo hi=(d1,true):=by rw [← hev,QjI (q:=q) (by omega) hi2e,if_pos (by omega)]
   rw [hX]
   exact ⟨(),rfl,Y.take 1,hz1⟩
  replace c7:=QQ2 c7
  refine Qap (Qae (Qae (Qab (Qaa (Qaf (I6 (hi:Int)) (Qaa (Qaf (I6 (lo:Int)) (Qaa (Qbb (a:=(hi:Int)) (b:=(lo:Int)) (c:=((hi-lo:Nat):Int)) rfl rfl (Qaj (by omega) (by omega)) (Qaa (Qa0 rfl rfl (Qad (Qak (t:=decide (((hi-lo:Nat):Int)<50)) rfl (fun c8=>?_) (fun c8=>?_))))))))))))))
  ·
   replace c8:=QQ1 c8
   refine Qae (Qab (Qaa (Qam (.bool false) (Qad (Qav ?_)))))
   refine ⟨_,Qan (V:=.bool false) results177 rfl,?_⟩
   have hX:Sort.partialInsertionSort ltInt d lo hi=(d1,false):=by rw [← hev,QjI (q:=q) (by omega) hi2e,if_neg (by omega),if_pos (by omega)]
   rw [hX]
   exact ⟨(),rfl,Y.take 1,hz1⟩
  replace c8:=QQ2 c8
  refine Qap (Qae (QaH HM (so 42 15++[none,some 57,none]) [] [0,0,0,0,8,0,0,64,224,480,0,0,3072,7168,16355,32739,65535,131071] [pv (.slice a N c),pv (I6 (i2:Int)),pv (.slice a N c),pv (I6 (i2:Int)),pv (I6 ((i2-1:Nat):Int)),pv (.slice a N c),pv (I6 (i2:Int)),pv (I6 ((i2-1:Nat):Int)),pv (.pointer (some ⟨bkS (.slice a N c),ofS (.slice a N c)+((i2-1:Nat):Int).toNat*1,none⟩)),pv (I7 (d1[i2-1]!)),pv (.slice a N c),pv (I6 (i2:Int)),pv (.pointer (some ⟨bkS (.slice a N c),ofS (.slice a N c)+(i2:Int).toNat*1,none⟩)),pv (I7 (d1[i2]!)),pv (.pointer (some ⟨bkS (.slice a N c),ofS (.slice a N c)+(i2:Int).toNat*1,none⟩)),pn,pv (.pointer (some ⟨bkS (.slice a N c),ofS (.slice a N c)+((i2-1:Nat):Int).toNat*1,none⟩)),pn] (fun D J=>[cond (D 17) (row (.slice a N c) ((((d1.setIfInBounds i2 (d1[i2-1]!)).setIfInBounds (i2-1) (d1[i2]!)).toList).map (ic .u16)) 32 1) (cond (D 15) (row (.slice a N c) (((d1.setIfInBounds i2 (d1[i2-1]!)).toList).map (ic .u16)) 32 1) (row (.slice a N c) (d1.toList.map (ic .u16)) 32 1))]) [] (by kernel_rfl) Y ⟨?_,?_,?_,?_,?_,?_,?_,?_,?_,?_,?_,?_,?_,?_,?_,?_,?_,?_,trivial⟩ ?_))
  ·exact oi [] fun Y=>Qaf (.slice a N c) (Zz Y)
  ·exact oi [] fun Y=>Qaf (.int .i64 (i2:Int)) (Zz Y)
  ·exact oi [] fun Y=>Qaf (.slice a N c) (Zz Y)
  ·exact oi [] fun Y=>Qaf (.int .i64 (i2:Int)) (Zz Y)
  ·exact oi [3] fun Y=>Qbb (a:=(i2:Int)) (b:=1) (c:=((i2-1:Nat):Int)) rfl rfl (Qaj (by omega) (by omega)) (Zz Y)
  ·exact oi [] fun Y=>Qaf (.slice a N c) (Zz Y)
  ·exact oi [] fun Y=>Qaf (.int .i64 (i2:Int)) (Zz Y)
  ·exact oi [6] fun Y=>Qbb (a:=(i2:Int)) (b:=1) (c:=((i2-1:Nat):Int)) rfl rfl (Qaj (by omega) (by omega)) (Zz Y)
  ·exact ob [5,7] [15,17] rfl rfl fun D J w Y=>Qax QaP Qar.1 (Y.rd 0 rfl) rfl rfl (by omega) (by simp only [QQ6,QQ9,QQ5,Go.Sort.size_swp];omega) (Zz Y)
  ·exact ob [8] [15,17] rfl rfl fun D J w Y=>QaV (j:=0) (V:=I7 (d1[i2-1]!)) (i2-1) Qar (Y.rd 0 rfl) (QbA (by omega)) rfl rfl (by omega) (Zz Y)
  ·exact oi [] fun Y=>Qaf (.slice a N c) (Zz Y)
  ·exact oi [] fun Y=>Qaf (.int .i64 (i2:Int)) (Zz Y)
  ·exact ob [10,11] [15,17] rfl rfl fun D J w Y=>Qax QaP Qar.1 (Y.rd 0 rfl) rfl rfl (by omega) (by simp only [QQ6,QQ9,QQ5,Go.Sort.size_swp];omega) (Zz Y)
  ·exact ob [12] [15,17] rfl rfl fun D J w Y=>QaV (j:=0) (V:=I7 (d1[i2]!)) i2 Qar (Y.rd 0 rfl) (QbA (by omega)) rfl rfl (by omega) (Zz Y)
  ·exact ob [0,1] [15,17] rfl rfl fun D J w Y=>Qax QaP Qar.1 (Y.rd 0 rfl) rfl rfl (by omega) (by simp only [QQ6,QQ9,QQ5,Go.Sort.size_swp];omega) (Zz Y)
  ·exact ob [9,14] [17] rfl rfl fun D J w Y=>Qcv (z:=d1[i2-1]!) i2 Qar Y 0 rfl rfl (by omega) (by first|omega|(simp only [QQ5,Go.Sort.size_swp];omega)) rfl rfl rfl fun _ Y=>⟨trivial,Y⟩
  ·exact ob [2,4,15] [17] rfl rfl fun D J w Y=>Qax QaP Qar.1 (Y.rd 0 rfl) rfl rfl (by omega) (by simp only [QQ6,QQ9,QQ5,Go.Sort.size_swp];omega) (Zz Y)
  ·exact oi [13,15,16] fun Y=>Qcv (z:=d1[i2]!) (i2-1) Qar Y 0 rfl rfl (by omega) (by first|omega|(simp only [QQ5,Go.Sort.size_swp];omega)) rfl rfl rfl fun _ Y=>⟨trivial,Y⟩
  rintro J1 w11 J2 hJ Y
  replace hJ:J2=mix (sq 42 16) J1 _:=hJ
  replace Y:Own w S w11 [row (.slice a N c) ((((d1.setIfInBounds i2 (d1[i2-1]!)).setIfInBounds (i2-1) (d1[i2]!)).toList).map (ic .u16)) 32 1]:=Y
  subst hJ
  refine Qae (Qae (Qab (Qaa (Qaf (I6 (i2:Int)) (Qaa (Qaf (I6 (lo:Int)) (Qaa (Qbb (a:=(i2:Int)) (b:=(lo:Int)) (c:=((i2-lo:Nat):Int)) rfl rfl (Qaj (by omega) (by omega)) (Qaa (QcZ rfl rfl (Qad (Qgi (fun J J' w'=>∃ (Jo:Env) (d3:Array Int),J'=mix ([9]++sq 62 33) Jo J/\(d3=dnI lo i2 (Sort.swp d1 i2 (i2-1)))/\(d3.size=N)/\Own w S w' [row (.slice a N c) (d3.toList.map (ic .u16)) 32 1]) ?_ ?_))))))))))))
  ·
   refine Qak (t:=decide (2<=((i2-lo:Nat):Int))) rfl (fun c12=>?_) (fun c12=>?_)
   ·
    replace c12:=QQ1 c12
    refine Qae (Qab (Qaa (Qaf (I6 (i2:Int)) (Qaa (Qbb (a:=(i2:Int)) (b:=1) (c:=((i2-1:Nat):Int)) rfl rfl (Qaj (by omega) (by omega)) (Qaa (Qam (I6 ((i2-1:Nat):Int)) (Qad (Qal (QaE (fun J μ J' w'=>∃ (Jo:Env) (j:Nat) (d4:Array Int),J'=upd (mix ([9]++sq 64 31) Jo J) 9 (I6 (j:Int))/\(j<hi)/\(d4.size=N)/\(Sort.shiftDown ltInt j d4=Sort.shiftDown ltInt (i2-1) (Sort.swp d1 i2 (i2-1)))/\μ=2*j/\Own w S w' [row (.slice a N c) (d4.toList.map (ic .u16)) 32 1]) ?_ ?_))))))))))
    ·exact ⟨_,_,i2-1,((d1.setIfInBounds i2 (d1[i2-1]!)).setIfInBounds (i2-1) (d1[i2]!)),Qai (Qao (ds:=([9]++sq 64 31)) (Agr.refl _ _)) rfl,(by omega),(by simp only [QQ5];exact hz1),rfl,rfl,Y⟩
    rintro μ J' w13 ⟨Jo,j,d4,rfl,hj,hz4,hdn,rfl,Y⟩
    refine Qae (Qae (Qab (Qaa (Qaf (I6 (j:Int)) (Qaa (QcZ rfl rfl (Qad (Qak (t:=decide (1<=(j:Int))) rfl (fun c14=>?_) (fun c14=>?_)))))))))
    ·
     replace c14:=QQ1 c14
     refine Qap (Qae (Qal (Qae (Qae (QaH HM (so 68 11) [] [0,0,3,7,0,0,32,112,240,511,1023] [pv (.slice a N c),pv (I6 (j:Int)),pv (.pointer (some ⟨bkS (.slice a N c),ofS (.slice a N c)+(j:Int).toNat*1,none⟩)),pv (I7 (d4[j]!)),pv (.slice a N c),pv (I6 (j:Int)),pv (I6 ((j-1:Nat):Int)),pv (.pointer (some ⟨bkS (.slice a N c),ofS (.slice a N c)+((j-1:Nat):Int).toNat*1,none⟩)),pv (I7 (d4[j-1]!)),pv (.bool (decide (d4[j]!<d4[j-1]!))),pv (.bool (!decide (d4[j]!<d4[j-1]!)))] (fun _ _=>_) [10] (by kernel_rfl) Y ⟨?_,?_,?_,?_,?_,?_,?_,?_,?_,?_,?_,trivial⟩ ?_)))))
     ·exact oi [] fun Y=>Qaf (.slice a N c) (Zz Y)
     ·exact oi [] fun Y=>Qaf (.int .i64 (j:Int)) (Zz Y)
     ·exact oi [0,1] fun Y=>Qax QaP Qar.1 (Y.rd 0 rfl) rfl rfl (by omega) (by simp only [QQ6,QQ9,QQ5,Go.Sort.size_swp];omega) (Zz Y)
     ·exact oi [2] fun Y=>QaV (j:=0) (V:=.int .u16 (d4[j]!)) j Qar (Y.rd 0 rfl) (QbA (by omega)) rfl rfl (by omega) (Zz Y)
     ·exact oi [] fun Y=>Qaf (.slice a N c) (Zz Y)
     ·exact oi [] fun Y=>Qaf (.int .i64 (j:Int)) (Zz Y)
     ·exact oi [5] fun Y=>Qbb (a:=(j:Int)) (b:=1) (c:=((j-1:Nat):Int)) rfl rfl (Qaj (by omega) (by omega)) (Zz Y)
     ·exact oi [4,6] fun Y=>Qax QaP Qar.1 (Y.rd 0 rfl) rfl rfl (by omega) (by simp only [QQ6,QQ9,QQ5,Go.Sort.size_swp];omega) (Zz Y)
     ·exact oi [7] fun Y=>QaV (j:=0) (V:=.int .u16 (d4[j-1]!)) (j-1) Qar (Y.rd 0 rfl) (QbA (by omega)) rfl rfl (by omega) (Zz Y)
     ·exact oi [3,8] fun Y=>Qas (vs:=[.int .u16 (d4[j]!),.int .u16 (d4[j-1]!)]) (V:=.bool (decide (d4[j]!<d4[j-1]!))) Qdr rfl rfl (QcF _ (d4[j]!) (d4[j-1]!)) Y fun _ Y=>Zz Y
     ·exact oi [9] fun Y=>QbB rfl (Zz Y)
     rintro J1 w16 J2 hJ Y
     replace hJ:J2=upd (mix (sq 68 11) J1 _) 78 (.bool (!decide (d4[j]!<d4[j-1]!))):=hJ
     subst hJ
     refine Qak (t:=!decide (d4[j]!<d4[j-1]!)) rfl (fun c17=>?_) (fun c17=>?_)
     ·
      replace c17:=QbE c17
      replace c17:=QQ2 c17
      refine QaI ?_
      exact ⟨_,d4,Qao (ds:=([9]++sq 62 33)) (by repeat (first|exact Agr.refl _ _|refine Agr.upd ?_ rfl|refine Agr.mix ?_ rfl)),(by unfold dnI;rw [if_pos (by omega),← hdn,QwM c17]),hz4,Y.take 1⟩
     replace c17:=Qbd c17
     replace c17:=QQ1 c17
     refine Qap (QaH HM (so 79 15++[none,some 94,none]) [] [0,0,0,0,8,0,0,64,224,480,0,0,3072,7168,16355,32739,65535,131071] [pv (.slice a N c),pv (I6 (j:Int)),pv (.slice a N c),pv (I6 (j:Int)),pv (I6 ((j-1:Nat):Int)),pv (.slice a N c),pv (I6 (j:Int)),pv (I6 ((j-1:Nat):Int)),pv (.pointer (some ⟨bkS (.slice a N c),ofS (.slice a N c)+((j-1:Nat):Int).toNat*1,none⟩)),pv (I7 (d4[j-1]!)),pv (.slice a N c),pv (I6 (j:Int)),pv (.pointer (some ⟨bkS (.slice a N c),ofS (.slice a N c)+(j:Int).toNat*1,none⟩)),pv (I7 (d4[j]!)),pv (.pointer (some ⟨bkS (.slice a N c),ofS (.slice a N c)+(j:Int).toNat*1,none⟩)),pn,pv (.pointer (some ⟨bkS (.slice a N c),ofS (.slice a N c)+((j-1:Nat):Int).toNat*1,none⟩)),pn] (fun D J=>[cond (D 17) (row (.slice a N c) ((((d4.setIfInBounds j (d4[j-1]!)).setIfInBounds (j-1) (d4[j]!)).toList).map (ic .u16)) 32 1) (cond (D 15) (row (.slice a N c) (((d4.setIfInBounds j (d4[j-1]!)).toList).map (ic .u16)) 32 1) (row (.slice a N c) (d4.toList.map (ic .u16)) 32 1))]) [] (by kernel_rfl) Y ⟨?_,?_,?_,?_,?_,?_,?_,?_,?_,?_,?_,?_,?_,?_,?_,?_,?_,?_,trivial⟩ ?_)
     ·exact oi [] fun Y=>Qaf (.slice a N c) (Zz Y)
     ·exact oi [] fun Y=>Qaf (.int .i64 (j:Int)) (Zz Y)
     ·exact oi [] fun Y=>Qaf (.slice a N c) (Zz Y)
     ·exact oi [] fun Y=>Qaf (.int .i64 (j:Int)) (Zz Y)
     ·exact oi [3] fun Y=>Qbb (a:=(j:Int)) (b:=1) (c:=((j-1:Nat):Int)) rfl rfl (Qaj (by omega) (by omega)) (Zz Y)
     ·exact oi [] fun Y=>Qaf (.slice a N c) (Zz Y)
     ·exact oi [] fun Y=>Qaf (.int .i64 (j:Int)) (Zz Y)
     ·exact oi [6] fun Y=>Qbb (a:=(j:Int)) (b:=1) (c:=((j-1:Nat):Int)) rfl rfl (Qaj (by omega) (by omega)) (Zz Y)
     ·exact ob [5,7] [15,17] rfl rfl fun D J w Y=>Qax QaP Qar.1 (Y.rd 0 rfl) rfl rfl (by omega) (by simp only [QQ6,QQ9,QQ5,Go.Sort.size_swp];omega) (Zz Y)
     ·exact ob [8] [15,17] rfl rfl fun D J w Y=>QaV (j:=0) (V:=I7 (d4[j-1]!)) (j-1) Qar (Y.rd 0 rfl) (QbA (by omega)) rfl rfl (by omega) (Zz Y)
     ·exact oi [] fun Y=>Qaf (.slice a N c) (Zz Y)
     ·exact oi [] fun Y=>Qaf (.int .i64 (j:Int)) (Zz Y)
     ·exact ob [10,11] [15,17] rfl rfl fun D J w Y=>Qax QaP Qar.1 (Y.rd 0 rfl) rfl rfl (by omega) (by simp only [QQ6,QQ9,QQ5,Go.Sort.size_swp];omega) (Zz Y)
     ·exact ob [12] [15,17] rfl rfl fun D J w Y=>QaV (j:=0) (V:=I7 (d4[j]!)) j Qar (Y.rd 0 rfl) (QbA (by omega)) rfl rfl (by omega) (Zz Y)
     ·exact ob [0,1] [15,17] rfl rfl fun D J w Y=>Qax QaP Qar.1 (Y.rd 0 rfl) rfl rfl (by omega) (by simp only [QQ6,QQ9,QQ5,Go.Sort.size_swp];omega) (Zz Y)
     ·exact ob [9,14] [17] rfl rfl fun D J w Y=>Qcv (z:=d4[j-1]!) j Qar Y 0 rfl rfl (by omega) (by first|omega|(simp only [QQ5,Go.Sort.size_swp];omega)) rfl rfl rfl fun _ Y=>⟨trivial,Y⟩
     ·exact ob [2,4,15] [17] rfl rfl fun D J w Y=>Qax QaP Qar.1 (Y.rd 0 rfl) rfl rfl (by omega) (by simp only [QQ6,QQ9,QQ5,Go.Sort.size_swp];omega) (Zz Y)
     ·exact oi [13,15,16] fun Y=>Qcv (z:=d4[j]!) (j-1) Qar Y 0 rfl rfl (by omega) (by first|omega|(simp only [QQ5,Go.Sort.size_swp];omega)) rfl rfl rfl fun _ Y=>⟨trivial,Y⟩
     rintro J1 w20 J2 hJ Y
     replace hJ:J2=mix (sq 79 16) J1 _:=hJ
     replace Y:Own w S w20 [row (.slice a N c) ((((d4.setIfInBounds j (d4[j-1]!)).setIfInBounds (j-1) (d4[j]!)).toList).map (ic .u16)) 32 1]:=Y
     subst hJ
     refine Qab (Qaa (Qaf (I6 (j:Int)) (Qaa (Qbb (a:=(j:Int)) (b:=1) (c:=((j-1:Nat):Int)) rfl rfl (Qaj (by omega) (by omega)) (Qaa (Qam (I6 ((j-1:Nat):Int)) (Qad ?_)))))))
     refine ⟨_,?_,_,j-1,((d4.setIfInBounds j (d4[j-1]!)).setIfInBounds (j-1) (d4[j]!)),Qai (Qao (ds:=([9]++sq 64 31)) (by repeat (first|exact Agr.refl _ _|refine Agr.upd ?_ rfl|refine Agr.mix ?_ rfl))) rfl,(by omega),(by simp only [QQ5];exact hz4),(by rw [← hdn,QvM c14 c17];rfl),rfl,Y.take 1⟩
     omega
    replace c14:=QQ2 c14
    refine QaI ?_
    exact ⟨_,d4,Qao (ds:=([9]++sq 62 33)) (by repeat (first|exact Agr.refl _ _|refine Agr.upd ?_ rfl|refine Agr.mix ?_ rfl)),(by unfold dnI;rw [if_pos (by omega),← hdn,Qyh c14]),hz4,Y.take 1⟩
   replace c12:=QQ2 c12
   refine Qap ?_
   exact ⟨_,((d1.setIfInBounds i2 (d1[i2-1]!)).setIfInBounds (i2-1) (d1[i2]!)),Qao (ds:=([9]++sq 62 33)) (by repeat (first|exact Agr.refl _ _|refine Agr.upd ?_ rfl|refine Agr.mix ?_ rfl)),(by unfold dnI;rw [if_neg (by omega)];rfl),(by simp only [QQ5];exact hz1),Y.take 1⟩
  rintro J' w21 ⟨Jo,d3,rfl,hd3,hz3,Y⟩
  refine Qae (Qab (Qaa (Qaf (I6 (hi:Int)) (Qaa (Qaf (I6 (i2:Int)) (Qaa (Qbb (a:=(hi:Int)) (b:=(i2:Int)) (c:=((hi-i2:Nat):Int)) rfl rfl (Qaj (by omega) (by omega)) (Qaa (QcZ rfl rfl (Qad (Qgi (fun J J' w'=>∃ (Jo:Env) (d5:Array Int),J'=mix ([10]++sq 99 34) Jo J/\(d5=upI hi i2 d3)/\(d5.size=N)/\Own w S w' [row (.slice a N c) (d5.toList.map (ic .u16)) 32 1]) ?_ ?_)))))))))))
  ·
   refine Qak (t:=decide (2<=((hi-i2:Nat):Int))) rfl (fun c22=>?_) (fun c22=>?_)
   ·
    replace c22:=QQ1 c22
    refine Qae (Qab (Qaa (Qaf (I6 (i2:Int)) (Qaa (QaB (a:=(i2:Int)) (b:=1) (c:=((i2+1:Nat):Int)) rfl rfl (Qaj (by omega) (by omega)) (Qaa (Qam (I6 ((i2+1:Nat):Int)) (Qad (Qal (QaE (fun J μ J' w'=>∃ (Jo:Env) (p:Nat) (d6:Array Int),J'=upd (mix ([10]++sq 101 32) Jo J) 10 (I6 (p:Int))/\(i2<p/\p<=hi)/\(d6.size=N)/\(Sort.shiftUp ltInt hi p d6=Sort.shiftUp ltInt hi (i2+1) d3)/\μ=hi-p/\Own w S w' [row (.slice a N c) (d6.toList.map (ic .u16)) 32 1]) ?_ ?_))))))))))
    ·exact ⟨_,_,i2+1,d3,Qai (Qao (ds:=([10]++sq 101 32)) (Agr.refl _ _)) rfl,(by omega),hz3,rfl,rfl,Y⟩
    rintro μ J' w23 ⟨Jo,p,d6,rfl,hp,hz6,hup,rfl,Y⟩
    refine Qae (Qae (Qab (Qaa (Qaf (I6 (p:Int)) (Qaa (Qaf (I6 (hi:Int)) (Qaa (Qa0 rfl rfl (Qad (Qak (t:=decide ((p:Int)<(hi:Int))) rfl (fun c24=>?_) (fun c24=>?_)))))))))))
    ·
     replace c24:=QQ1 c24
     refine Qap (Qae (Qal (Qae (Qae (QaH HM (so 106 11) [] [0,0,3,7,0,0,32,112,240,511,1023] [pv (.slice a N c),pv (I6 (p:Int)),pv (.pointer (some ⟨bkS (.slice a N c),ofS (.slice a N c)+(p:Int).toNat*1,none⟩)),pv (I7 (d6[p]!)),pv (.slice a N c),pv (I6 (p:Int)),pv (I6 ((p-1:Nat):Int)),pv (.pointer (some ⟨bkS (.slice a N c),ofS (.slice a N c)+((p-1:Nat):Int).toNat*1,none⟩)),pv (I7 (d6[p-1]!)),pv (.bool (decide (d6[p]!<d6[p-1]!))),pv (.bool (!decide (d6[p]!<d6[p-1]!)))] (fun _ _=>_) [10] (by kernel_rfl) Y ⟨?_,?_,?_,?_,?_,?_,?_,?_,?_,?_,?_,trivial⟩ ?_)))))
     ·exact oi [] fun Y=>Qaf (.slice a N c) (Zz Y)
     ·exact oi [] fun Y=>Qaf (.int .i64 (p:Int)) (Zz Y)
     ·exact oi [0,1] fun Y=>Qax QaP Qar.1 (Y.rd 0 rfl) rfl rfl (by omega) (by simp only [QQ6,QQ9,QQ5,Go.Sort.size_swp];omega) (Zz Y)
     ·exact oi [2] fun Y=>QaV (j:=0) (V:=.int .u16 (d6[p]!)) p Qar (Y.rd 0 rfl) (QbA (by omega)) rfl rfl (by omega) (Zz Y)
     ·exact oi [] fun Y=>Qaf (.slice a N c) (Zz Y)
     ·exact oi [] fun Y=>Qaf (.int .i64 (p:Int)) (Zz Y)
     ·exact oi [5] fun Y=>Qbb (a:=(p:Int)) (b:=1) (c:=((p-1:Nat):Int)) rfl rfl (Qaj (by omega) (by omega)) (Zz Y)
     ·exact oi [4,6] fun Y=>Qax QaP Qar.1 (Y.rd 0 rfl) rfl rfl (by omega) (by simp only [QQ6,QQ9,QQ5,Go.Sort.size_swp];omega) (Zz Y)
     ·exact oi [7] fun Y=>QaV (j:=0) (V:=.int .u16 (d6[p-1]!)) (p-1) Qar (Y.rd 0 rfl) (QbA (by omega)) rfl rfl (by omega) (Zz Y)
     ·exact oi [3,8] fun Y=>Qas (vs:=[.int .u16 (d6[p]!),.int .u16 (d6[p-1]!)]) (V:=.bool (decide (d6[p]!<d6[p-1]!))) Qdr rfl rfl (QcF _ (d6[p]!) (d6[p-1]!)) Y fun _ Y=>Zz Y
     ·exact oi [9] fun Y=>QbB rfl (Zz Y)
     rintro J1 w26 J2 hJ Y
     replace hJ:J2=upd (mix (sq 106 11) J1 _) 116 (.bool (!decide (d6[p]!<d6[p-1]!))):=hJ
     subst hJ
     refine Qak (t:=!decide (d6[p]!<d6[p-1]!)) rfl (fun c27=>?_) (fun c27=>?_)
     ·
      replace c27:=QbE c27
      replace c27:=QQ2 c27
      refine QaI ?_
      exact ⟨_,d6,Qao (ds:=([10]++sq 99 34)) (by repeat (first|exact Agr.refl _ _|refine Agr.upd ?_ rfl|refine Agr.mix ?_ rfl)),(by unfold upI;rw [if_pos (by omega),← hup,Qxl c24 c27]),hz6,Y.take 1⟩
     replace c27:=Qbd c27
     replace c27:=QQ1 c27
     refine Qap (QaH HM (so 117 15++[none,some 132,none]) [] [0,0,0,0,8,0,0,64,224,480,0,0,3072,7168,16355,32739,65535,131071] [pv (.slice a N c),pv (I6 (p:Int)),pv (.slice a N c),pv (I6 (p:Int)),pv (I6 ((p-1:Nat):Int)),pv (.slice a N c),pv (I6 (p:Int)),pv (I6 ((p-1:Nat):Int)),pv (.pointer (some ⟨bkS (.slice a N c),ofS (.slice a N c)+((p-1:Nat):Int).toNat*1,none⟩)),pv (I7 (d6[p-1]!)),pv (.slice a N c),pv (I6 (p:Int)),pv (.pointer (some ⟨bkS (.slice a N c),ofS (.slice a N c)+(p:Int).toNat*1,none⟩)),pv (I7 (d6[p]!)),pv (.pointer (some ⟨bkS (.slice a N c),ofS (.slice a N c)+(p:Int).toNat*1,none⟩)),pn,pv (.pointer (some ⟨bkS (.slice a N c),ofS (.slice a N c)+((p-1:Nat):Int).toNat*1,none⟩)),pn] (fun D J=>[cond (D 17) (row (.slice a N c) ((((d6.setIfInBounds p (d6[p-1]!)).setIfInBounds (p-1) (d6[p]!)).toList).map (ic .u16)) 32 1) (cond (D 15) (row (.slice a N c) (((d6.setIfInBounds p (d6[p-1]!)).toList).map (ic .u16)) 32 1) (row (.slice a N c) (d6.toList.map (ic .u16)) 32 1))]) [] (by kernel_rfl) Y ⟨?_,?_,?_,?_,?_,?_,?_,?_,?_,?_,?_,?_,?_,?_,?_,?_,?_,?_,trivial⟩ ?_)
     ·exact oi [] fun Y=>Qaf (.slice a N c) (Zz Y)
     ·exact oi [] fun Y=>Qaf (.int .i64 (p:Int)) (Zz Y)
     ·exact oi [] fun Y=>Qaf (.slice a N c) (Zz Y)
     ·exact oi [] fun Y=>Qaf (.int .i64 (p:Int)) (Zz Y)
     ·exact oi [3] fun Y=>Qbb (a:=(p:Int)) (b:=1) (c:=((p-1:Nat):Int)) rfl rfl (Qaj (by omega) (by omega)) (Zz Y)
     ·exact oi [] fun Y=>Qaf (.slice a N c) (Zz Y)
     ·exact oi [] fun Y=>Qaf (.int .i64 (p:Int)) (Zz Y)
     ·exact oi [6] fun Y=>Qbb (a:=(p:Int)) (b:=1) (c:=((p-1:Nat):Int)) rfl rfl (Qaj (by omega) (by omega)) (Zz Y)
     ·exact ob [5,7] [15,17] rfl rfl fun D J w Y=>Qax QaP Qar.1 (Y.rd 0 rfl) rfl rfl (by omega) (by simp only [QQ6,QQ9,QQ5,Go.Sort.size_swp];omega) (Zz Y)
     ·exact ob [8] [15,17] rfl rfl fun D J w Y=>QaV (j:=0) (V:=I7 (d6[p-1]!)) (p-1) Qar (Y.rd 0 rfl) (QbA (by omega)) rfl rfl (by omega) (Zz Y)
     ·exact oi [] fun Y=>Qaf (.slice a N c) (Zz Y)
     ·exact oi [] fun Y=>Qaf (.int .i64 (p:Int)) (Zz Y)
     ·exact ob [10,11] [15,17] rfl rfl fun D J w Y=>Qax QaP Qar.1 (Y.rd 0 rfl) rfl rfl (by omega) (by simp only [QQ6,QQ9,QQ5,Go.Sort.size_swp];omega) (Zz Y)
     ·exact ob [12] [15,17] rfl rfl fun D J w Y=>QaV (j:=0) (V:=I7 (d6[p]!)) p Qar (Y.rd 0 rfl) (QbA (by omega)) rfl rfl (by omega) (Zz Y)
     ·exact ob [0,1] [15,17] rfl rfl fun D J w Y=>Qax QaP Qar.1 (Y.rd 0 rfl) rfl rfl (by omega) (by simp only [QQ6,QQ9,QQ5,Go.Sort.size_swp];omega) (Zz Y)
     ·exact ob [9,14] [17] rfl rfl fun D J w Y=>Qcv (z:=d6[p-1]!) p Qar Y 0 rfl rfl (by omega) (by first|omega|(simp only [QQ5,Go.Sort.size_swp];omega)) rfl rfl rfl fun _ Y=>⟨trivial,Y⟩
     ·exact ob [2,4,15] [17] rfl rfl fun D J w Y=>Qax QaP Qar.1 (Y.rd 0 rfl) rfl rfl (by omega) (by simp only [QQ6,QQ9,QQ5,Go.Sort.size_swp];omega) (Zz Y)
     ·exact oi [13,15,16] fun Y=>Qcv (z:=d6[p]!) (p-1) Qar Y 0 rfl rfl (by omega) (by first|omega|(simp only [QQ5,Go.Sort.size_swp];omega)) rfl rfl rfl fun _ Y=>⟨trivial,Y⟩
     rintro J1 w30 J2 hJ Y
     replace hJ:J2=mix (sq 117 16) J1 _:=hJ
     replace Y:Own w S w30 [row (.slice a N c) ((((d6.setIfInBounds p (d6[p-1]!)).setIfInBounds (p-1) (d6[p]!)).toList).map (ic .u16)) 32 1]:=Y
     subst hJ
     refine Qab (Qaa (Qaf (I6 (p:Int)) (Qaa (QaB (a:=(p:Int)) (b:=1) (c:=((p+1:Nat):Int)) rfl rfl (Qaj (by omega) (by omega)) (Qaa (Qam (I6 ((p+1:Nat):Int)) (Qad ?_)))))))
     refine ⟨_,?_,_,p+1,((d6.setIfInBounds p (d6[p-1]!)).setIfInBounds (p-1) (d6[p]!)),Qai (Qao (ds:=([10]++sq 101 32)) (by repeat (first|exact Agr.refl _ _|refine Agr.upd ?_ rfl|refine Agr.mix ?_ rfl))) rfl,(by omega),(by simp only [QQ5];exact hz6),(by rw [← hup,Qv7 c24 c27];rfl),rfl,Y.take 1⟩
     omega
    replace c24:=QQ2 c24
    refine QaI ?_
    exact ⟨_,d6,Qao (ds:=([10]++sq 99 34)) (by repeat (first|exact Agr.refl _ _|refine Agr.upd ?_ rfl|refine Agr.mix ?_ rfl)),(by unfold upI;rw [if_pos (by omega),← hup,Qye c24]),hz6,Y.take 1⟩
   replace c22:=QQ2 c22
   refine Qap ?_
   exact ⟨_,d3,Qao (ds:=([10]++sq 99 34)) (by repeat (first|exact Agr.refl _ _|refine Agr.upd ?_ rfl|refine Agr.mix ?_ rfl)),(by unfold upI;rw [if_neg (by omega)]),hz3,Y.take 1⟩
  rintro J' w31 ⟨Jo,d5,rfl,hd5,hz5,Y⟩
  refine Qab (Qaa (Qaf (I6 (q:Int)) (Qaa (QaB (a:=(q:Int)) (b:=1) (c:=((q+1:Nat):Int)) rfl rfl (Qaj (by omega) (by omega)) (Qaa (Qam (I6 ((q+1:Nat):Int)) (Qad ?_)))))))
  refine ⟨_,?_,_,q+1,i2,d5,Qai (Qai (Qao (ds:=([6,7,8,9,10]++sq 13 120)) (by repeat (first|exact Agr.refl _ _|refine Agr.upd ?_ rfl|refine Agr.mix ?_ rfl))) rfl) rfl,(by omega),(by omega),(by omega),hz5,(by rw [← hev,QjI (q:=q) (by omega) hi2e,if_neg (by omega),if_neg (by omega),hd5,hd3]),rfl,Y.take 1⟩
  omega
 replace c2:=QQ2 c2
 refine QaI (Qae (Qab (Qaa (Qam (.bool false) (Qad (Qav ?_))))))
 refine ⟨_,Qan (V:=.bool false) results177 rfl,?_⟩
 have hq5:q=5:=by omega
 subst hq5
 have hX:Sort.partialInsertionSort ltInt d lo hi=(d1,false):=hev.symm
 rw [hX]
 exact ⟨(),rfl,Y.take 1,hz1⟩
end Tt
end Go.Proofs
