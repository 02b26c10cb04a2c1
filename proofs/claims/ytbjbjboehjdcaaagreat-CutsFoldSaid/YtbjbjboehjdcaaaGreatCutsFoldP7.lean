/- A part of a proof: what functions of the program compute, and plain facts on that. -/
import Derived.Test.YtbjbjboehjdcaaaGreatCutsFoldP6
set_option linter.unusedVariables false
set_option linter.unusedSimpArgs false
set_option maxHeartbeats 4000000
set_option maxRecDepth 100000
namespace Go.Proofs
open Go Go.Vx Go.RowKit
open Tryz
namespace Tt
theorem QlX (w:World) (hsortE:Qhn prog 48 49 cec 106 7 Qlk) (hsortU:Qg2 prog 134 .u16 32):Calls prog 10 #[] w (fun e w'=>e = .returned (.bool true)/\Own w no w' []):=by
 refine Qah (n:=101) func10 rfl ntmps10 rfl ?_
 have Y:=Own.start w
 refine Qae (Qab (Qaa (Qam (.bool false) (Qad (Qae (Qab (Qaa (QbI (vs:=[(1,.int .u32 1)]) (cs:=dc (⟨0,1⟩:Dot)) QwO (rfl) rfl (Qaa (Qa8 (V:=.agg (oc (⟨(⟨0,1⟩:Dot),1,3,4,2,5,vzero⟩:Opn)).toArray) (V':=.agg (oc QrZ).toArray) (QcQ (vs:=[(0,.agg (dc (⟨0,1⟩:Dot)).toArray),(1,.int .u8 1),(2,I7 3),(3,I7 4),(4,I7 2),(5,.int .u32 5)]) (cs:=oc (⟨(⟨0,1⟩:Dot),1,3,4,2,5,vzero⟩:Opn)) [dc (⟨0,0⟩:Dot),[(.int .u8 0:Value)],[(I7 0:Value)],[(I7 0:Value)],[(I7 0:Value)],[(.int .u32 0:Value)],vc vzero] [dc (⟨0,1⟩:Dot),[(.int .u8 1:Value)],[(I7 3:Value)],[(I7 4:Value)],[(I7 2:Value)],[(.int .u32 5:Value)],vc vzero] QtQ rfl (rfl) rfl rfl ⟨rfl,rfl⟩) rfl (Qaa (Qho (vals:=[.agg (oc QrZ).toArray]) (ls:=List.map oc ([QrZ]:List Opn)) Qkd rfl rfl rfl (Qbn (enc:=oc) (fun _=>rfl) _) (QaW QcX _) (QQ8 rfl) Y fun b1 w2 Y=>(Qaa (Qa8 (V:=.agg (vc (vset vzero 0 1)).toArray) (V':=.agg (vc alK).toArray) (QbI (vs:=[(0,.int .u32 1)]) (cs:=vc (vset vzero 0 1)) Qjp (rfl) rfl ⟨rfl,rfl⟩) rfl (Qaa (QcQ (vs:=[(1,.slice (some ⟨b1,0,none⟩) 1 1),(2,.agg (vc alK).toArray)]) (cs:=((vc vzero)++[(.slice none 0 0:Value),(.slice none 0 0:Value) ])++[(.slice (some ⟨b1,0,none⟩) 1 1:Value) ]++(vc alK)) [(vc vzero)++[(.slice none 0 0:Value),(.slice none 0 0:Value) ],[(.slice none 0 0:Value)],vc vzero] [(vc vzero)++[(.slice none 0 0:Value),(.slice none 0 0:Value) ],[(.slice (some ⟨b1,0,none⟩) 1 1:Value)],vc alK] Qtp rfl (rfl) rfl rfl (Qaa (QaJ (cs:=((vc vzero)++[(.slice none 0 0:Value),(.slice none 0 0:Value) ])++[(.slice none 0 0:Value) ]++(vc vzero)) QqN rfl Y fun b3 w4 Y=>(Qaa (Qcz (V:=.agg (((vc vzero)++[(.slice none 0 0:Value),(.slice none 0 0:Value) ])++[(.slice (some ⟨b1,0,none⟩) 1 1:Value) ]++(vc alK)).toArray) (vs:=((vc vzero)++[(.slice none 0 0:Value),(.slice none 0 0:Value) ])++[(.slice (some ⟨b1,0,none⟩) 1 1:Value) ]++(vc alK)) (cs':=((vc vzero)++[(.slice none 0 0:Value),(.slice none 0 0:Value) ])++[(.slice (some ⟨b1,0,none⟩) 1 1:Value) ]++(vc alK)) QdB.1 Y 1 rfl rfl rfl rfl rfl (QQ8 rfl) (Qbq (Qbq (Qbq (Qb0 _) (Qat rfl (Qat rfl Qa2))) (Qat rfl Qa2)) (Qb0 _)) (Qaz rfl) fun w5 Y=>(Qad (Qae (Qab (Qaa (QaK (cs:=((vc vzero)++[(.slice none 0 0:Value),(.slice none 0 0:Value) ])++[(.slice (some ⟨b1,0,none⟩) 1 1:Value) ]++(vc alK)) QdB Y 1 rfl rfl rfl (Qaa (Qa8 (V:=.agg (vc (vset vzero 0 1)).toArray) (V':=.agg (vc alK).toArray) (QbI (vs:=[(0,.int .u32 1)]) (cs:=vc (vset vzero 0 1)) Qjp (rfl) rfl ⟨rfl,rfl⟩) rfl (Qaa (Qbr (α:=Option Addr × Nat) (vs:=[.agg (((vc vzero)++[(.slice none 0 0:Value),(.slice none 0 0:Value) ])++[(.slice (some ⟨b1,0,none⟩) 1 1:Value) ]++(vc alK)).toArray,.agg (vc alK).toArray,I7 3]) (V:=fun x=>.tuple #[.agg #[I7 ((QaA alP alK 3).cart),.slice x.1 (((QaA alP alK 3).lines).length) x.2,.bool ((QaA alP alK 3).out),.int .u32 ((QaA alP alK 3).tick)],I6 (Qbu alP alK)]) (Lo:=fun x=>[row (.slice x.1 ((QaA alP alK 3).lines).length x.2) (((QaA alP alK 3).lines).map lc) 127 2]) (F:=fun _ _=>True) Qtf rfl rfl ?hc Y fun x7 w6 Y _=>?_)))))))))))))))))))))))))))))
 case hc=>exact (Qil _ alP none 0 none 0 (some ⟨b1,0,none⟩) 1 alK QiS 3 hsortE hsortU QhA (by decide) (by decide) (by decide) (Rd.nil _ 7) (Rd.nil _ 2) (Y.rd 0 rfl))
 replace Y:=Ow [row (.slice (some ⟨b1,0,none⟩) 1 1) ([QrZ].map oc) 98 23,blk b3 (((vc vzero)++[(.slice none 0 0:Value),(.slice none 0 0:Value) ])++[(.slice (some ⟨b1,0,none⟩) 1 1:Value) ]++(vc alK)) 43,row (.slice x7.1 (((QaA alP alK 3).lines).length) x7.2) (((QaA alP alK 3).lines).map lc) 127 2] Y
 refine Qaa (Qaf (.tuple #[.agg #[I7 ((QaA alP alK 3).cart),.slice x7.1 (((QaA alP alK 3).lines).length) x7.2,.bool ((QaA alP alK 3).out),.int .u32 ((QaA alP alK 3).tick)],I6 (Qbu alP alK)]) (Qaa (QaC (V:=.agg #[I7 ((QaA alP alK 3).cart),.slice x7.1 (((QaA alP alK 3).lines).length) x7.2,.bool ((QaA alP alK 3).out),.int .u32 ((QaA alP alK 3).tick)]) rfl rfl (Qaa (QaC (V:=I6 (Qbu alP alK)) rfl rfl (Qaa (QaJ (cs:=[I7 0,.slice none 0 0,.bool false,.int .u32 0]) Qhe rfl Y fun b8 w9 Y=>(Qaa (Qcz (V:=.agg #[I7 ((QaA alP alK 3).cart),.slice x7.1 (((QaA alP alK 3).lines).length) x7.2,.bool ((QaA alP alK 3).out),.int .u32 ((QaA alP alK 3).tick)]) (vs:=[I7 ((QaA alP alK 3).cart),.slice x7.1 (((QaA alP alK 3).lines).length) x7.2,.bool ((QaA alP alK 3).out),.int .u32 ((QaA alP alK 3).tick)]) (cs':=[I7 ((QaA alP alK 3).cart),.slice x7.1 (((QaA alP alK 3).lines).length) x7.2,.bool ((QaA alP alK 3).out),.int .u32 ((QaA alP alK 3).tick)]) Qdc.1 Y 3 rfl rfl rfl rfl rfl (QQ8 rfl) (Qat rfl (Qat rfl (Qat rfl (Qat rfl Qa2)))) (Qaz rfl) fun w10 Y=>(Qaa (Qam (I6 (Qbu alP alK)) (Qad (Qae (Qab (Qaa (QaK (cs:=((vc vzero)++[(.slice none 0 0:Value),(.slice none 0 0:Value) ])++[(.slice (some ⟨b1,0,none⟩) 1 1:Value) ]++(vc alK)) QdB Y 1 rfl rfl rfl (Qaa (QbI (vs:=[]) (cs:=vc vzero) Qjp (rfl) rfl (Qaa (Qa8 (V:=.agg (vc (vset vzero 0 1)).toArray) (V':=.agg (vc alK).toArray) (QbI (vs:=[(0,.int .u32 1)]) (cs:=vc (vset vzero 0 1)) Qjp (rfl) rfl ⟨rfl,rfl⟩) rfl (Qaa (Qbr (vs:=[.agg (((vc vzero)++[(.slice none 0 0:Value),(.slice none 0 0:Value) ])++[(.slice (some ⟨b1,0,none⟩) 1 1:Value) ]++(vc alK)).toArray,.agg (vc vzero).toArray,.agg (vc alK).toArray]) (V:=fun x:Option Addr × Nat=>.tuple #[.slice x.1 (Qde alP vzero alK).length x.2,I6 (Qdz alP vzero alK)]) QwW rfl rfl (QpE _ alP none 0 none 0 (some ⟨b1,0,none⟩) 1 vzero alK Qch QiS hsortE hsortU QhA (by decide) (by decide) (by decide) (Rd.nil _ 7) (Rd.nil _ 2) (Y.rd 0 rfl)) Y fun x12 w11 Y _=>(Qaa (Qaf (.tuple #[.slice x12.1 ((Qde alP vzero alK).length) x12.2,I6 (Qdz alP vzero alK)]) (Qaa (QaC (V:=.slice x12.1 ((Qde alP vzero alK).length) x12.2) rfl rfl (Qaa (QaC (V:=I6 (Qdz alP vzero alK)) rfl rfl (Qaa (Qam (.slice x12.1 ((Qde alP vzero alK).length) x12.2) (Qaa (Qam (I6 (Qdz alP vzero alK)) (Qad (Qae (Qab (Qaa (QaK (cs:=((vc vzero)++[(.slice none 0 0:Value),(.slice none 0 0:Value) ])++[(.slice (some ⟨b1,0,none⟩) 1 1:Value) ]++(vc alK)) QdB Y 1 rfl rfl rfl (Qaa (Qa8 (V:=.agg (vc (vset vzero 0 1)).toArray) (V':=.agg (vc alK).toArray) (QbI (vs:=[(0,.int .u32 1)]) (cs:=vc (vset vzero 0 1)) Qjp (rfl) rfl ⟨rfl,rfl⟩) rfl (Qaa (Qbr (vs:=[.agg (((vc vzero)++[(.slice none 0 0:Value),(.slice none 0 0:Value) ])++[(.slice (some ⟨b1,0,none⟩) 1 1:Value) ]++(vc alK)).toArray,.agg (vc alK).toArray,.int .u32 9,.int .u32 4]) (V:=fun x:Option Addr × Nat=>.tuple #[.slice x.1 (abR alP alK 9 4).length x.2,I6 (abI alP alK 9 4)]) QxE rfl rfl (Qwu _ alP none 0 none 0 (some ⟨b1,0,none⟩) 1 alK QiS 9 4 ⟨⟨by decide,by decide⟩,by decide⟩ hsortE hsortU QhA (by decide) (by decide) (by decide) (Rd.nil _ 7) (Rd.nil _ 2) (Y.rd 0 rfl)) Y fun x14 w13 Y _=>?_)))))))))))))))))))))))))))))))))))))))))
 replace Y:=Ow [row (.slice (some ⟨b1,0,none⟩) 1 1) ([QrZ].map oc) 98 23,blk b3 (((vc vzero)++[(.slice none 0 0:Value),(.slice none 0 0:Value) ])++[(.slice (some ⟨b1,0,none⟩) 1 1:Value) ]++(vc alK)) 43,row (.slice x7.1 (((QaA alP alK 3).lines).length) x7.2) (((QaA alP alK 3).lines).map lc) 127 2,blk b8 [I7 ((QaA alP alK 3).cart),.slice x7.1 (((QaA alP alK 3).lines).length) x7.2,.bool ((QaA alP alK 3).out),.int .u32 ((QaA alP alK 3).tick)] 49,row (.slice x12.1 ((Qde alP vzero alK).length) x12.2) ((Qde alP vzero alK).map dfc) 83 5,row (.slice x14.1 ((abR alP alK 9 4).length) x14.2) ((abR alP alK 9 4).map (ic .u16)) 32 1] Y
 refine Qaa (Qaf (.tuple #[.slice x14.1 ((abR alP alK 9 4).length) x14.2,I6 (abI alP alK 9 4)]) (Qaa (QaC (V:=.slice x14.1 ((abR alP alK 9 4).length) x14.2) rfl rfl (Qaa (QaC (V:=I6 (abI alP alK 9 4)) rfl rfl (Qaa (Qam (.slice x14.1 ((abR alP alK 9 4).length) x14.2) (Qaa (Qam (I6 (abI alP alK 9 4)) (Qad (Qae (Qab (Qaa (QaK (cs:=((vc vzero)++[(.slice none 0 0:Value),(.slice none 0 0:Value) ])++[(.slice (some ⟨b1,0,none⟩) 1 1:Value) ]++(vc alK)) QdB Y 1 rfl rfl rfl (Qaa (Qa8 (V:=.agg (vc (vset vzero 0 2)).toArray) (V':=.agg (vc QdM).toArray) (QbI (vs:=[(0,.int .u32 2)]) (cs:=vc (vset vzero 0 2)) Qjp (rfl) rfl ⟨rfl,rfl⟩) rfl (Qaa (Qbr (α:=Option Addr × Nat) (vs:=[.agg (((vc vzero)++[(.slice none 0 0:Value),(.slice none 0 0:Value) ])++[(.slice (some ⟨b1,0,none⟩) 1 1:Value) ]++(vc alK)).toArray,.agg (vc QdM).toArray,I7 3]) (V:=fun x=>.tuple #[.agg #[I7 ((QaA alP QdM 3).cart),.slice x.1 (((QaA alP QdM 3).lines).length) x.2,.bool ((QaA alP QdM 3).out),.int .u32 ((QaA alP QdM 3).tick)],I6 (Qbu alP QdM)]) (Lo:=fun x=>[row (.slice x.1 ((QaA alP QdM 3).lines).length x.2) (((QaA alP QdM 3).lines).map lc) 127 2]) (F:=fun _ _=>True) Qtf rfl rfl ?hc Y fun x16 w15 Y _=>?_))))))))))))))))))
 case hc=>exact (Qil _ alP none 0 none 0 (some ⟨b1,0,none⟩) 1 QdM Qtv 3 hsortE hsortU QhA (by decide) (by decide) (by decide) (Rd.nil _ 7) (Rd.nil _ 2) (Y.rd 0 rfl))
 refine Qaa (Qaf (.tuple #[.agg #[I7 ((QaA alP QdM 3).cart),.slice x16.1 (((QaA alP QdM 3).lines).length) x16.2,.bool ((QaA alP QdM 3).out),.int .u32 ((QaA alP QdM 3).tick)],I6 (Qbu alP QdM)]) (Qaa (QaC (V:=.agg #[I7 ((QaA alP QdM 3).cart),.slice x16.1 (((QaA alP QdM 3).lines).length) x16.2,.bool ((QaA alP QdM 3).out),.int .u32 ((QaA alP QdM 3).tick)]) rfl rfl (Qaa (QaC (V:=I6 (Qbu alP QdM)) rfl rfl (Qaa (QaJ (cs:=[I7 0,.slice none 0 0,.bool false,.int .u32 0]) Qhe rfl Y fun b17 w18 Y=>(Qaa (Qcz (V:=.agg #[I7 ((QaA alP QdM 3).cart),.slice x16.1 (((QaA alP QdM 3).lines).length) x16.2,.bool ((QaA alP QdM 3).out),.int .u32 ((QaA alP QdM 3).tick)]) (vs:=[I7 ((QaA alP QdM 3).cart),.slice x16.1 (((QaA alP QdM 3).lines).length) x16.2,.bool ((QaA alP QdM 3).out),.int .u32 ((QaA alP QdM 3).tick)]) (cs':=[I7 ((QaA alP QdM 3).cart),.slice x16.1 (((QaA alP QdM 3).lines).length) x16.2,.bool ((QaA alP QdM 3).out),.int .u32 ((QaA alP QdM 3).tick)]) Qdc.1 Y 7 rfl rfl rfl rfl rfl (QQ8 rfl) (Qat rfl (Qat rfl (Qat rfl (Qat rfl Qa2)))) (Qaz rfl) fun w19 Y=>(Qaa (Qam (I6 (Qbu alP QdM)) (Qad (Qae (Qab (Qaa (QaK (cs:=((vc vzero)++[(.slice none 0 0:Value),(.slice none 0 0:Value) ])++[(.slice (some ⟨b1,0,none⟩) 1 1:Value) ]++(vc alK)) QdB Y 1 rfl rfl rfl (Qaa (Qa8 (V:=.agg (vc (vset vzero 0 1)).toArray) (V':=.agg (vc alK).toArray) (QbI (vs:=[(0,.int .u32 1)]) (cs:=vc (vset vzero 0 1)) Qjp (rfl) rfl ⟨rfl,rfl⟩) rfl (Qaa (Qbr (α:=(Option Addr × Nat) × (Option Addr × Nat)) (vs:=[.agg (((vc vzero)++[(.slice none 0 0:Value),(.slice none 0 0:Value) ])++[(.slice (some ⟨b1,0,none⟩) 1 1:Value) ]++(vc alK)).toArray,.agg (vc alK).toArray]) (V:=fun x:(Option Addr × Nat) × (Option Addr × Nat)=>.tuple #[.agg (vc (Qag alP alK).known++[(.slice x.1.1 ((Qag alP alK).ents).length x.1.2:Value),(.slice x.2.1 ((Qag alP alK).ticks).length x.2.2:Value)]).toArray,I6 (Qbu alP alK)]) (Lo:=fun x=>[row (.slice x.1.1 ((Qag alP alK).ents).length x.1.2) (((Qag alP alK).ents).map cec) 106 7,row (.slice x.2.1 ((Qag alP alK).ticks).length x.2.2) (((Qag alP alK).ticks).map lsc) 102 2]) (F:=fun _ _=>True) Qnr rfl rfl ?hc Y fun x21 w20 Y _=>?_))))))))))))))))))))
 case hc=>exact (Qek _ alP none 0 none 0 (some ⟨b1,0,none⟩) 1 alK QiS hsortE hsortU QhA (by decide) (by decide) (by decide) (Rd.nil _ 7) (Rd.nil _ 2) (Y.rd 0 rfl))
 replace Y:=Ow [row (.slice (some ⟨b1,0,none⟩) 1 1) ([QrZ].map oc) 98 23,blk b3 (((vc vzero)++[(.slice none 0 0:Value),(.slice none 0 0:Value) ])++[(.slice (some ⟨b1,0,none⟩) 1 1:Value) ]++(vc alK)) 43,row (.slice x7.1 (((QaA alP alK 3).lines).length) x7.2) (((QaA alP alK 3).lines).map lc) 127 2,blk b8 [I7 ((QaA alP alK 3).cart),.slice x7.1 (((QaA alP alK 3).lines).length) x7.2,.bool ((QaA alP alK 3).out),.int .u32 ((QaA alP alK 3).tick)] 49,row (.slice x12.1 ((Qde alP vzero alK).length) x12.2) ((Qde alP vzero alK).map dfc) 83 5,row (.slice x14.1 ((abR alP alK 9 4).length) x14.2) ((abR alP alK 9 4).map (ic .u16)) 32 1,row (.slice x16.1 (((QaA alP QdM 3).lines).length) x16.2) (((QaA alP QdM 3).lines).map lc) 127 2,blk b17 [I7 ((QaA alP QdM 3).cart),.slice x16.1 (((QaA alP QdM 3).lines).length) x16.2,.bool ((QaA alP QdM 3).out),.int .u32 ((QaA alP QdM 3).tick)] 49,row (.slice x21.1.1 (((Qag alP alK).ents).length) x21.1.2) (((Qag alP alK).ents).map cec) 106 7,row (.slice x21.2.1 (((Qag alP alK).ticks).length) x21.2.2) (((Qag alP alK).ticks).map lsc) 102 2] Y
 refine Qaa (Qaf (.tuple #[.agg ((vc ((Qag alP alK).known))++[(.slice x21.1.1 (((Qag alP alK).ents).length) x21.1.2:Value),(.slice x21.2.1 (((Qag alP alK).ticks).length) x21.2.2:Value) ]).toArray,I6 (Qbu alP alK)]) (Qaa (QaC (V:=.agg ((vc ((Qag alP alK).known))++[(.slice x21.1.1 (((Qag alP alK).ents).length) x21.1.2:Value),(.slice x21.2.1 (((Qag alP alK).ticks).length) x21.2.2:Value) ]).toArray) rfl rfl (Qaa (QaC (V:=I6 (Qbu alP alK)) rfl rfl (Qaa (QaJ (cs:=(vc vzero)++[(.slice none 0 0:Value),(.slice none 0 0:Value) ]) Qgg rfl Y fun b22 w23 Y=>(Qaa (Qcz (V:=.agg ((vc ((Qag alP alK).known))++[(.slice x21.1.1 (((Qag alP alK).ents).length) x21.1.2:Value),(.slice x21.2.1 (((Qag alP alK).ticks).length) x21.2.2:Value) ]).toArray) (vs:=(vc ((Qag alP alK).known))++[(.slice x21.1.1 (((Qag alP alK).ents).length) x21.1.2:Value),(.slice x21.2.1 (((Qag alP alK).ticks).length) x21.2.2:Value) ]) (cs':=(vc ((Qag alP alK).known))++[(.slice x21.1.1 (((Qag alP alK).ents).length) x21.1.2:Value),(.slice x21.2.1 (((Qag alP alK).ticks).length) x21.2.2:Value) ]) Qb4.1 Y 10 rfl rfl rfl rfl rfl (QQ8 rfl) (Qbq (Qb0 _) (Qat rfl (Qat rfl Qa2))) (Qaz rfl) fun w24 Y=>(Qaa (Qam (I6 (Qbu alP alK)) (Qad (Qae ?_)))))))))))))
 have hdl:(Qde alP vzero alK).length=1:=by rw [Qs9];rfl
 refine Qab (Qaa (Qaf (I6 (Qbu alP alK)) (Qaa (Qa8 (V:=.bool (decide (Qbu alP alK=0))) (V':=.bool true) (QaT rfl rfl ⟨rfl,rfl⟩) (congrArg Value.bool (QQ3 QfZ)) (Qaa (Qaf (.bool true) (QcH rfl (Qac QcR rfl (QcH rfl (QaN (.slice x7.1 (((QaA alP alK 3).lines).length) x7.2) Qfl Y 3 (QcH rfl (Qa5 (n:=((QaA alP alK 3).lines).length) Qds (Y.rd 2 rfl) (by simp) rfl (QcH rfl (Qa8 (V:=.bool (decide (((((QaA alP alK 3).lines).length:Nat):Int)=1))) (V':=.bool true) (QaT rfl rfl ⟨rfl,rfl⟩) (congrArg Value.bool (by rw [QtK];rfl)) (Qaa (QcY (V:=.bool true) rfl rfl (Qaa (Qaf (.bool true) (QcH rfl (Qaf (I6 (Qdz alP vzero alK)) (QcH rfl (Qa8 (V:=.bool (decide (Qdz alP vzero alK=0))) (V':=.bool true) (QaT rfl rfl ⟨rfl,rfl⟩) (congrArg Value.bool (QQ3 Qud)) (Qaa (QcY (V:=.bool true) rfl rfl (Qaa (Qaf (.bool true) (QcH rfl (Qaf (.slice x12.1 ((Qde alP vzero alK).length) x12.2) (QcH rfl (Qa5 (n:=(Qde alP vzero alK).length) QvP (Y.rd 4 rfl) (by simp) rfl (QcH rfl (Qa8 (V:=.bool (decide ((((Qde alP vzero alK).length:Nat):Int)=1))) (V':=.bool true) (QaT rfl rfl ⟨rfl,rfl⟩) (congrArg Value.bool (by rw [Qs9];rfl)) (Qaa (QcY (V:=.bool true) rfl rfl (Qaa (Qaf (.bool true) (QcH rfl (Qaf (.slice x12.1 ((Qde alP vzero alK).length) x12.2) (QcH rfl (Qax QvP QjO.1 (Y.rd 4 rfl) rfl rfl (by decide) (by rw [QQ6];omega) (QcH rfl (Qa9 (j:=0) (vs:=dfc (gd (Qde alP vzero alK) 0)) 0 QjO (Y.rd 4 rfl) (Qa4 (by omega)) rfl rfl rfl (by omega) (QcH rfl (QbI (vs:=[(0,I7 3),(1,I7 4),(4,.int .u32 2)]) (cs:=dfc (⟨3,4,false,0,2⟩:Dif)) QtV (rfl) rfl (QcH rfl (Qa8 (V:=.bool (decide (gd (Qde alP vzero alK) 0=(⟨3,4,false,0,2⟩:Dif)))) (V':=.bool true) (Qs4 (xs:=dfc (gd (Qde alP vzero alK) 0)) (ys:=dfc (⟨3,4,false,0,2⟩:Dif)) eqGuardType83 (Qxv (gd (Qde alP vzero alK) 0) (⟨3,4,false,0,2⟩:Dif)) rfl rfl rfl ⟨rfl,rfl⟩) (congrArg Value.bool (by rw [Qs9];rfl)) (Qaa (QcY (V:=.bool true) rfl rfl (Qaa (Qaf (.bool true) (QcH rfl (Qaf (I6 (abI alP alK 9 4)) (QcH rfl (Qa8 (V:=.bool (decide (abI alP alK 9 4=0))) (V':=.bool true) (QaT rfl rfl ⟨rfl,rfl⟩) (congrArg Value.bool (QQ3 Qup)) (Qaa (QcY (V:=.bool true) rfl rfl (Qaa (Qaf (.bool true) (QcH rfl (Qaf (.slice x14.1 ((abR alP alK 9 4).length) x14.2) (QcH rfl (Qa5 (n:=(abR alP alK 9 4).length) QaP (Y.rd 5 rfl) (by simp) rfl (QcH rfl (Qa8 (V:=.bool (decide ((((abR alP alK 9 4).length:Nat):Int)=1))) (V':=.bool true) (QaT rfl rfl ⟨rfl,rfl⟩) (congrArg Value.bool (by rw [Qw1];rfl)) (Qaa (QcY (V:=.bool true) rfl rfl (Qaa (Qaf (.bool true) (QcH rfl (Qaf (I6 (Qbu alP QdM)) (QcH rfl (Qa8 (V:=.bool (decide (Qbu alP QdM=11))) (V':=.bool true) (QaT rfl rfl ⟨rfl,rfl⟩) (congrArg Value.bool (QQ3 Qty)) (Qaa (QcY (V:=.bool true) rfl rfl (Qaa (Qaf (.bool true) (QcH rfl (Qaf (I6 (Qbu alP alK)) (QcH rfl (Qa8 (V:=.bool (decide (Qbu alP alK=0))) (V':=.bool true) (QaT rfl rfl ⟨rfl,rfl⟩) (congrArg Value.bool (QQ3 QfZ)) ?_))))))))))))))))))))))))))))))))))))))))))))))))))))))))))))))))))))))))))))))))
 refine Qaa (QcY (V:=.bool true) rfl rfl (Qaa (Qaf (.bool true) (QcH rfl (Qac Qdx rfl (QcH rfl (QaN (.slice x21.1.1 (((Qag alP alK).ents).length) x21.1.2) QgK Y 10 (QcH rfl (Qa5 (n:=((Qag alP alK).ents).length) QbK (Y.rd 8 rfl) (by simp) rfl (QcH rfl (Qa8 (V:=.bool (decide (((((Qag alP alK).ents).length:Nat):Int)=1))) (V':=.bool true) (QaT rfl rfl ⟨rfl,rfl⟩) (congrArg Value.bool (by rw [Qt1];rfl)) (Qaa (QcY (V:=.bool true) rfl rfl (Qaa (Qaf (.bool true) (QcH rfl (QaK (cs:=((vc vzero)++[(.slice none 0 0:Value),(.slice none 0 0:Value) ])++[(.slice (some ⟨b1,0,none⟩) 1 1:Value) ]++(vc alK)) QdB Y 1 rfl rfl rfl (QcH rfl (Qa8 (V:=.agg (vc (vset (vset vzero 0 0) 1 1)).toArray) (V':=.agg (vc QsA).toArray) (QbI (vs:=[(0,.int .u32 0),(1,.int .u32 1)]) (cs:=vc (vset (vset vzero 0 0) 1 1)) Qjp (rfl) rfl ⟨rfl,rfl⟩) rfl (QcH rfl (Qas (vs:=[.agg (((vc vzero)++[(.slice none 0 0:Value),(.slice none 0 0:Value) ])++[(.slice (some ⟨b1,0,none⟩) 1 1:Value) ]++(vc alK)).toArray,.agg (vc QsA).toArray]) (V:=I6 (Qbu alP QsA)) QvQ rfl rfl ?hc Y fun w25 Y=>?_)))))))))))))))))))))
 case hc=>exact (Qox _ alP none 0 none 0 (some ⟨b1,0,none⟩) 1 QsA QtD QhA (by decide) (by decide) (by decide) (Rd.nil _ 7) (Rd.nil _ 2) (Y.rd 0 rfl))
 refine QcH rfl (Qa8 (V:=.bool (decide (Qbu alP QsA=11))) (V':=.bool true) (QaT rfl rfl ⟨rfl,rfl⟩) (congrArg Value.bool (QQ3 Qsh)) (Qaa (QcY (V:=.bool true) rfl rfl (Qaa (Qam (.bool true) (Qad (Qav ?_)))))))
 refine ⟨_,Qan (V:=.bool true) results10 rfl,(Zr Y ?_)⟩
 rfl
end Tt
end Go.Proofs
namespace Go.Proofs
open Go Go.Vx Go.RowKit
open Tryz
namespace Tt
theorem Qmv (w:World) (S:Nat->Prop) (a:Option Addr) (c:Nat) (l:List Lst) (i:Nat) (hi:i<=l.length) (x:Lst) (b:Option Addr) (c2:Nat) (hv:Rd w (.slice b 1 c2) 2 (List.map lsc [x])) (hpl:Qev w (.slice b 1 c2)) (hnS:¬S (bkS (.slice b 1 c2))) (hvb:bkS (.slice b 1 c2)<w.heap.size) (hN:(l.length+1)*9<=140737488355328) (hR:(row (.slice a l.length c) (l.map lsc) 102 2).holds w S) (hlt:∀ b,S b->b<w.heap.size):Calls prog 156 #[.slice a l.length c,.int .i64 (i:Int),.slice b 1 c2] w (fun e w'=>∃ x':Option Addr × Nat,e = .returned (.slice x'.1 (QdN l i x).length x'.2)/\Own w S w' [row (.slice x'.1 (QdN l i x).length x'.2) ((QdN l i x).map lsc) 102 2]/\True):=by
 refine Qah (n:=95) func156 rfl ntmps156 rfl ?_
 have Y:=Own.lent hR hlt
 have hn:=(Y.rd 0 rfl).sml
 have hlc:=(Y.rd 0 rfl).roomM
 have hvo:∀ (w1:World) (L1:List Res),Own w S w1 L1->Rd w1 (.slice b 1 c2) 2 (List.map lsc [x]):=fun w1 L1 h=>hv.own h hnS
 refine Qae (Qab (Qaa (Qam (.slice none 0 0) (Qad (Qae (Qab (Qaa (Qaf (.slice a l.length c) (Qaa (Qaf (I6 (i:Int)) (Qaa (QlO (l:=i) (h:=l.length) (m:=c) (n':=(l.drop i).length) Qea QbS.1 (Y.rd 0 rfl) rfl (.inr ⟨_,_,rfl,rfl⟩) (.inl ⟨rfl,rfl⟩) (.inl ⟨rfl,rfl⟩) (by omega) (by omega) (Nat.le_trans (show l.length<=l.length by omega) (Rd.roomM (Y.rd 0 rfl))) (Nat.le_refl _) (by simp only [List.length_take,List.length_drop]<;>omega) ?_))))))))))))
 refine Qad (Qae (Qab (Qaa (Qaf (.slice b 1 c2) (Qaa (Qa8 (V:=I6 (1:Int)) (V':=I6 1) (Qa5 (n:=1) QeS (hvo _ _ Y) (by simp) rfl ⟨rfl,rfl⟩) rfl (Qaa (Qam (I6 1) (Qad (Qae (Qae (Qab (Qaa (Qaf (I6 1) (Qaa (Qa8 (V:=.bool (decide ((1:Int)=0))) (V':=.bool false) (QaT rfl rfl ⟨rfl,rfl⟩) (congrArg Value.bool (by decide)) (Qad (Qce rfl ?_))))))))))))))))))
 refine Qap (Qae (Qab (Qaa (Qaf (.slice a l.length c) (Qaa (Qa5 (n:=l.length) QeS (Y.rd 0 rfl) (by simp) rfl (Qaa (Qam (I6 ((l.length:Nat):Int)) (Qad (Qae (Qae (Qab (Qaa (Qaf (I6 (i:Int)) (Qaa (Qaf (I6 ((l.length:Nat):Int)) (Qaa (QaT rfl rfl (Qad (Qak (t:=decide ((i:Int)=((l.length:Nat):Int))) rfl (fun c1=>?_) (fun c1=>?_)))))))))))))))))))))
 ·
  replace c1:=QQ1 c1
  refine Qae (Qab (Qaa (Qaf (.slice a l.length c) (Qaa (Qaf (.slice b 1 c2) (Qaa (Qdj (ls':=(l++[x]).map lsc) (n:=(l++[x]).length) Qgx Y 0 rfl rfl rfl (hvo _ _ Y) (QaW Qcp _) (by simp only [QQ6,QQ7,List.length_cons,List.length_nil];omega) (by simp) (by simp) fun a2 c2 w3 Y=>(Qaa (Qam (.slice a2 ((l++[x]).length) c2) (Qad (Qav ?_)))))))))))
  refine ⟨_,Qan (V:=.slice a2 ((l++[x]).length) c2) results156 rfl,?_⟩
  have hX:l++[x]=QdN l i x:=Qlf (by omega)
  rw [hX] at Y
  exact ⟨(a2,c2),by rw [← hX],Y.only 0 rfl,trivial⟩
 replace c1:=QQ2 c1
 refine Qap (Qae (Qae (Qab (Qaa (Qaf (I6 ((l.length:Nat):Int)) (Qaa (Qaf (I6 1) (Qaa (QaB (a:=((l.length:Nat):Int)) (b:=1) (c:=((l.length+1:Nat):Int)) rfl rfl (Qaj (by omega) (by omega)) (Qaa (Qaf (.slice a l.length c) (Qaa (Qr3 QeS rfl (Qaa (Qca rfl rfl (Qad (Qak (t:=decide ((c:Int)<((l.length+1:Nat):Int))) rfl (fun c4=>?_) (fun c4=>?_))))))))))))))))))
 ·
  replace c4:=QQ1 c4
  refine Qae (Qab (Qaa (Qaf (.slice a l.length c) (Qaa (Qaf (I6 (i:Int)) (Qaa (Qed (l:=0) (h:=i) (n':=i) Qea QbS.1 (by omega) rfl (.inl ⟨rfl,rfl⟩) (.inr ⟨_,_,rfl,rfl⟩) (by omega) (by omega) (by omega) (Qaa (Qaf (I6 ((l.length:Nat):Int)) (Qaa (Qaf (I6 1) (Qaa (QaB (a:=((l.length:Nat):Int)) (b:=1) (c:=((l.length+1:Nat):Int)) rfl rfl (Qaj (by omega) (by omega)) (Qaa (Qaf (I6 (i:Int)) (Qaa (Qbb (a:=((l.length+1:Nat):Int)) (b:=(i:Int)) (c:=(((l.length+1)-i:Nat):Int)) rfl rfl (Qaj (by omega) (by omega)) (Qaa (QrB (zl:=lsc (⟨0,0⟩:Lst)) (ls':=(l.take i++List.replicate ((l.length+1)-i) (⟨0,0⟩:Lst)).map lsc) Qgx QuI (.inl Qlm) Y (Y.rd 0 rfl) rfl rfl (by rw [QQ6];omega) (by rw [QQ6];omega) (by omega) (by omega) (QaW Qcp _) (Qcp _) rfl (by omega) (by simp only [List.map_append,List.map_take,List.map_replicate]) (l.take i++List.replicate ((l.length+1)-i) (⟨0,0⟩:Lst)).length (by rw [QQ6]) fun a5 c5 w6 Y=>(Qaa (Qam (.slice a5 ((l.take i++List.replicate ((l.length+1)-i) (⟨0,0⟩:Lst)).length) c5) (Qad (Qae ?_)))))))))))))))))))))))
  have hq9:(l.take i++List.replicate ((l.length+1)-i) (⟨0,0⟩:Lst)).length=l.length+1:=by simp only [QQ7,List.length_take,List.length_replicate];omega
  have hr9:=(Y.rd 1 rfl).roomM
  refine Qab (Qaa (Qaf (.slice a5 ((l.take i++List.replicate ((l.length+1)-i) (⟨0,0⟩:Lst)).length) c5) (Qaa (Qaf (I6 (i:Int)) (Qaa (Qed (l:=i) (h:=(l.take i++List.replicate ((l.length+1)-i) (⟨0,0⟩:Lst)).length) (n':=((l.take i++List.replicate ((l.length+1)-i) (⟨0,0⟩:Lst)).length)-i) Qea QbS.1 (by omega) rfl (.inr ⟨_,_,rfl,rfl⟩) (.inl ⟨rfl,rfl⟩) (by omega) (by omega) (by omega) (Qaa (Qaf (.slice b 1 c2) (Qaa (QdC (lo:=i) (ms:=[x].map lsc) (ls':=((l.take i++List.replicate ((l.length+1)-i) (⟨0,0⟩:Lst)).take i++[x]++(l.take i++List.replicate ((l.length+1)-i) (⟨0,0⟩:Lst)).drop (i+[x].length)).map lsc) (n':=((l.take i++List.replicate ((l.length+1)-i) (⟨0,0⟩:Lst)).take i++[x]++(l.take i++List.replicate ((l.length+1)-i) (⟨0,0⟩:Lst)).drop (i+[x].length)).length) Qgx Y 1 rfl rfl rfl (by simp only [QQ6,List.length_drop,List.length_take,List.length_cons,List.length_nil,QQ7,List.length_replicate];omega) (Rd.srcs (hvo _ _ Y)) (Qbn (enc:=lsc) (fun _=>rfl) _) (QaW Qcp _) (by simp only [QQ6,List.length_drop,List.length_take,List.length_cons,List.length_nil,QQ7,List.length_replicate];omega) (by simp only [QQ6,List.length_drop,List.length_take,List.length_cons,List.length_nil,QQ7,List.length_replicate];omega) (by simp only [List.map_append,List.map_take,List.map_drop,List.map_cons,List.map_nil,QQ6,List.length_drop,List.length_take,List.length_cons,List.length_nil]) (by rw [QQ6]) fun w7 Y=>(Qad (Qae (QaH HM (so 46 9) [] [0,0,0,6,15,0,0,96,255] [pv (.slice a5 ((l.take i++List.replicate ((l.length+1)-i) (⟨0,0⟩:Lst)).length) c5),pv (I6 (i:Int)),pv (I6 1),pv (I6 ((i+1:Nat):Int)),pv (.slice (sla a5 (i+1) c5 2) (((l.take i++List.replicate ((l.length+1)-i) (⟨0,0⟩:Lst)).length)-(i+1)) (c5-(i+1))),pv (.slice a l.length c),pv (I6 (i:Int)),pv (.slice (sla a i c 2) ((l.drop i).length) (c-i)),pv (I6 (((List.map lsc (l.drop i)).length:Nat):Int))] (fun D J=>[row (.slice a l.length c) (l.map lsc) 102 2,cond (D 8) (row (.slice a5 ((((l.take i++List.replicate ((l.length+1)-i) (⟨0,0⟩:Lst)).take i++[x]++(l.take i++List.replicate ((l.length+1)-i) (⟨0,0⟩:Lst)).drop (i+[x].length)).take (i+1)++l.drop i++((l.take i++List.replicate ((l.length+1)-i) (⟨0,0⟩:Lst)).take i++[x]++(l.take i++List.replicate ((l.length+1)-i) (⟨0,0⟩:Lst)).drop (i+[x].length)).drop (i+1+(l.drop i).length)).length) c5) ((((l.take i++List.replicate ((l.length+1)-i) (⟨0,0⟩:Lst)).take i++[x]++(l.take i++List.replicate ((l.length+1)-i) (⟨0,0⟩:Lst)).drop (i+[x].length)).take (i+1)++l.drop i++((l.take i++List.replicate ((l.length+1)-i) (⟨0,0⟩:Lst)).take i++[x]++(l.take i++List.replicate ((l.length+1)-i) (⟨0,0⟩:Lst)).drop (i+[x].length)).drop (i+1+(l.drop i).length)).map lsc) 102 2) (row (.slice a5 (((l.take i++List.replicate ((l.length+1)-i) (⟨0,0⟩:Lst)).take i++[x]++(l.take i++List.replicate ((l.length+1)-i) (⟨0,0⟩:Lst)).drop (i+[x].length)).length) c5) (((l.take i++List.replicate ((l.length+1)-i) (⟨0,0⟩:Lst)).take i++[x]++(l.take i++List.replicate ((l.length+1)-i) (⟨0,0⟩:Lst)).drop (i+[x].length)).map lsc) 102 2)]) [] (by kernel_rfl) Y ⟨?_,?_,?_,?_,?_,?_,?_,?_,?_,trivial⟩ ?_)))))))))))))
  ·exact oi [] fun Y=>Qaf (.slice a5 ((l.take i++List.replicate ((l.length+1)-i) (⟨0,0⟩:Lst)).length) c5) (Zz Y)
  ·exact oi [] fun Y=>Qaf (.int .i64 (i:Int)) (Zz Y)
  ·exact oi [] fun Y=>Qaf (.int .i64 1) (Zz Y)
  ·exact oi [1,2] fun Y=>QaB (a:=(i:Int)) (b:=1) (c:=((i+1:Nat):Int)) rfl rfl (Qaj (by omega) (by omega)) (Zz Y)
  ·exact oi [0,3] fun Y=>Qed (l:=i+1) (h:=(l.take i++List.replicate ((l.length+1)-i) (⟨0,0⟩:Lst)).length) (n':=((l.take i++List.replicate ((l.length+1)-i) (⟨0,0⟩:Lst)).length)-(i+1)) Qea QbS.1 (by omega) rfl (.inr ⟨_,_,rfl,rfl⟩) (.inl ⟨rfl,rfl⟩) (by omega) (by omega) (by omega) (Zz Y)
  ·exact oi [] fun Y=>Qaf (.slice a l.length c) (Zz Y)
  ·exact oi [] fun Y=>Qaf (.int .i64 (i:Int)) (Zz Y)
  ·exact oi [5,6] fun Y=>QlO (l:=i) (h:=l.length) (m:=c) (n':=(l.drop i).length) Qea QbS.1 (Y.rd 0 rfl) rfl (.inr ⟨_,_,rfl,rfl⟩) (.inl ⟨rfl,rfl⟩) (.inl ⟨rfl,rfl⟩) (by omega) (by omega) (Nat.le_trans (show l.length<=l.length by omega) (Rd.roomM (Y.rd 0 rfl))) (Nat.le_refl _) (by simp only [List.length_take,List.length_drop]<;>omega) (Zz Y)
  ·exact oi [4,7] fun Y=>QdC (lo:=i+1) (ms:=(l.drop i).map lsc) (ls':=(((l.take i++List.replicate ((l.length+1)-i) (⟨0,0⟩:Lst)).take i++[x]++(l.take i++List.replicate ((l.length+1)-i) (⟨0,0⟩:Lst)).drop (i+[x].length)).take (i+1)++l.drop i++((l.take i++List.replicate ((l.length+1)-i) (⟨0,0⟩:Lst)).take i++[x]++(l.take i++List.replicate ((l.length+1)-i) (⟨0,0⟩:Lst)).drop (i+[x].length)).drop (i+1+(l.drop i).length)).map lsc) (n':=(((l.take i++List.replicate ((l.length+1)-i) (⟨0,0⟩:Lst)).take i++[x]++(l.take i++List.replicate ((l.length+1)-i) (⟨0,0⟩:Lst)).drop (i+[x].length)).take (i+1)++l.drop i++((l.take i++List.replicate ((l.length+1)-i) (⟨0,0⟩:Lst)).take i++[x]++(l.take i++List.replicate ((l.length+1)-i) (⟨0,0⟩:Lst)).drop (i+[x].length)).drop (i+1+(l.drop i).length)).length) Qgx Y 1 rfl rfl rfl (by simp only [QQ6,List.length_drop,List.length_take,List.length_cons,List.length_nil,QQ7,List.length_replicate];omega) (Rd.srcs (Rd.dropM (Y.rd 0 rfl) i hi _ rfl)) (Qbn (enc:=lsc) (fun _=>rfl) _) (QaW Qcp _) (by simp only [QQ6,List.length_drop,List.length_take,List.length_cons,List.length_nil,QQ7,List.length_replicate];omega) (by simp only [QQ6,List.length_drop,List.length_take,List.length_cons,List.length_nil,QQ7,List.length_replicate];omega) (by simp only [List.map_append,List.map_take,List.map_drop,List.map_cons,List.map_nil,QQ6,List.length_drop,List.length_take,List.length_cons,List.length_nil]) (by rw [QQ6]) fun _ Y=>⟨rfl,Y⟩
  rintro J1 w9 J2 hJ Y
  replace hJ:J2=mix (sq 46 9) J1 _:=hJ
  replace Y:Own w S w9 [row (.slice a l.length c) (l.map lsc) 102 2,row (.slice a5 ((((l.take i++List.replicate ((l.length+1)-i) (⟨0,0⟩:Lst)).take i++[x]++(l.take i++List.replicate ((l.length+1)-i) (⟨0,0⟩:Lst)).drop (i+[x].length)).take (i+1)++l.drop i++((l.take i++List.replicate ((l.length+1)-i) (⟨0,0⟩:Lst)).take i++[x]++(l.take i++List.replicate ((l.length+1)-i) (⟨0,0⟩:Lst)).drop (i+[x].length)).drop (i+1+(l.drop i).length)).length) c5) ((((l.take i++List.replicate ((l.length+1)-i) (⟨0,0⟩:Lst)).take i++[x]++(l.take i++List.replicate ((l.length+1)-i) (⟨0,0⟩:Lst)).drop (i+[x].length)).take (i+1)++l.drop i++((l.take i++List.replicate ((l.length+1)-i) (⟨0,0⟩:Lst)).take i++[x]++(l.take i++List.replicate ((l.length+1)-i) (⟨0,0⟩:Lst)).drop (i+[x].length)).drop (i+1+(l.drop i).length)).map lsc) 102 2]:=Y
  subst hJ
  refine Qae (Qab (Qaa (Qaf (.slice a5 ((l.take i++List.replicate ((l.length+1)-i) (⟨0,0⟩:Lst)).length) c5) (Qaa (Qam (.slice a5 ((l.take i++List.replicate ((l.length+1)-i) (⟨0,0⟩:Lst)).length) c5) (Qad (Qav ?_)))))))
  refine ⟨_,Qan (V:=.slice a5 ((l.take i++List.replicate ((l.length+1)-i) (⟨0,0⟩:Lst)).length) c5) results156 rfl,?_⟩
  have hX:((l.take i++List.replicate ((l.length+1)-i) (⟨0,0⟩:Lst)).take i++[x]++(l.take i++List.replicate ((l.length+1)-i) (⟨0,0⟩:Lst)).drop (i+[x].length)).take (i+1)++l.drop i++((l.take i++List.replicate ((l.length+1)-i) (⟨0,0⟩:Lst)).take i++[x]++(l.take i++List.replicate ((l.length+1)-i) (⟨0,0⟩:Lst)).drop (i+[x].length)).drop (i+1+(l.drop i).length)=QdN l i x:=Qkq hi
  rw [hX] at Y
  exact ⟨(a5,c5),by rw [hq9,Qgu hi],Y.only 1 rfl,trivial⟩
 replace c4:=QQ2 c4
 refine Qap (Qae (Qab (Qaa (Qaf (.slice a l.length c) (Qaa (Qaf (I6 ((l.length:Nat):Int)) (Qaa (Qaf (I6 1) (Qaa (QaB (a:=((l.length:Nat):Int)) (b:=1) (c:=((l.length+1:Nat):Int)) rfl rfl (Qaj (by omega) (by omega)) (Qaa (Qa8 (V:=.slice (sla a 0 c 2) (l.length+1) (c-0)) (V':=.slice a (l.length+1) c) (Qed (l:=0) (h:=l.length+1) (n':=l.length+1) Qea QbS.1 (by omega) rfl (.inl ⟨rfl,rfl⟩) (.inr ⟨_,_,rfl,rfl⟩) (by omega) (by omega) (by omega) ⟨rfl,rfl⟩) (by rw [QfI];rfl) (Qaa (Qam (.slice a (l.length+1) c) (Qad (Qae (Qae (Qab (Qaa (Qaf (.slice b 1 c2) (Qaa (Qaf (.slice a (l.length+1) c) (Qaa (Qaf (I6 (i:Int)) (Qaa (Qaf (I6 1) (Qaa (QaB (a:=(i:Int)) (b:=1) (c:=((i+1:Nat):Int)) rfl rfl (Qaj (by omega) (by omega)) (Qaa (Qed (l:=i+1) (h:=l.length+1) (n':=(l.length+1)-(i+1)) Qea QbS.1 (by omega) rfl (.inr ⟨_,_,rfl,rfl⟩) (.inl ⟨rfl,rfl⟩) (by omega) (by omega) (by omega) (Qaa (Qn3 (f:=168) (tR:=4) (lo:=i+1) func168 (by kernel_rfl) (by kernel_rfl) (by kernel_rfl) (by kernel_rfl) Qea QbS.1 rfl Y 0 rfl (by rw [QQ6];omega) (by decide) rfl (hpl.own Y hnS) hnS hvb (by omega) rfl (Qaa (QbB rfl (Qad (QcO rfl ?_))))))))))))))))))))))))))))))))))))
 refine Qae (QaH HM (so 69 9) [] [0,0,0,6,15,0,0,96,255] [pv (.slice a (l.length+1) c),pv (I6 (i:Int)),pv (I6 1),pv (I6 ((i+1:Nat):Int)),pv (.slice (sla a (i+1) c 2) ((l.length+1)-(i+1)) (c-(i+1))),pv (.slice a (l.length+1) c),pv (I6 (i:Int)),pv (.slice (sla a i c 2) ((l.length+1)-i) (c-i)),pv (I6 (((List.map lsc (l.drop i)).length:Nat):Int))] (fun D J=>[cond (D 8) (row (.slice a ((l.take (i+1)++l.drop i++l.drop (i+1+(l.drop i).length)).length) c) ((l.take (i+1)++l.drop i++l.drop (i+1+(l.drop i).length)).map lsc) 102 2) (row (.slice a l.length c) (l.map lsc) 102 2)]) [] (by kernel_rfl) Y ⟨?_,?_,?_,?_,?_,?_,?_,?_,?_,trivial⟩ ?_)
 ·exact oi [] fun Y=>Qaf (.slice a (l.length+1) c) (Zz Y)
 ·exact oi [] fun Y=>Qaf (.int .i64 (i:Int)) (Zz Y)
 ·exact oi [] fun Y=>Qaf (.int .i64 1) (Zz Y)
 ·exact oi [1,2] fun Y=>QaB (a:=(i:Int)) (b:=1) (c:=((i+1:Nat):Int)) rfl rfl (Qaj (by omega) (by omega)) (Zz Y)
 ·exact oi [0,3] fun Y=>Qed (l:=i+1) (h:=l.length+1) (n':=(l.length+1)-(i+1)) Qea QbS.1 (by omega) rfl (.inr ⟨_,_,rfl,rfl⟩) (.inl ⟨rfl,rfl⟩) (by omega) (by omega) (by omega) (Zz Y)
 ·exact oi [] fun Y=>Qaf (.slice a (l.length+1) c) (Zz Y)
 ·exact oi [] fun Y=>Qaf (.int .i64 (i:Int)) (Zz Y)
 ·exact oi [5,6] fun Y=>Qed (l:=i) (h:=l.length+1) (n':=(l.length+1)-i) Qea QbS.1 (by omega) rfl (.inr ⟨_,_,rfl,rfl⟩) (.inl ⟨rfl,rfl⟩) (by omega) (by omega) (by omega) (Zz Y)
 ·exact oi [4,7] fun Y=>QdC (lo:=i+1) (ms:=(l.drop i).map lsc) (ls':=(l.take (i+1)++l.drop i++l.drop (i+1+(l.drop i).length)).map lsc) (n':=(l.take (i+1)++l.drop i++l.drop (i+1+(l.drop i).length)).length) Qgx Y 0 rfl rfl rfl (by simp only [QQ6,List.length_drop,List.length_take,List.length_cons,List.length_nil,QQ7,List.length_replicate];omega) (Rd.srcs (Rd.dropM (Y.rd 0 rfl) i hi _ rfl)) (Qbn (enc:=lsc) (fun _=>rfl) _) (QaW Qcp _) (by simp only [QQ6,List.length_drop,List.length_take,List.length_cons,List.length_nil,QQ7,List.length_replicate];omega) (by simp only [QQ6,List.length_drop,List.length_take,List.length_cons,List.length_nil,QQ7,List.length_replicate];omega) (by simp only [List.map_append,List.map_take,List.map_drop,List.map_cons,List.map_nil,QQ6,List.length_drop,List.length_take,List.length_cons,List.length_nil]) (by rw [QQ6]) fun _ Y=>⟨rfl,Y⟩
 rintro J1 w11 J2 hJ Y
 replace hJ:J2=mix (sq 69 9) J1 _:=hJ
 replace Y:Own w S w11 [row (.slice a ((l.take (i+1)++l.drop i++l.drop (i+1+(l.drop i).length)).length) c) ((l.take (i+1)++l.drop i++l.drop (i+1+(l.drop i).length)).map lsc) 102 2]:=Y
 subst hJ
 refine Qae (Qab (Qaa (Qaf (.slice a (l.length+1) c) (Qaa (Qaf (I6 (i:Int)) (Qaa (Qed (l:=i) (h:=l.length+1) (n':=(l.length+1)-i) Qea QbS.1 (by omega) rfl (.inr ⟨_,_,rfl,rfl⟩) (.inl ⟨rfl,rfl⟩) (by omega) (by omega) (by omega) (Qaa (Qaf (.slice b 1 c2) (Qaa (QdC (lo:=i) (ms:=[x].map lsc) (ls':=((l.take (i+1)++l.drop i++l.drop (i+1+(l.drop i).length)).take i++[x]++(l.take (i+1)++l.drop i++l.drop (i+1+(l.drop i).length)).drop (i+[x].length)).map lsc) (n':=((l.take (i+1)++l.drop i++l.drop (i+1+(l.drop i).length)).take i++[x]++(l.take (i+1)++l.drop i++l.drop (i+1+(l.drop i).length)).drop (i+[x].length)).length) Qgx Y 0 rfl rfl rfl (by simp only [QQ6,List.length_drop,List.length_take,List.length_cons,List.length_nil,QQ7,List.length_replicate];omega) (Rd.srcs (hvo _ _ Y)) (Qbn (enc:=lsc) (fun _=>rfl) _) (QaW Qcp _) (by simp only [QQ6,List.length_drop,List.length_take,List.length_cons,List.length_nil,QQ7,List.length_replicate];omega) (by simp only [QQ6,List.length_drop,List.length_take,List.length_cons,List.length_nil,QQ7,List.length_replicate];omega) (by simp only [List.map_append,List.map_take,List.map_drop,List.map_cons,List.map_nil,QQ6,List.length_drop,List.length_take,List.length_cons,List.length_nil]) (by rw [QQ6]) fun w12 Y=>(Qad (Qae (Qab (Qaa (Qaf (.slice a (l.length+1) c) (Qaa (Qam (.slice a (l.length+1) c) (Qad (Qav ?_))))))))))))))))))))
 refine ⟨_,Qan (V:=.slice a (l.length+1) c) results156 rfl,?_⟩
 have hX:(l.take (i+1)++l.drop i++l.drop (i+1+(l.drop i).length)).take i++[x]++(l.take (i+1)++l.drop i++l.drop (i+1+(l.drop i).length)).drop (i+[x].length)=QdN l i x:=Qlg (by omega)
 rw [hX] at Y
 exact ⟨(a,c),by rw [Qgu hi],Y.only 0 rfl,trivial⟩
end Tt
end Go.Proofs
namespace Go.Proofs
open Go Go.Vx Go.RowKit
open Tryz
namespace Tt
theorem QtO (w:World) (S:Nat->Prop) (b:Nat) (kn:Vec) (v1:Value) (a2:Option Addr) (c2:Nat) (ts:List Lst) (l:Lst) (hlt:ts.length<=10000) (hT:QdQ ts) (hR:(star [blk b (vc kn++[(v1:Value),(.slice a2 ts.length c2:Value)]) 38,row (.slice a2 ts.length c2) (ts.map lsc) 102 2]).holds w S) (hlS:∀ x,S x->x<w.heap.size):Calls prog 122 #[.pointer (some ⟨b,0,none⟩),.agg (lsc l).toArray] w (fun e w'=>∃ x:Option Addr × Nat,e = .returned (.tuple #[])/\Own w S w' [star [blk b (vc kn++[(v1:Value),(.slice x.1 (QdP l.cart l.tick ts).length x.2:Value)]) 38,row (.slice x.1 (QdP l.cart l.tick ts).length x.2) ((QdP l.cart l.tick ts).map lsc) 102 2]]/\True):=by
 refine Qah (n:=46) func122 rfl ntmps122 rfl ?_
 have Y:=(Own.lent hR hlS).split 0 rfl
 have hpl:=Qsz ts l.cart
 refine Qae (Qab (Qaa (QaY (V:=.agg (lsc l).toArray) (cs:=lsc l) rfl rfl Y fun b1 w2 Y=>(Qad (Qae (QaH HM (so 7 6++[some 6,some 13,some 14,some 4,some 5]) [] [0,1,3,0,8,31,63,127,127,255,1023] [pv (Pq b 0),pv (Pq b 0),pv (.agg ((vc kn)++[(v1:Value),(.slice a2 ts.length c2:Value) ]).toArray),pv (Pq b1 (0+0)),pv (I7 l.cart),pv (.tuple #[I6 ((QbR ts l.cart:Nat):Int),.bool ((QaL ts l.cart).isSome)]),pv (.tuple #[I6 ((QbR ts l.cart:Nat):Int),.bool ((QaL ts l.cart).isSome)]),pv (I6 ((QbR ts l.cart:Nat):Int)),pv (.bool ((QaL ts l.cart).isSome)),pv (I6 ((QbR ts l.cart:Nat):Int)),pv (.bool ((QaL ts l.cart).isSome))] (fun _ _=>_) [10,9] (by kernel_rfl) Y ⟨?_,?_,?_,?_,?_,?_,?_,?_,?_,?_,?_,trivial⟩ ?_))))))
 ·exact oi [] fun Y=>Qaf (.pointer (some ⟨b,0,none⟩)) (Zz Y)
 ·exact oi [0] fun Y=>Qc3 rfl (Zz Y)
 ·exact oi [1] fun Y=>QaK (cs:=(vc kn)++[(v1:Value),(.slice a2 ts.length c2:Value) ]) Qb4 Y 0 rfl rfl rfl (Zz Y)
 ·exact oi [] fun Y=>Qac QeP rfl (Zz Y)
 ·exact oi [3] fun Y=>QaN (.int .u16 l.cart) Qar Y 2 (Zz Y)
 ·exact oi [2,4] fun Y=>Qas (vs:=[.agg ((vc kn)++[(v1:Value),(.slice a2 ts.length c2:Value) ]).toArray,.int .u16 l.cart]) (V:=.tuple #[.int .i64 ((QbR ts l.cart:Nat):Int),.bool ((QaL ts l.cart).isSome)]) Qtb rfl rfl (Qh4 _ kn v1 a2 c2 ts l.cart (by omega) hT (Y.rd 1 rfl)) Y fun _ Y=>Zz Y
 ·exact oi [5] fun Y=>Qaf (.tuple #[.int .i64 ((QbR ts l.cart:Nat):Int),.bool ((QaL ts l.cart).isSome)]) (Zz Y)
 ·exact oi [6] fun Y=>QaC (V:=.int .i64 ((QbR ts l.cart:Nat):Int)) rfl rfl (Zz Y)
 ·exact oi [6] fun Y=>QaC (V:=.bool ((QaL ts l.cart).isSome)) rfl rfl (Zz Y)
 ·exact oi [7] fun Y=>Qam (.int .i64 ((QbR ts l.cart:Nat):Int)) (Zz Y)
 ·exact oi [8] fun Y=>Qam (.bool ((QaL ts l.cart).isSome)) (Zz Y)
 rintro J1 w4 J2 hJ Y
 replace hJ:J2=upd (upd (mix (sq 7 6++[6,13,14,4,5]) J1 _) 4 (I6 ((QbR ts l.cart:Nat):Int))) 5 (.bool ((QaL ts l.cart).isSome)):=hJ
 subst hJ
 refine Qae (Qae (Qab (Qaa (Qaf (.bool ((QaL ts l.cart).isSome)) (Qaa (QbB rfl (Qad (Qak (t:=!((QaL ts l.cart).isSome)) rfl (fun c5=>?_) (fun c5=>?_)))))))))
 ·
  replace c5:=QbE c5
  refine Qae ?_
  replace Y:=Y.more emp trivial
  refine QaH HM (so 17 11++[none]) [[],[],[],[],[],[],[],[24],[25]] [0,0,2,6,14,0,0,64,254,511,1023,2047] [pv (Pq b 0),pv (Pq b 0),pv (Pq b 0),pv (Pq b (0+17)),pv (.slice a2 ts.length c2),pv (I6 ((QbR ts l.cart:Nat):Int)),pv (.agg (lsc l).toArray),(true,fun J=>.slice (some ⟨(bOf (J 24)),0,none⟩) 1 1),(true,fun J=>.slice (aOf (J 25)) ((QdN ts (QbR ts l.cart) l).length) (cOf (J 25))),pv (Pq b 0),pv (Pq b (0+17)),pn] (fun D J=>[cond (D 11) (blk b ((vc kn)++[(v1:Value),(.slice (aOf (J 25)) ((QdN ts (QbR ts l.cart) l).length) (cOf (J 25)):Value) ]) 38) (blk b ((vc kn)++[(v1:Value),(.slice a2 ts.length c2:Value) ]) 38),cond (D 8) (row (.slice (aOf (J 25)) ((QdN ts (QbR ts l.cart) l).length) (cOf (J 25))) ((QdN ts (QbR ts l.cart) l).map lsc) 102 2) (row (.slice a2 ts.length c2) (ts.map lsc) 102 2),blk b1 (lsc l) 102,cond (D 7) (row (.slice (some ⟨(bOf (J 24)),0,none⟩) 1 1) ([l].map lsc) 102 2) (emp)]) [] (by kernel_rfl) Y ⟨?_,?_,?_,?_,?_,?_,?_,?_,?_,?_,?_,?_,trivial⟩ ?_
  ·exact oi [] fun Y=>Qaf (.pointer (some ⟨b,0,none⟩)) (Zz Y)
  ·exact oi [] fun Y=>Qaf (.pointer (some ⟨b,0,none⟩)) (Zz Y)
  ·exact oi [1] fun Y=>Qc3 rfl (Zz Y)
  ·exact oi [2] fun Y=>Qac Qc0 rfl (Zz Y)
  ·exact ob [3] [11] rfl rfl fun D J w Y=>QaN (.slice a2 ts.length c2) Qf5 Y 0 (Zz Y)
  ·exact oi [] fun Y=>Qaf (.int .i64 ((QbR ts l.cart:Nat):Int)) (Zz Y)
  ·exact oi [] fun Y=>QaK (cs:=lsc l) QbS Y 2 rfl rfl rfl (Zz Y)
  ·exact oi [6] fun Y=>Qho (vals:=[.agg (lsc l).toArray]) (ls:=List.map lsc ([l]:List Lst)) Qgx rfl rfl rfl (Qbn (enc:=lsc) (fun _=>rfl) _) (QaW Qcp _) (QQ8 rfl) Y fun _ _ Y=>⟨rfl,Y.put 3 (QQ8 rfl)⟩
  ·exact ob [4,5,7] [11] rfl rfl fun D J w Y=>QnU (α:=Option Addr × Nat) (vs:=[.slice a2 ts.length c2,I6 ((QbR ts l.cart:Nat):Int),.slice (some ⟨(bOf (J 24)),0,none⟩) 1 1]) (V:=fun x=>.slice x.1 (QdN ts (QbR ts l.cart) l).length x.2) (R:=row (.slice a2 ts.length c2) (ts.map lsc) 102 2) (R':=fun x=>row (.slice x.1 (QdN ts (QbR ts l.cart) l).length x.2) ((QdN ts (QbR ts l.cart) l).map lsc) 102 2) (Lo:=fun _=>[]) (F:=fun _ _=>True) Qur rfl rfl Y 1 3 (by decide) rfl rfl (QQ8 rfl) (fun S hS hlt hnS hpl9=>Qmv _ S a2 c2 ts (QbR ts l.cart) hpl l (some ⟨(bOf (J 24)),0,none⟩) 1 (Y.rd 3 rfl) hpl9 hnS hpl9.lt (by omega) hS hlt) fun _ _ Y _=>⟨rfl,Y⟩
  ·exact oi [0] fun Y=>Qc3 rfl (Zz Y)
  ·exact oi [9] fun Y=>Qac Qc0 rfl (Zz Y)
  ·exact oa [8,10] fun D J w Y=>Qcs (V:=.slice (aOf (J 25)) ((QdN ts (QbR ts l.cart) l).length) (cOf (J 25))) (cs':=(vc kn)++[(v1:Value),(.slice (aOf (J 25)) ((QdN ts (QbR ts l.cart) l).length) (cOf (J 25)):Value) ]) Qf5 Y 0 rfl rfl rfl rfl (QQ8 rfl) rfl fun _ Y=>⟨trivial,Y⟩
  rintro J1 w9 J2 hJ Y
  replace hJ:J2=mix (sq 17 11) J1 _:=hJ
  replace Y:Own w S w9 [blk b ((vc kn)++[(v1:Value),(.slice (aOf (J1 25)) ((QdN ts (QbR ts l.cart) l).length) (cOf (J1 25)):Value) ]) 38,row (.slice (aOf (J1 25)) ((QdN ts (QbR ts l.cart) l).length) (cOf (J1 25))) ((QdN ts (QbR ts l.cart) l).map lsc) 102 2,blk b1 (lsc l) 102,row (.slice (some ⟨(bOf (J1 24)),0,none⟩) 1 1) ([l].map lsc) 102 2]:=Y
  generalize (bOf (J1 24))=b10 at Y
  generalize (aOf (J1 25))=a11 at Y
  generalize (cOf (J1 25))=c12 at Y
  subst hJ
  refine Qav ?_
  refine ⟨_,Qbl results122,?_⟩
  have hX:QdN ts (QbR ts l.cart) l=QdP l.cart l.tick ts:=(Qp5 hT c5).symm
  have ho:=(Y.join 0 1 (by decide) rfl rfl).only 0 rfl
  rw [hX] at ho
  exact ⟨(a11,c12),rfl,ho,trivial⟩
 replace c5:=Qbd c5
 refine Qap ?_
 have hfa:=Qiq hT c5
 have hfb:=hfa.1
 refine QaH HM (so 28 18++[none]) [] [0,1,3,7,0,0,32,96,224,0,992,2016,4064,0,8192,32736,65535,131071,262143] [pv (Pq b 0),pv (Pq b 0),pv (Pq b (0+17)),pv (.slice a2 ts.length c2),pv (I6 ((QbR ts l.cart:Nat):Int)),pv (Pq b 0),pv (Pq b 0),pv (Pq b (0+17)),pv (.slice a2 ts.length c2),pv (I6 ((QbR ts l.cart:Nat):Int)),pv (.pointer (some ⟨bkS (.slice a2 ts.length c2),ofS (.slice a2 ts.length c2)+((QbR ts l.cart:Nat):Int).toNat*2,none⟩)),pv (.pointer (some ⟨bkS (.slice a2 ts.length c2),ofS (.slice a2 ts.length c2)+((QbR ts l.cart:Nat):Int).toNat*2+1,none⟩)),pv (.int .u32 ((gd ts (QbR ts l.cart)).tick)),pv (Pq b1 (0+1)),pv (.int .u32 l.tick),pv (.int .u32 (max ((gd ts (QbR ts l.cart)).tick) l.tick)),pv (.pointer (some ⟨bkS (.slice a2 ts.length c2),ofS (.slice a2 ts.length c2)+((QbR ts l.cart:Nat):Int).toNat*2,none⟩)),pv (.pointer (some ⟨bkS (.slice a2 ts.length c2),ofS (.slice a2 ts.length c2)+((QbR ts l.cart:Nat):Int).toNat*2+1,none⟩)),pn] (fun D J=>[blk b ((vc kn)++[(v1:Value),(.slice a2 ts.length c2:Value) ]) 38,cond (D 18) (row (.slice a2 ts.length c2) ((ts.set (QbR ts l.cart) (⟨(gd ts (QbR ts l.cart)).cart,max ((gd ts (QbR ts l.cart)).tick) l.tick⟩:Lst)).map lsc) 102 2) (row (.slice a2 ts.length c2) (ts.map lsc) 102 2),blk b1 (lsc l) 102]) [] (by kernel_rfl) Y ⟨?_,?_,?_,?_,?_,?_,?_,?_,?_,?_,?_,?_,?_,?_,?_,?_,?_,?_,?_,trivial⟩ ?_
 ·exact oi [] fun Y=>Qaf (.pointer (some ⟨b,0,none⟩)) (Zz Y)
 ·exact oi [0] fun Y=>Qc3 rfl (Zz Y)
 ·exact oi [1] fun Y=>Qac Qc0 rfl (Zz Y)
 ·exact oi [2] fun Y=>QaN (.slice a2 ts.length c2) Qf5 Y 0 (Zz Y)
 ·exact oi [] fun Y=>Qaf (.int .i64 ((QbR ts l.cart:Nat):Int)) (Zz Y)
 ·exact oi [] fun Y=>Qaf (.pointer (some ⟨b,0,none⟩)) (Zz Y)
 ·exact oi [5] fun Y=>Qc3 rfl (Zz Y)
 ·exact oi [6] fun Y=>Qac Qc0 rfl (Zz Y)
 ·exact oi [7] fun Y=>QaN (.slice a2 ts.length c2) Qf5 Y 0 (Zz Y)
 ·exact oi [] fun Y=>Qaf (.int .i64 ((QbR ts l.cart:Nat):Int)) (Zz Y)
 ·exact ob [8,9] [18] rfl rfl fun D J w Y=>Qax QeS QbS.1 (Y.rd 1 rfl) rfl rfl (by omega) (by rw [QQ6];omega) (Zz Y)
 ·exact oi [10] fun Y=>Qac QeO rfl (Zz Y)
 ·exact ob [11] [18] rfl rfl fun D J w Y=>QaV (j:=1) (V:=.int .u32 ((gd ts (QbR ts l.cart)).tick)) (QbR ts l.cart) QaU (Y.rd 1 rfl) (Qa4 (by omega)) rfl rfl (by omega) (Zz Y)
 ·exact oi [] fun Y=>Qac QeO rfl (Zz Y)
 ·exact oi [13] fun Y=>QaN (.int .u32 l.tick) QaU Y 2 (Zz Y)
 ·exact oi [12,14] fun Y=>Qmi rfl rfl (Zz Y)
 ·exact ob [3,4] [18] rfl rfl fun D J w Y=>Qax QeS QbS.1 (Y.rd 1 rfl) rfl rfl (by omega) (by rw [QQ6];omega) (Zz Y)
 ·exact oi [16] fun Y=>Qac QeO rfl (Zz Y)
 ·exact oi [15,17] fun Y=>QvR (z:=(⟨(gd ts (QbR ts l.cart)).cart,max ((gd ts (QbR ts l.cart)).tick) l.tick⟩:Lst)) (vs:=[.int .u32 (max ((gd ts (QbR ts l.cart)).tick) l.tick)]) (QbR ts l.cart) 1 QaU.1 Y 1 rfl rfl (by omega) (by first|omega|(simp only [List.length_set];omega)) rfl rfl rfl rfl (QQ8 rfl) (Qcp _) (Qat rfl Qa2) fun _ Y=>⟨trivial,Y⟩
 rintro J1 w14 J2 hJ Y
 replace hJ:J2=mix (sq 28 18) J1 _:=hJ
 replace Y:Own w S w14 [blk b ((vc kn)++[(v1:Value),(.slice a2 ts.length c2:Value) ]) 38,row (.slice a2 ts.length c2) ((ts.set (QbR ts l.cart) (⟨(gd ts (QbR ts l.cart)).cart,max ((gd ts (QbR ts l.cart)).tick) l.tick⟩:Lst)).map lsc) 102 2,blk b1 (lsc l) 102]:=Y
 subst hJ
 refine ⟨_,Qbl results122,?_⟩
 have hX:ts.set (QbR ts l.cart) (⟨(gd ts (QbR ts l.cart)).cart,max ((gd ts (QbR ts l.cart)).tick) l.tick⟩:Lst)=QdP l.cart l.tick ts:=by rw [QqT hT c5];congr 1;rw [(Qiq hT c5).2.1]
 have ho:=(Y.join 0 1 (by decide) rfl rfl).only 0 rfl
 have hl:ts.length=(QdP l.cart l.tick ts).length:=by rw [← hX,List.length_set]
 rw [hX,hl] at ho
 exact ⟨(a2,c2),rfl,ho,trivial⟩
end Tt
end Go.Proofs
namespace Go.Proofs
open Go Go.Vx Go.RowKit
open Tryz
namespace Tt
theorem Qtz (w:World) (s:Sta) (a1:Option Addr) (c1:Nat) (a2:Option Addr) (c2:Nat) (hok:QdV s) (hle:s.ents.length<=1000) (hlt:s.ticks.length<=1000) (hr1:Rd w (.slice a1 s.ents.length c1) 7 (s.ents.map cec)) (hr2:Rd w (.slice a2 s.ticks.length c2) 2 (s.ticks.map lsc)):Calls prog 116 #[.agg ((vc s.known)++[(.slice a1 s.ents.length c1:Value),(.slice a2 s.ticks.length c2:Value) ]).toArray] w (fun e w'=>∃ x:(Option Addr × Nat) × (Option Addr × Nat),e = .returned (.agg (vc (s).known++[(.slice x.1.1 (s).ents.length x.1.2:Value),(.slice x.2.1 (s).ticks.length x.2.2:Value)]).toArray)/\Own w no w' [row (.slice x.1.1 (s).ents.length x.1.2) ((s).ents.map cec) 106 7,row (.slice x.2.1 (s).ticks.length x.2.2) ((s).ticks.map lsc) 102 2]/\True):=by
 refine Qah (n:=12) func116 rfl ntmps116 rfl ?_
 have Y:=Own.start w
 refine Qae (Qab (Qaa (QaY (V:=.agg ((vc s.known)++[(.slice a1 s.ents.length c1:Value),(.slice a2 s.ticks.length c2:Value) ]).toArray) (cs:=(vc s.known)++[(.slice a1 s.ents.length c1:Value),(.slice a2 s.ticks.length c2:Value) ]) rfl rfl Y fun b1 w2 Y=>(Qaa (QaJ (cs:=(vc vzero)++[(.slice none 0 0:Value),(.slice none 0 0:Value) ]) Qgg rfl Y fun b3 w4 Y=>(Qad (Qae ?_)))))))
 replace Y:=Y.more emp trivial
 replace Y:=Y.more emp trivial
 refine QaH HM (so 3 9++[none]) [[],[],[],[],[7],[],[],[10],[7,10]] [0,1,0,4,12,0,32,124,255,511] [pv (Pq b1 (0+0)),pv (.agg (vc s.known).toArray),pv (Pq b1 (0+16)),pv (.slice a1 s.ents.length c1),(true,fun J=>.slice (aOf (J 7)) ((s.ents).length) (cOf (J 7))),pv (Pq b1 (0+17)),pv (.slice a2 s.ticks.length c2),(true,fun J=>.slice (aOf (J 10)) ((s.ticks).length) (cOf (J 10))),(true,fun J=>.agg ((vc s.known)++[(.slice (aOf (J 7)) ((s.ents).length) (cOf (J 7)):Value),(.slice (aOf (J 10)) ((s.ticks).length) (cOf (J 10)):Value) ]).toArray),pn] (fun D J=>[blk b1 ((vc s.known)++[(.slice a1 s.ents.length c1:Value),(.slice a2 s.ticks.length c2:Value) ]) 38,cond (D 9) (blk b3 ((vc s.known)++[(.slice (aOf (J 7)) ((s.ents).length) (cOf (J 7)):Value),(.slice (aOf (J 10)) ((s.ticks).length) (cOf (J 10)):Value) ]) 38) (blk b3 ((vc vzero)++[(.slice none 0 0:Value),(.slice none 0 0:Value) ]) 38),cond (D 4) (row (.slice (aOf (J 7)) ((s.ents).length) (cOf (J 7))) (s.ents.map cec) 106 7) (emp),cond (D 7) (row (.slice (aOf (J 10)) ((s.ticks).length) (cOf (J 10))) (s.ticks.map lsc) 102 2) (emp)]) [] (by kernel_rfl) Y ⟨?_,?_,?_,?_,?_,?_,?_,?_,?_,?_,trivial⟩ ?_
 ·exact oi [] fun Y=>Qac Qeo rfl (Zz Y)
 ·exact oi [0] fun Y=>QbT (vs:=vc s.known) QbC Y 0 rfl rfl rfl rfl (Zz Y)
 ·exact oi [] fun Y=>Qac Qdx rfl (Zz Y)
 ·exact oi [2] fun Y=>QaN (.slice a1 s.ents.length c1) QgK Y 0 (Zz Y)
 ·exact ob [3] [9] rfl rfl fun D J w Y=>Qbr (vs:=[.slice a1 s.ents.length c1]) (V:=fun x:Option Addr × Nat=>.slice x.1 (s.ents).length x.2) QvU rfl rfl (QiH _ a1 c1 s.ents (by omega) (Rd.own' hr1 Y)) Y fun _ _ Y _=>⟨rfl,Y.put 2 (QQ8 rfl)⟩
 ·exact oi [] fun Y=>Qac Qc0 rfl (Zz Y)
 ·exact oi [5] fun Y=>QaN (.slice a2 s.ticks.length c2) Qf5 Y 0 (Zz Y)
 ·exact ob [6] [9] rfl rfl fun D J w Y=>Qbr (vs:=[.slice a2 s.ticks.length c2]) (V:=fun x:Option Addr × Nat=>.slice x.1 (s.ticks).length x.2) Qux rfl rfl (Qni _ a2 c2 s.ticks (by omega) (Rd.own' hr2 Y)) Y fun _ _ Y _=>⟨rfl,Y.put 3 (QQ8 rfl)⟩
 ·exact oa [1,4,7] fun D J w Y=>QcQ (vs:=[(0,.agg (vc s.known).toArray),(1,.slice (aOf (J 7)) ((s.ents).length) (cOf (J 7))),(2,.slice (aOf (J 10)) ((s.ticks).length) (cOf (J 10)))]) (cs:=(vc s.known)++[(.slice (aOf (J 7)) ((s.ents).length) (cOf (J 7)):Value),(.slice (aOf (J 10)) ((s.ticks).length) (cOf (J 10)):Value) ]) [vc vzero,[(.slice none 0 0:Value)],[(.slice none 0 0:Value)]] [vc s.known,[(.slice (aOf (J 7)) ((s.ents).length) (cOf (J 7)):Value)],[(.slice (aOf (J 10)) ((s.ticks).length) (cOf (J 10)):Value)]] QnW rfl (rfl) rfl rfl (Zz Y)
 ·exact oa [8] fun D J w Y=>Qcz (V:=.agg ((vc s.known)++[(.slice (aOf (J 7)) ((s.ents).length) (cOf (J 7)):Value),(.slice (aOf (J 10)) ((s.ticks).length) (cOf (J 10)):Value) ]).toArray) (vs:=(vc s.known)++[(.slice (aOf (J 7)) ((s.ents).length) (cOf (J 7)):Value),(.slice (aOf (J 10)) ((s.ticks).length) (cOf (J 10)):Value) ]) (cs':=(vc s.known)++[(.slice (aOf (J 7)) ((s.ents).length) (cOf (J 7)):Value),(.slice (aOf (J 10)) ((s.ticks).length) (cOf (J 10)):Value) ]) Qb4.1 Y 1 rfl rfl rfl rfl rfl (QQ8 rfl) (Qbq (Qb0 _) (Qat rfl (Qat rfl Qa2))) (Qaz rfl) fun _ Y=>⟨trivial,Y⟩
 rintro J1 w8 J2 hJ Y
 replace hJ:J2=mix (sq 3 9) J1 _:=hJ
 replace Y:Own w no w8 [blk b1 ((vc s.known)++[(.slice a1 s.ents.length c1:Value),(.slice a2 s.ticks.length c2:Value) ]) 38,blk b3 ((vc s.known)++[(.slice (aOf (J1 7)) ((s.ents).length) (cOf (J1 7)):Value),(.slice (aOf (J1 10)) ((s.ticks).length) (cOf (J1 10)):Value) ]) 38,row (.slice (aOf (J1 7)) ((s.ents).length) (cOf (J1 7))) (s.ents.map cec) 106 7,row (.slice (aOf (J1 10)) ((s.ticks).length) (cOf (J1 10))) (s.ticks.map lsc) 102 2]:=Y
 generalize (aOf (J1 7))=a9 at Y
 generalize (cOf (J1 7))=c10 at Y
 generalize (aOf (J1 10))=a11 at Y
 generalize (cOf (J1 10))=c12 at Y
 subst hJ
 refine Qav ?_
 refine ⟨_,QcA (cs:=(vc s.known)++[(.slice a9 ((s.ents).length) c10:Value),(.slice a11 ((s.ticks).length) c12:Value) ]) results116 Qb4 Y 1 rfl rfl rfl,?_⟩
 exact ⟨((a9,c10),(a11,c12)),rfl,Y.two 2 3 (by decide) rfl rfl,trivial⟩
theorem Qsa (w:World) (x:Cen):Calls prog 118 #[.agg (cec x).toArray] w (fun e w'=>e = .returned (.agg (oc (QaG x)).toArray)/\Own w no w' []):=by
 refine Qah (n:=14) func118 rfl ntmps118 rfl ?_
 have Y:=Own.start w
 refine Qae (Qab (Qaa (QaY (V:=.agg (cec x).toArray) (cs:=cec x) rfl rfl Y fun b1 w2 Y=>(Qaa (QaJ (cs:=oc (⟨(⟨0,0⟩:Dot),0,0,0,0,0,vzero⟩:Opn)) QhZ rfl Y fun b3 w4 Y=>(Qad (Qae (Qab (Qaa (Qac QbX rfl (Qaa (QbT (vs:=dc x.dot) QcV Y 0 rfl rfl rfl rfl (Qaa (Qac QeR rfl (Qaa (QaN (.int .u8 x.kind) QcI Y 0 (Qaa (Qac QdE rfl (Qaa (QaN (I7 x.cart) Qar Y 0 (Qaa (Qac QdJ rfl (Qaa (QaN (I7 x.item) Qar Y 0 (Qaa (Qac QeC rfl (Qaa (QaN (I7 x.qty) Qar Y 0 (Qaa (QcQ (vs:=[(0,.agg (dc x.dot).toArray),(1,.int .u8 x.kind),(2,I7 x.cart),(3,I7 x.item),(4,I7 x.qty)]) (cs:=oc (⟨x.dot,x.kind,x.cart,x.item,x.qty,0,vzero⟩:Opn)) [dc (⟨0,0⟩:Dot),[(.int .u8 0:Value)],[(I7 0:Value)],[(I7 0:Value)],[(I7 0:Value)],[(.int .u32 0:Value)],vc vzero] [dc x.dot,[(.int .u8 x.kind:Value)],[(I7 x.cart:Value)],[(I7 x.item:Value)],[(I7 x.qty:Value)],[(.int .u32 0:Value)],vc vzero] QtQ rfl (rfl) rfl rfl (Qaa (Qcz (V:=.agg (oc (⟨x.dot,x.kind,x.cart,x.item,x.qty,0,vzero⟩:Opn)).toArray) (vs:=oc (⟨x.dot,x.kind,x.cart,x.item,x.qty,0,vzero⟩:Opn)) (cs':=oc (⟨x.dot,x.kind,x.cart,x.item,x.qty,0,vzero⟩:Opn)) Qa3.1 Y 1 rfl rfl rfl rfl rfl (QQ8 rfl) (QcX _) (Qaz rfl) fun w5 Y=>(Qad (Qav ?_))))))))))))))))))))))))))))))))))
 refine ⟨_,QcA (cs:=oc (⟨x.dot,x.kind,x.cart,x.item,x.qty,0,vzero⟩:Opn)) results118 Qa3 Y 1 rfl rfl rfl,(Zr Y ?_)⟩
 rfl
theorem Qo5 (w:World) (x:Cen) (o:Opn) (bx:Nat) (hx:QcS x.dot) (hc:QbW w bx (oc o)):Calls prog 117 #[.agg (cec x).toArray,.pointer (some ⟨bx,0,none⟩)] w (fun e w'=>e = .returned (.bool (Qay o (QaG x)))/\Own w no w' []):=by
 refine Qah (n:=8) func117 rfl ntmps117 rfl ?_
 have Y:=Own.start w
 refine Qae (Qab (Qaa (QaY (V:=.agg (cec x).toArray) (cs:=cec x) rfl rfl Y fun b1 w2 Y=>(Qaa (Qam (.bool false) (Qad (Qae (QaH HM (so 4 4++[some 3]) [] [0,0,2,7,15] [pv (.agg (oc o).toArray),pv (.agg (cec x).toArray),pv (.agg (oc (QaG x)).toArray),pv (.bool (Qay o (QaG x))),pv (.bool (Qay o (QaG x)))] (fun _ _=>_) [4] (by kernel_rfl) Y ⟨?_,?_,?_,?_,?_,trivial⟩ ?_))))))))
 ·exact oi [] fun Y=>QkK (vs:=oc o) Qa3 (hc.own' Y) rfl rfl rfl (Zz Y)
 ·exact oi [] fun Y=>QaK (cs:=cec x) QaF Y 0 rfl rfl rfl (Zz Y)
 ·exact oi [1] fun Y=>Qas (vs:=[.agg (cec x).toArray]) (V:=.agg (oc (QaG x)).toArray) QuM rfl rfl (Qsa _ x) Y fun _ Y=>Zz Y
 ·exact oi [0,2] fun Y=>Qas (vs:=[.agg (oc o).toArray,.agg (oc (QaG x)).toArray]) (V:=.bool (Qay o (QaG x))) QsG rfl rfl (Qid _ o (QaG x) hx) Y fun _ Y=>Zz Y
 ·exact oi [3] fun Y=>Qam (.bool (Qay o (QaG x))) (Zz Y)
 rintro J1 w5 J2 hJ Y
 replace hJ:J2=upd (mix [4,5,6,7,3] J1 _) 3 (.bool (Qay o (QaG x))):=hJ
 subst hJ
 refine Qav ?_
 refine ⟨_,Qan (V:=.bool (Qay o (QaG x))) results117 rfl,(Zr Y ?_)⟩
 rfl
end Tt
end Go.Proofs
namespace Go.Proofs
open Go Go.Vx Go.RowKit
open Tryz
namespace Tt
theorem QmM (w:World) (S:Nat->Prop) (a:Option Addr) (c:Nat) (l:List Cen) (i:Nat) (hi:i<=l.length) (x:Cen) (b:Option Addr) (c2:Nat) (hv:Rd w (.slice b 1 c2) 7 (List.map cec [x])) (hpl:Qev w (.slice b 1 c2)) (hnS:¬S (bkS (.slice b 1 c2))) (hvb:bkS (.slice b 1 c2)<w.heap.size) (hN:(l.length+1)*25<=140737488355328) (hR:(row (.slice a l.length c) (l.map cec) 106 7).holds w S) (hlt:∀ b,S b->b<w.heap.size):Calls prog 121 #[.slice a l.length c,.int .i64 (i:Int),.slice b 1 c2] w (fun e w'=>∃ x':Option Addr × Nat,e = .returned (.slice x'.1 (QdN l i x).length x'.2)/\Own w S w' [row (.slice x'.1 (QdN l i x).length x'.2) ((QdN l i x).map cec) 106 7]/\True):=by
 refine Qah (n:=95) func121 rfl ntmps121 rfl ?_
 have Y:=Own.lent hR hlt
 have hn:=(Y.rd 0 rfl).sml
 have hlc:=(Y.rd 0 rfl).roomM
 have hvo:∀ (w1:World) (L1:List Res),Own w S w1 L1->Rd w1 (.slice b 1 c2) 7 (List.map cec [x]):=fun w1 L1 h=>hv.own h hnS
 refine Qae (Qab (Qaa (Qam (.slice none 0 0) (Qad (Qae (Qab (Qaa (Qaf (.slice a l.length c) (Qaa (Qaf (I6 (i:Int)) (Qaa (QlO (l:=i) (h:=l.length) (m:=c) (n':=(l.drop i).length) Qdi QaF.1 (Y.rd 0 rfl) rfl (.inr ⟨_,_,rfl,rfl⟩) (.inl ⟨rfl,rfl⟩) (.inl ⟨rfl,rfl⟩) (by omega) (by omega) (Nat.le_trans (show l.length<=l.length by omega) (Rd.roomM (Y.rd 0 rfl))) (Nat.le_refl _) (by simp only [List.length_take,List.length_drop]<;>omega) ?_))))))))))))
 refine Qad (Qae (Qab (Qaa (Qaf (.slice b 1 c2) (Qaa (Qa8 (V:=I6 (1:Int)) (V':=I6 1) (Qa5 (n:=1) QbK (hvo _ _ Y) (by simp) rfl ⟨rfl,rfl⟩) rfl (Qaa (Qam (I6 1) (Qad (Qae (Qae (Qab (Qaa (Qaf (I6 1) (Qaa (Qa8 (V:=.bool (decide ((1:Int)=0))) (V':=.bool false) (QaT rfl rfl ⟨rfl,rfl⟩) (congrArg Value.bool (by decide)) (Qad (Qce rfl ?_))))))))))))))))))
 refine Qap (Qae (Qab (Qaa (Qaf (.slice a l.length c) (Qaa (Qa5 (n:=l.length) QbK (Y.rd 0 rfl) (by simp) rfl (Qaa (Qam (I6 ((l.length:Nat):Int)) (Qad (Qae (Qae (Qab (Qaa (Qaf (I6 (i:Int)) (Qaa (Qaf (I6 ((l.length:Nat):Int)) (Qaa (QaT rfl rfl (Qad (Qak (t:=decide ((i:Int)=((l.length:Nat):Int))) rfl (fun c1=>?_) (fun c1=>?_)))))))))))))))))))))
 ·
  replace c1:=QQ1 c1
  refine Qae (Qab (Qaa (Qaf (.slice a l.length c) (Qaa (Qaf (.slice b 1 c2) (Qaa (Qdj (ls':=(l++[x]).map cec) (n:=(l++[x]).length) QfD Y 0 rfl rfl rfl (hvo _ _ Y) (QaW Qby _) (by simp only [QQ6,QQ7,List.length_cons,List.length_nil];omega) (by simp) (by simp) fun a2 c2 w3 Y=>(Qaa (Qam (.slice a2 ((l++[x]).length) c2) (Qad (Qav ?_)))))))))))
  refine ⟨_,Qan (V:=.slice a2 ((l++[x]).length) c2) results121 rfl,?_⟩
  have hX:l++[x]=QdN l i x:=Qlf (by omega)
  rw [hX] at Y
  exact ⟨(a2,c2),by rw [← hX],Y.only 0 rfl,trivial⟩
 replace c1:=QQ2 c1
 refine Qap (Qae (Qae (Qab (Qaa (Qaf (I6 ((l.length:Nat):Int)) (Qaa (Qaf (I6 1) (Qaa (QaB (a:=((l.length:Nat):Int)) (b:=1) (c:=((l.length+1:Nat):Int)) rfl rfl (Qaj (by omega) (by omega)) (Qaa (Qaf (.slice a l.length c) (Qaa (Qr3 QbK rfl (Qaa (Qca rfl rfl (Qad (Qak (t:=decide ((c:Int)<((l.length+1:Nat):Int))) rfl (fun c4=>?_) (fun c4=>?_))))))))))))))))))
 ·
  replace c4:=QQ1 c4
  refine Qae (Qab (Qaa (Qaf (.slice a l.length c) (Qaa (Qaf (I6 (i:Int)) (Qaa (Qed (l:=0) (h:=i) (n':=i) Qdi QaF.1 (by omega) rfl (.inl ⟨rfl,rfl⟩) (.inr ⟨_,_,rfl,rfl⟩) (by omega) (by omega) (by omega) (Qaa (Qaf (I6 ((l.length:Nat):Int)) (Qaa (Qaf (I6 1) (Qaa (QaB (a:=((l.length:Nat):Int)) (b:=1) (c:=((l.length+1:Nat):Int)) rfl rfl (Qaj (by omega) (by omega)) (Qaa (Qaf (I6 (i:Int)) (Qaa (Qbb (a:=((l.length+1:Nat):Int)) (b:=(i:Int)) (c:=(((l.length+1)-i:Nat):Int)) rfl rfl (Qaj (by omega) (by omega)) (Qaa (QrB (zl:=cec (⟨0,0,0,0,(⟨0,0⟩:Dot),0⟩:Cen)) (ls':=(l.take i++List.replicate ((l.length+1)-i) (⟨0,0,0,0,(⟨0,0⟩:Dot),0⟩:Cen)).map cec) QfD QuI (.inl Qgb) Y (Y.rd 0 rfl) rfl rfl (by rw [QQ6];omega) (by rw [QQ6];omega) (by omega) (by omega) (QaW Qby _) (Qby _) rfl (by omega) (by simp only [List.map_append,List.map_take,List.map_replicate]) (l.take i++List.replicate ((l.length+1)-i) (⟨0,0,0,0,(⟨0,0⟩:Dot),0⟩:Cen)).length (by rw [QQ6]) fun a5 c5 w6 Y=>(Qaa (Qam (.slice a5 ((l.take i++List.replicate ((l.length+1)-i) (⟨0,0,0,0,(⟨0,0⟩:Dot),0⟩:Cen)).length) c5) (Qad (Qae ?_)))))))))))))))))))))))
  have hq9:(l.take i++List.replicate ((l.length+1)-i) (⟨0,0,0,0,(⟨0,0⟩:Dot),0⟩:Cen)).length=l.length+1:=by simp only [QQ7,List.length_take,List.length_replicate];omega
  have hr9:=(Y.rd 1 rfl).roomM
  refine Qab (Qaa (Qaf (.slice a5 ((l.take i++List.replicate ((l.length+1)-i) (⟨0,0,0,0,(⟨0,0⟩:Dot),0⟩:Cen)).length) c5) (Qaa (Qaf (I6 (i:Int)) (Qaa (Qed (l:=i) (h:=(l.take i++List.replicate ((l.length+1)-i) (⟨0,0,0,0,(⟨0,0⟩:Dot),0⟩:Cen)).length) (n':=((l.take i++List.replicate ((l.length+1)-i) (⟨0,0,0,0,(⟨0,0⟩:Dot),0⟩:Cen)).length)-i) Qdi QaF.1 (by omega) rfl (.inr ⟨_,_,rfl,rfl⟩) (.inl ⟨rfl,rfl⟩) (by omega) (by omega) (by omega) (Qaa (Qaf (.slice b 1 c2) (Qaa (QdC (lo:=i) (ms:=[x].map cec) (ls':=((l.take i++List.replicate ((l.length+1)-i) (⟨0,0,0,0,(⟨0,0⟩:Dot),0⟩:Cen)).take i++[x]++(l.take i++List.replicate ((l.length+1)-i) (⟨0,0,0,0,(⟨0,0⟩:Dot),0⟩:Cen)).drop (i+[x].length)).map cec) (n':=((l.take i++List.replicate ((l.length+1)-i) (⟨0,0,0,0,(⟨0,0⟩:Dot),0⟩:Cen)).take i++[x]++(l.take i++List.replicate ((l.length+1)-i) (⟨0,0,0,0,(⟨0,0⟩:Dot),0⟩:Cen)).drop (i+[x].length)).length) QfD Y 1 rfl rfl rfl (by simp only [QQ6,List.length_drop,List.length_take,List.length_cons,List.length_nil,QQ7,List.length_replicate];omega) (Rd.srcs (hvo _ _ Y)) (Qbn (enc:=cec) (fun _=>rfl) _) (QaW Qby _) (by simp only [QQ6,List.length_drop,List.length_take,List.length_cons,List.length_nil,QQ7,List.length_replicate];omega) (by simp only [QQ6,List.length_drop,List.length_take,List.length_cons,List.length_nil,QQ7,List.length_replicate];omega) (by simp only [List.map_append,List.map_take,List.map_drop,List.map_cons,List.map_nil,QQ6,List.length_drop,List.length_take,List.length_cons,List.length_nil]) (by rw [QQ6]) fun w7 Y=>(Qad (Qae (QaH HM (so 46 9) [] [0,0,0,6,15,0,0,96,255] [pv (.slice a5 ((l.take i++List.replicate ((l.length+1)-i) (⟨0,0,0,0,(⟨0,0⟩:Dot),0⟩:Cen)).length) c5),pv (I6 (i:Int)),pv (I6 1),pv (I6 ((i+1:Nat):Int)),pv (.slice (sla a5 (i+1) c5 7) (((l.take i++List.replicate ((l.length+1)-i) (⟨0,0,0,0,(⟨0,0⟩:Dot),0⟩:Cen)).length)-(i+1)) (c5-(i+1))),pv (.slice a l.length c),pv (I6 (i:Int)),pv (.slice (sla a i c 7) ((l.drop i).length) (c-i)),pv (I6 (((List.map cec (l.drop i)).length:Nat):Int))] (fun D J=>[row (.slice a l.length c) (l.map cec) 106 7,cond (D 8) (row (.slice a5 ((((l.take i++List.replicate ((l.length+1)-i) (⟨0,0,0,0,(⟨0,0⟩:Dot),0⟩:Cen)).take i++[x]++(l.take i++List.replicate ((l.length+1)-i) (⟨0,0,0,0,(⟨0,0⟩:Dot),0⟩:Cen)).drop (i+[x].length)).take (i+1)++l.drop i++((l.take i++List.replicate ((l.length+1)-i) (⟨0,0,0,0,(⟨0,0⟩:Dot),0⟩:Cen)).take i++[x]++(l.take i++List.replicate ((l.length+1)-i) (⟨0,0,0,0,(⟨0,0⟩:Dot),0⟩:Cen)).drop (i+[x].length)).drop (i+1+(l.drop i).length)).length) c5) ((((l.take i++List.replicate ((l.length+1)-i) (⟨0,0,0,0,(⟨0,0⟩:Dot),0⟩:Cen)).take i++[x]++(l.take i++List.replicate ((l.length+1)-i) (⟨0,0,0,0,(⟨0,0⟩:Dot),0⟩:Cen)).drop (i+[x].length)).take (i+1)++l.drop i++((l.take i++List.replicate ((l.length+1)-i) (⟨0,0,0,0,(⟨0,0⟩:Dot),0⟩:Cen)).take i++[x]++(l.take i++List.replicate ((l.length+1)-i) (⟨0,0,0,0,(⟨0,0⟩:Dot),0⟩:Cen)).drop (i+[x].length)).drop (i+1+(l.drop i).length)).map cec) 106 7) (row (.slice a5 (((l.take i++List.replicate ((l.length+1)-i) (⟨0,0,0,0,(⟨0,0⟩:Dot),0⟩:Cen)).take i++[x]++(l.take i++List.replicate ((l.length+1)-i) (⟨0,0,0,0,(⟨0,0⟩:Dot),0⟩:Cen)).drop (i+[x].length)).length) c5) (((l.take i++List.replicate ((l.length+1)-i) (⟨0,0,0,0,(⟨0,0⟩:Dot),0⟩:Cen)).take i++[x]++(l.take i++List.replicate ((l.length+1)-i) (⟨0,0,0,0,(⟨0,0⟩:Dot),0⟩:Cen)).drop (i+[x].length)).map cec) 106 7)]) [] (by kernel_rfl) Y ⟨?_,?_,?_,?_,?_,?_,?_,?_,?_,trivial⟩ ?_)))))))))))))
  ·exact oi [] fun Y=>Qaf (.slice a5 ((l.take i++List.replicate ((l.length+1)-i) (⟨0,0,0,0,(⟨0,0⟩:Dot),0⟩:Cen)).length) c5) (Zz Y)
  ·exact oi [] fun Y=>Qaf (.int .i64 (i:Int)) (Zz Y)
  ·exact oi [] fun Y=>Qaf (.int .i64 1) (Zz Y)
  ·exact oi [1,2] fun Y=>QaB (a:=(i:Int)) (b:=1) (c:=((i+1:Nat):Int)) rfl rfl (Qaj (by omega) (by omega)) (Zz Y)
  ·exact oi [0,3] fun Y=>Qed (l:=i+1) (h:=(l.take i++List.replicate ((l.length+1)-i) (⟨0,0,0,0,(⟨0,0⟩:Dot),0⟩:Cen)).length) (n':=((l.take i++List.replicate ((l.length+1)-i) (⟨0,0,0,0,(⟨0,0⟩:Dot),0⟩:Cen)).length)-(i+1)) Qdi QaF.1 (by omega) rfl (.inr ⟨_,_,rfl,rfl⟩) (.inl ⟨rfl,rfl⟩) (by omega) (by omega) (by omega) (Zz Y)
  ·exact oi [] fun Y=>Qaf (.slice a l.length c) (Zz Y)
  ·exact oi [] fun Y=>Qaf (.int .i64 (i:Int)) (Zz Y)
  ·exact oi [5,6] fun Y=>QlO (l:=i) (h:=l.length) (m:=c) (n':=(l.drop i).length) Qdi QaF.1 (Y.rd 0 rfl) rfl (.inr ⟨_,_,rfl,rfl⟩) (.inl ⟨rfl,rfl⟩) (.inl ⟨rfl,rfl⟩) (by omega) (by omega) (Nat.le_trans (show l.length<=l.length by omega) (Rd.roomM (Y.rd 0 rfl))) (Nat.le_refl _) (by simp only [List.length_take,List.length_drop]<;>omega) (Zz Y)
  ·exact oi [4,7] fun Y=>QdC (lo:=i+1) (ms:=(l.drop i).map cec) (ls':=(((l.take i++List.replicate ((l.length+1)-i) (⟨0,0,0,0,(⟨0,0⟩:Dot),0⟩:Cen)).take i++[x]++(l.take i++List.replicate ((l.length+1)-i) (⟨0,0,0,0,(⟨0,0⟩:Dot),0⟩:Cen)).drop (i+[x].length)).take (i+1)++l.drop i++((l.take i++List.replicate ((l.length+1)-i) (⟨0,0,0,0,(⟨0,0⟩:Dot),0⟩:Cen)).take i++[x]++(l.take i++List.replicate ((l.length+1)-i) (⟨0,0,0,0,(⟨0,0⟩:Dot),0⟩:Cen)).drop (i+[x].length)).drop (i+1+(l.drop i).length)).map cec) (n':=(((l.take i++List.replicate ((l.length+1)-i) (⟨0,0,0,0,(⟨0,0⟩:Dot),0⟩:Cen)).take i++[x]++(l.take i++List.replicate ((l.length+1)-i) (⟨0,0,0,0,(⟨0,0⟩:Dot),0⟩:Cen)).drop (i+[x].length)).take (i+1)++l.drop i++((l.take i++List.replicate ((l.length+1)-i) (⟨0,0,0,0,(⟨0,0⟩:Dot),0⟩:Cen)).take i++[x]++(l.take i++List.replicate ((l.length+1)-i) (⟨0,0,0,0,(⟨0,0⟩:Dot),0⟩:Cen)).drop (i+[x].length)).drop (i+1+(l.drop i).length)).length) QfD Y 1 rfl rfl rfl (by simp only [QQ6,List.length_drop,List.length_take,List.length_cons,List.length_nil,QQ7,List.length_replicate];omega) (Rd.srcs (Rd.dropM (Y.rd 0 rfl) i hi _ rfl)) (Qbn (enc:=cec) (fun _=>rfl) _) (QaW Qby _) (by simp only [QQ6,List.length_drop,List.length_take,List.length_cons,List.length_nil,QQ7,List.length_replicate];omega) (by simp only [QQ6,List.length_drop,List.length_take,List.length_cons,List.length_nil,QQ7,List.length_replicate];omega) (by simp only [List.map_append,List.map_take,List.map_drop,List.map_cons,List.map_nil,QQ6,List.length_drop,List.length_take,List.length_cons,List.length_nil]) (by rw [QQ6]) fun _ Y=>⟨rfl,Y⟩
  rintro J1 w9 J2 hJ Y
  replace hJ:J2=mix (sq 46 9) J1 _:=hJ
  replace Y:Own w S w9 [row (.slice a l.length c) (l.map cec) 106 7,row (.slice a5 ((((l.take i++List.replicate ((l.length+1)-i) (⟨0,0,0,0,(⟨0,0⟩:Dot),0⟩:Cen)).take i++[x]++(l.take i++List.replicate ((l.length+1)-i) (⟨0,0,0,0,(⟨0,0⟩:Dot),0⟩:Cen)).drop (i+[x].length)).take (i+1)++l.drop i++((l.take i++List.replicate ((l.length+1)-i) (⟨0,0,0,0,(⟨0,0⟩:Dot),0⟩:Cen)).take i++[x]++(l.take i++List.replicate ((l.length+1)-i) (⟨0,0,0,0,(⟨0,0⟩:Dot),0⟩:Cen)).drop (i+[x].length)).drop (i+1+(l.drop i).length)).length) c5) ((((l.take i++List.replicate ((l.length+1)-i) (⟨0,0,0,0,(⟨0,0⟩:Dot),0⟩:Cen)).take i++[x]++(l.take i++List.replicate ((l.length+1)-i) (⟨0,0,0,0,(⟨0,0⟩:Dot),0⟩:Cen)).drop (i+[x].length)).take (i+1)++l.drop i++((l.take i++List.replicate ((l.length+1)-i) (⟨0,0,0,0,(⟨0,0⟩:Dot),0⟩:Cen)).take i++[x]++(l.take i++List.replicate ((l.length+1)-i) (⟨0,0,0,0,(⟨0,0⟩:Dot),0⟩:Cen)).drop (i+[x].length)).drop (i+1+(l.drop i).length)).map cec) 106 7]:=Y
  subst hJ
  refine Qae (Qab (Qaa (Qaf (.slice a5 ((l.take i++List.replicate ((l.length+1)-i) (⟨0,0,0,0,(⟨0,0⟩:Dot),0⟩:Cen)).length) c5) (Qaa (Qam (.slice a5 ((l.take i++List.replicate ((l.length+1)-i) (⟨0,0,0,0,(⟨0,0⟩:Dot),0⟩:Cen)).length) c5) (Qad (Qav ?_)))))))
  refine ⟨_,Qan (V:=.slice a5 ((l.take i++List.replicate ((l.length+1)-i) (⟨0,0,0,0,(⟨0,0⟩:Dot),0⟩:Cen)).length) c5) results121 rfl,?_⟩
  have hX:((l.take i++List.replicate ((l.length+1)-i) (⟨0,0,0,0,(⟨0,0⟩:Dot),0⟩:Cen)).take i++[x]++(l.take i++List.replicate ((l.length+1)-i) (⟨0,0,0,0,(⟨0,0⟩:Dot),0⟩:Cen)).drop (i+[x].length)).take (i+1)++l.drop i++((l.take i++List.replicate ((l.length+1)-i) (⟨0,0,0,0,(⟨0,0⟩:Dot),0⟩:Cen)).take i++[x]++(l.take i++List.replicate ((l.length+1)-i) (⟨0,0,0,0,(⟨0,0⟩:Dot),0⟩:Cen)).drop (i+[x].length)).drop (i+1+(l.drop i).length)=QdN l i x:=Qkq hi
  rw [hX] at Y
  exact ⟨(a5,c5),by rw [hq9,Qgu hi],Y.only 1 rfl,trivial⟩
 replace c4:=QQ2 c4
 refine Qap (Qae (Qab (Qaa (Qaf (.slice a l.length c) (Qaa (Qaf (I6 ((l.length:Nat):Int)) (Qaa (Qaf (I6 1) (Qaa (QaB (a:=((l.length:Nat):Int)) (b:=1) (c:=((l.length+1:Nat):Int)) rfl rfl (Qaj (by omega) (by omega)) (Qaa (Qa8 (V:=.slice (sla a 0 c 7) (l.length+1) (c-0)) (V':=.slice a (l.length+1) c) (Qed (l:=0) (h:=l.length+1) (n':=l.length+1) Qdi QaF.1 (by omega) rfl (.inl ⟨rfl,rfl⟩) (.inr ⟨_,_,rfl,rfl⟩) (by omega) (by omega) (by omega) ⟨rfl,rfl⟩) (by rw [QfI];rfl) (Qaa (Qam (.slice a (l.length+1) c) (Qad (Qae (Qae (Qab (Qaa (Qaf (.slice b 1 c2) (Qaa (Qaf (.slice a (l.length+1) c) (Qaa (Qaf (I6 (i:Int)) (Qaa (Qaf (I6 1) (Qaa (QaB (a:=(i:Int)) (b:=1) (c:=((i+1:Nat):Int)) rfl rfl (Qaj (by omega) (by omega)) (Qaa (Qed (l:=i+1) (h:=l.length+1) (n':=(l.length+1)-(i+1)) Qdi QaF.1 (by omega) rfl (.inr ⟨_,_,rfl,rfl⟩) (.inl ⟨rfl,rfl⟩) (by omega) (by omega) (by omega) (Qaa (Qn3 (f:=154) (tR:=4) (lo:=i+1) func154 (by kernel_rfl) (by kernel_rfl) (by kernel_rfl) (by kernel_rfl) Qdi QaF.1 rfl Y 0 rfl (by rw [QQ6];omega) (by decide) rfl (hpl.own Y hnS) hnS hvb (by omega) rfl (Qaa (QbB rfl (Qad (QcO rfl ?_))))))))))))))))))))))))))))))))))))
 refine Qae (QaH HM (so 69 9) [] [0,0,0,6,15,0,0,96,255] [pv (.slice a (l.length+1) c),pv (I6 (i:Int)),pv (I6 1),pv (I6 ((i+1:Nat):Int)),pv (.slice (sla a (i+1) c 7) ((l.length+1)-(i+1)) (c-(i+1))),pv (.slice a (l.length+1) c),pv (I6 (i:Int)),pv (.slice (sla a i c 7) ((l.length+1)-i) (c-i)),pv (I6 (((List.map cec (l.drop i)).length:Nat):Int))] (fun D J=>[cond (D 8) (row (.slice a ((l.take (i+1)++l.drop i++l.drop (i+1+(l.drop i).length)).length) c) ((l.take (i+1)++l.drop i++l.drop (i+1+(l.drop i).length)).map cec) 106 7) (row (.slice a l.length c) (l.map cec) 106 7)]) [] (by kernel_rfl) Y ⟨?_,?_,?_,?_,?_,?_,?_,?_,?_,trivial⟩ ?_)
 ·exact oi [] fun Y=>Qaf (.slice a (l.length+1) c) (Zz Y)
 ·exact oi [] fun Y=>Qaf (.int .i64 (i:Int)) (Zz Y)
 ·exact oi [] fun Y=>Qaf (.int .i64 1) (Zz Y)
 ·exact oi [1,2] fun Y=>QaB (a:=(i:Int)) (b:=1) (c:=((i+1:Nat):Int)) rfl rfl (Qaj (by omega) (by omega)) (Zz Y)
 ·exact oi [0,3] fun Y=>Qed (l:=i+1) (h:=l.length+1) (n':=(l.length+1)-(i+1)) Qdi QaF.1 (by omega) rfl (.inr ⟨_,_,rfl,rfl⟩) (.inl ⟨rfl,rfl⟩) (by omega) (by omega) (by omega) (Zz Y)
 ·exact oi [] fun Y=>Qaf (.slice a (l.length+1) c) (Zz Y)
 ·exact oi [] fun Y=>Qaf (.int .i64 (i:Int)) (Zz Y)
 ·exact oi [5,6] fun Y=>Qed (l:=i) (h:=l.length+1) (n':=(l.length+1)-i) Qdi QaF.1 (by omega) rfl (.inr ⟨_,_,rfl,rfl⟩) (.inl ⟨rfl,rfl⟩) (by omega) (by omega) (by omega) (Zz Y)
 ·exact oi [4,7] fun Y=>QdC (lo:=i+1) (ms:=(l.drop i).map cec) (ls':=(l.take (i+1)++l.drop i++l.drop (i+1+(l.drop i).length)).map cec) (n':=(l.take (i+1)++l.drop i++l.drop (i+1+(l.drop i).length)).length) QfD Y 0 rfl rfl rfl (by simp only [QQ6,List.length_drop,List.length_take,List.length_cons,List.length_nil,QQ7,List.length_replicate];omega) (Rd.srcs (Rd.dropM (Y.rd 0 rfl) i hi _ rfl)) (Qbn (enc:=cec) (fun _=>rfl) _) (QaW Qby _) (by simp only [QQ6,List.length_drop,List.length_take,List.length_cons,List.length_nil,QQ7,List.length_replicate];omega) (by simp only [QQ6,List.length_drop,List.length_take,List.length_cons,List.length_nil,QQ7,List.length_replicate];omega) (by simp only [List.map_append,List.map_take,List.map_drop,List.map_cons,List.map_nil,QQ6,List.length_drop,List.length_take,List.length_cons,List.length_nil]) (by rw [QQ6]) fun _ Y=>⟨rfl,Y⟩
 rintro J1 w11 J2 hJ Y
 replace hJ:J2=mix (sq 69 9) J1 _:=hJ
 replace Y:Own w S w11 [row (.slice a ((l.take (i+1)++l.drop i++l.drop (i+1+(l.drop i).length)).length) c) ((l.take (i+1)++l.drop i++l.drop (i+1+(l.drop i).length)).map cec) 106 7]:=Y
 subst hJ
 refine Qae (Qab (Qaa (Qaf (.slice a (l.length+1) c) (Qaa (Qaf (I6 (i:Int)) (Qaa (Qed (l:=i) (h:=l.length+1) (n':=(l.length+1)-i) Qdi QaF.1 (by omega) rfl (.inr ⟨_,_,rfl,rfl⟩) (.inl ⟨rfl,rfl⟩) (by omega) (by omega) (by omega) (Qaa (Qaf (.slice b 1 c2) (Qaa (QdC (lo:=i) (ms:=[x].map cec) (ls':=((l.take (i+1)++l.drop i++l.drop (i+1+(l.drop i).length)).take i++[x]++(l.take (i+1)++l.drop i++l.drop (i+1+(l.drop i).length)).drop (i+[x].length)).map cec) (n':=((l.take (i+1)++l.drop i++l.drop (i+1+(l.drop i).length)).take i++[x]++(l.take (i+1)++l.drop i++l.drop (i+1+(l.drop i).length)).drop (i+[x].length)).length) QfD Y 0 rfl rfl rfl (by simp only [QQ6,List.length_drop,List.length_take,List.length_cons,List.length_nil,QQ7,List.length_replicate];omega) (Rd.srcs (hvo _ _ Y)) (Qbn (enc:=cec) (fun _=>rfl) _) (QaW Qby _) (by simp only [QQ6,List.length_drop,List.length_take,List.length_cons,List.length_nil,QQ7,List.length_replicate];omega) (by simp only [QQ6,List.length_drop,List.length_take,List.length_cons,List.length_nil,QQ7,List.length_replicate];omega) (by simp only [List.map_append,List.map_take,List.map_drop,List.map_cons,List.map_nil,QQ6,List.length_drop,List.length_take,List.length_cons,List.length_nil]) (by rw [QQ6]) fun w12 Y=>(Qad (Qae (Qab (Qaa (Qaf (.slice a (l.length+1) c) (Qaa (Qam (.slice a (l.length+1) c) (Qad (Qav ?_))))))))))))))))))))
 refine ⟨_,Qan (V:=.slice a (l.length+1) c) results121 rfl,?_⟩
 have hX:(l.take (i+1)++l.drop i++l.drop (i+1+(l.drop i).length)).take i++[x]++(l.take (i+1)++l.drop i++l.drop (i+1+(l.drop i).length)).drop (i+[x].length)=QdN l i x:=Qlg (by omega)
 rw [hX] at Y
 exact ⟨(a,c),by rw [Qgu hi],Y.only 0 rfl,trivial⟩
end Tt
end Go.Proofs
namespace Go.Proofs
open Go Go.Vx Go.RowKit
open Tryz
namespace Tt
theorem Qoh (w:World) (s:Sta) (a1:Option Addr) (c1:Nat) (a2:Option Addr) (c2:Nat) (o:Opn) (hO:QbL o) (hok:QdV s) (hle:s.ents.length<=1000) (hlt:s.ticks.length<=1000) (hr1:Rd w (.slice a1 s.ents.length c1) 7 (s.ents.map cec)) (hr2:Rd w (.slice a2 s.ticks.length c2) 2 (s.ticks.map lsc)):Calls prog 72 #[.agg ((vc s.known)++[(.slice a1 s.ents.length c1:Value),(.slice a2 s.ticks.length c2:Value) ]).toArray,.agg (oc o).toArray] w (fun e w'=>∃ x:(Option Addr × Nat) × (Option Addr × Nat),e = .returned (.tuple #[.agg (vc (Qa1 s o).known++[(.slice x.1.1 (Qa1 s o).ents.length x.1.2:Value),(.slice x.2.1 (Qa1 s o).ticks.length x.2.2:Value)]).toArray,.int .i64 (Qc8 s o)])/\Own w no w' [row (.slice x.1.1 (Qa1 s o).ents.length x.1.2) ((Qa1 s o).ents.map cec) 106 7,row (.slice x.2.1 (Qa1 s o).ticks.length x.2.2) ((Qa1 s o).ticks.map lsc) 102 2]/\True):=by
 refine Qah (n:=85) func72 rfl ntmps72 rfl ?_
 have Y:=Own.start w
 have ⟨hdo,_,_,_,_,_,hctx⟩:=hO
 have ⟨hv0,hE0,hT0⟩:=hok
 refine Qae (Qab (Qaa (QaY (V:=.agg ((vc s.known)++[(.slice a1 s.ents.length c1:Value),(.slice a2 s.ticks.length c2:Value) ]).toArray) (cs:=(vc s.known)++[(.slice a1 s.ents.length c1:Value),(.slice a2 s.ticks.length c2:Value) ]) rfl rfl Y fun b1 w2 Y=>(Qaa (QaY (V:=.agg (oc o).toArray) (cs:=oc o) rfl rfl Y fun b3 w4 Y=>(Qaa (QaJ (cs:=(vc vzero)++[(.slice none 0 0:Value),(.slice none 0 0:Value) ]) Qgg rfl Y fun b5 w6 Y=>(Qaa (Qam (I6 0) (Qad (Qae (Qae (Qab (Qaa (QaK (cs:=(vc s.known)++[(.slice a1 s.ents.length c1:Value),(.slice a2 s.ticks.length c2:Value) ]) Qb4 Y 0 rfl rfl rfl (Qaa (Qas (vs:=[.agg ((vc s.known)++[(.slice a1 s.ents.length c1:Value),(.slice a2 s.ticks.length c2:Value) ]).toArray]) (V:=.bool (Qaw s)) Qqo rfl rfl ?hc Y fun w7 Y=>?_)))))))))))))))))
 case hc=>exact (Qfb _ s a1 c1 a2 c2 hok (by omega) (by omega) (Rd.own' hr1 Y) (Rd.own' hr2 Y))
 refine Qaa (QbB rfl (Qad (Qak (t:=!(Qaw s)) rfl (fun c8=>?_) (fun c8=>?_))))
 ·
  replace c8:=QbE c8
  refine Qae (Qab (Qaa (QcQ (vs:=[]) (cs:=(vc vzero)++[(.slice none 0 0:Value),(.slice none 0 0:Value) ]) [vc vzero,[(.slice none 0 0:Value)],[(.slice none 0 0:Value)]] [vc vzero,[(.slice none 0 0:Value)],[(.slice none 0 0:Value)]] QnW rfl (rfl) rfl rfl (Qaa (Qcz (V:=.agg ((vc vzero)++[(.slice none 0 0:Value),(.slice none 0 0:Value) ]).toArray) (vs:=(vc vzero)++[(.slice none 0 0:Value),(.slice none 0 0:Value) ]) (cs':=(vc vzero)++[(.slice none 0 0:Value),(.slice none 0 0:Value) ]) Qb4.1 Y 2 rfl rfl rfl rfl rfl (QQ8 rfl) (Qbq (Qb0 _) (Qat rfl (Qat rfl Qa2))) (Qaz rfl) fun w9 Y=>?_)))))
  replace Y:=Ow [blk b1 ((vc s.known)++[(.slice a1 s.ents.length c1:Value),(.slice a2 s.ticks.length c2:Value) ]) 38,blk b3 (oc o) 98,blk b5 ((vc vzero)++[(.slice none 0 0:Value),(.slice none 0 0:Value) ]) 38] Y
  refine Qaa (Qam (I6 2) (Qad (Qav ?_)))
  refine ⟨_,Qct (cs:=(vc vzero)++[(.slice none 0 0:Value),(.slice none 0 0:Value) ]) (V:=I6 2) results72 Qb4 Y 2 rfl rfl rfl rfl,?_⟩
  have hI:Qc8 s o=2:=by unfold Qc8;rw [if_neg (by rw [c8];decide)]
  have hR:Qa1 s o=szero:=by unfold Qa1;rw [if_neg (by rw [hI];decide)]
  rw [hI,hR]
  exact ⟨((none,0),(none,0)),rfl,((Y.take 0).more _ (Qbi _ _ 106 7)).more _ (Qbi _ _ 102 2),trivial⟩
 replace c8:=Qbd c8
 refine Qap (Qae (Qae (Qab (Qaa (Qac Qeo rfl (Qaa (QbT (vs:=vc s.known) QbC Y 0 rfl rfl rfl rfl (Qaa (QaK (cs:=oc o) Qa3 Y 1 rfl rfl rfl (Qaa (Qas (vs:=[.agg (vc s.known).toArray,.agg (oc o).toArray]) (V:=I6 (QbM s.known o)) QwC rfl rfl ?hc Y fun w10 Y=>?_)))))))))))
 case hc=>exact (Qot _ s.known o (by assumption))
 refine Qaa (Qam (I6 (QbM s.known o)) (Qad (Qae (Qab (Qaa (Qaf (I6 (QbM s.known o)) (Qaa (Qck rfl rfl (Qad (Qak (t:=!decide (QbM s.known o=0)) rfl (fun c11=>?_) (fun c11=>?_)))))))))))
 ·
  replace c11:=QbE c11
  replace c11:=QQ2 c11
  refine Qae (Qab (Qaa (QcQ (vs:=[]) (cs:=(vc vzero)++[(.slice none 0 0:Value),(.slice none 0 0:Value) ]) [vc vzero,[(.slice none 0 0:Value)],[(.slice none 0 0:Value)]] [vc vzero,[(.slice none 0 0:Value)],[(.slice none 0 0:Value)]] QnW rfl (rfl) rfl rfl (Qaa (Qaf (I6 (QbM s.known o)) (Qaa (Qcz (V:=.agg ((vc vzero)++[(.slice none 0 0:Value),(.slice none 0 0:Value) ]).toArray) (vs:=(vc vzero)++[(.slice none 0 0:Value),(.slice none 0 0:Value) ]) (cs':=(vc vzero)++[(.slice none 0 0:Value),(.slice none 0 0:Value) ]) Qb4.1 Y 2 rfl rfl rfl rfl rfl (QQ8 rfl) (Qbq (Qb0 _) (Qat rfl (Qat rfl Qa2))) (Qaz rfl) fun w12 Y=>?_)))))))
  replace Y:=Ow [blk b1 ((vc s.known)++[(.slice a1 s.ents.length c1:Value),(.slice a2 s.ticks.length c2:Value) ]) 38,blk b3 (oc o) 98,blk b5 ((vc vzero)++[(.slice none 0 0:Value),(.slice none 0 0:Value) ]) 38] Y
  refine Qaa (Qam (I6 (QbM s.known o)) (Qad (Qav ?_)))
  refine ⟨_,Qct (cs:=(vc vzero)++[(.slice none 0 0:Value),(.slice none 0 0:Value) ]) (V:=I6 (QbM s.known o)) results72 Qb4 Y 2 rfl rfl rfl rfl,?_⟩
  have hI:Qc8 s o=QbM s.known o:=by unfold Qc8;rw [if_pos c8]
  have hR:Qa1 s o=szero:=by unfold Qa1;rw [if_neg (by rw [hI];exact c11)]
  rw [hI,hR]
  exact ⟨((none,0),(none,0)),rfl,((Y.take 0).more _ (Qbi _ _ 106 7)).more _ (Qbi _ _ 102 2),trivial⟩
 replace c11:=Qbd c11
 replace c11:=QQ1 c11
 refine Qap (Qae (Qab (Qaa (QaK (cs:=(vc s.known)++[(.slice a1 s.ents.length c1:Value),(.slice a2 s.ticks.length c2:Value) ]) Qb4 Y 0 rfl rfl rfl (Qaa (Qbr (α:=(Option Addr × Nat) × (Option Addr × Nat)) (vs:=[.agg ((vc s.known)++[(.slice a1 s.ents.length c1:Value),(.slice a2 s.ticks.length c2:Value) ]).toArray]) QvJ rfl rfl (Qtz _ s a1 c1 a2 c2 hok (by omega) (by omega) (Rd.own' hr1 Y) (Rd.own' hr2 Y)) Y fun x13 w14 Y _=>?_))))))
 replace Y:=Ow [blk b1 ((vc s.known)++[(.slice a1 s.ents.length c1:Value),(.slice a2 s.ticks.length c2:Value) ]) 38,blk b3 (oc o) 98,blk b5 ((vc vzero)++[(.slice none 0 0:Value),(.slice none 0 0:Value) ]) 38,row (.slice x13.1.1 s.ents.length x13.1.2) (s.ents.map cec) 106 7,row (.slice x13.2.1 s.ticks.length x13.2.2) (s.ticks.map lsc) 102 2] Y
 refine Qaa (QaJ (cs:=(vc vzero)++[(.slice none 0 0:Value),(.slice none 0 0:Value) ]) Qgg rfl Y fun b15 w16 Y=>(Qaa (Qcz (V:=.agg ((vc s.known)++[(.slice x13.1.1 s.ents.length x13.1.2:Value),(.slice x13.2.1 s.ticks.length x13.2.2:Value) ]).toArray) (vs:=(vc s.known)++[(.slice x13.1.1 s.ents.length x13.1.2:Value),(.slice x13.2.1 s.ticks.length x13.2.2:Value) ]) (cs':=(vc s.known)++[(.slice x13.1.1 s.ents.length x13.1.2:Value),(.slice x13.2.1 s.ticks.length x13.2.2:Value) ]) Qb4.1 Y 5 rfl rfl rfl rfl rfl (QQ8 rfl) (Qbq (Qb0 _) (Qat rfl (Qat rfl Qa2))) (Qaz rfl) fun w17 Y=>(Qad (Qae ?_)))))
 have hrc:=Qc2.1 c8
 have hrd:=QhO hO c11
 have ⟨hd0,hd1,hd2,hd3⟩:=hrd.1
 have hfd:=QnQ hrc hrd.2
 refine Qab (Qaa (Qac Qa7 rfl (Qaa (Qac QbJ rfl (Qaa (QaN (.int .u8 o.dot.rep) QcI Y 1 (Qaa (Qac Qa7 rfl (Qaa (Qac QbN rfl (Qaa (QaN (.int .u32 o.dot.seq) QaU Y 1 (Qaa (Qac Qeo rfl (Qaa (Qb2 Qd0 QaU.1 rfl rfl (by omega) (by omega) (Qaa (Qcs (V:=.int .u32 o.dot.seq) (cs':=(vc (vset s.known o.dot.rep.toNat o.dot.seq))++[(.slice x13.1.1 s.ents.length x13.1.2:Value),(.slice x13.2.1 s.ticks.length x13.2.2:Value) ]) QaU Y 5 rfl rfl rfl rfl (Qwy (by omega)) (QtR (by omega) (by omega)) fun w18 Y=>(Qad (Qae (Qab (Qaa (Qac Qdx rfl (Qaa (QaN (.slice x13.1.1 s.ents.length x13.1.2) QgK Y 5 (Qaa (QcL (cs:=[Pq b3 0]) rfl rfl (Qaa (Qtn (α:=Unit) (vs:=[.slice x13.1.1 s.ents.length x13.1.2,.func (.func 117) #[] #[Pq b3 0]]) (V:=fun _=>.slice x13.1.1 (s.ents.filter fun x=>!(fun x=>Qay o (QaG x)) x).length x13.1.2) (R:=row (.slice x13.1.1 s.ents.length x13.1.2) (s.ents.map cec) 106 7) (R':=fun _=>row (.slice x13.1.1 (s.ents.filter fun x=>!(fun x=>Qay o (QaG x)) x).length x13.1.2) ((s.ents.filter fun x=>!(fun x=>Qay o (QaG x)) x).map cec) 106 7) (Lo:=fun _=>[]) (F:=fun _ _=>True) Qww rfl rfl Y 3 1 (by decide) rfl rfl (fun S hS hlS hSb hc=>Qi7 _ S x13.1.1 x13.1.2 s.ents 117 [Pq b3 0] Qvz (fun x=>Qay o (QaG x)) (fun w1 L1 h x hx=>Qo5 w1 x o b3 (hE0 x hx).2.2.2.2.1 (hc.own h hSb)) hS hlS) fun _ w19 Y _=>?_)))))))))))))))))))))))))))))
 replace Y:=Ow [blk b1 ((vc s.known)++[(.slice a1 s.ents.length c1:Value),(.slice a2 s.ticks.length c2:Value) ]) 38,blk b3 (oc o) 98,blk b5 ((vc vzero)++[(.slice none 0 0:Value),(.slice none 0 0:Value) ]) 38,row (.slice x13.1.1 ((s.ents.filter fun x=>!(fun x=>Qay o (QaG x)) x).length) x13.1.2) ((s.ents.filter fun x=>!(fun x=>Qay o (QaG x)) x).map cec) 106 7,row (.slice x13.2.1 s.ticks.length x13.2.2) (s.ticks.map lsc) 102 2,blk b15 ((vc (vset s.known o.dot.rep.toNat o.dot.seq))++[(.slice x13.1.1 s.ents.length x13.1.2:Value),(.slice x13.2.1 s.ticks.length x13.2.2:Value) ]) 38] Y
 refine Qaa (Qac Qdx rfl (Qaa (Qcs (V:=.slice x13.1.1 ((s.ents.filter fun x=>!(fun x=>Qay o (QaG x)) x).length) x13.1.2) (cs':=(vc (vset s.known o.dot.rep.toNat o.dot.seq))++[(.slice x13.1.1 ((s.ents.filter fun x=>!(fun x=>Qay o (QaG x)) x).length) x13.1.2:Value),(.slice x13.2.1 s.ticks.length x13.2.2:Value) ]) QgK Y 5 rfl rfl rfl rfl (QQ8 rfl) rfl fun w20 Y=>(Qad (Qae (Qae (Qbv (so 38 13) [] [0,1,3,7,15,31,63,127,255,511,1023,2047,4095] [pv (Pq b3 (0+2)),pv (.int .u8 o.kind),pv (.bool (decide (o.kind=1))),pv (.bool (decide (o.kind=1))),pg ((decide (o.kind=1)) == false) (Pq b3 (0+2)),pg ((decide (o.kind=1)) == false) (.int .u8 o.kind),pg ((decide (o.kind=1)) == false) (.bool (decide (o.kind=2))),pv (.bool ((decide (o.kind=1))||(decide (o.kind=2)))),pv (.bool ((decide (o.kind=1))||(decide (o.kind=2)))),pg (((decide (o.kind=1))||(decide (o.kind=2))) == false) (Pq b3 (0+2)),pg (((decide (o.kind=1))||(decide (o.kind=2))) == false) (.int .u8 o.kind),pg (((decide (o.kind=1))||(decide (o.kind=2))) == false) (.bool (decide (o.kind=4))),pv (.bool (QaX o))] (fun _ _=>_) [12] (by kernel_rfl) Y ⟨?_,?_,?_,?_,?_,?_,?_,?_,?_,?_,?_,?_,?_,trivial⟩ ?_)))))))
 ·exact oi [] fun Y=>Qac Qbz rfl (Zz Y)
 ·exact oi [0] fun Y=>QaN (.int .u8 o.kind) QcI Y 1 (Zz Y)
 ·exact oi [1] fun Y=>QaT rfl rfl (Zz Y)
 ·exact oi [2] fun Y=>Qaf (.bool (decide (o.kind=1))) (Zz Y)
 ·exact ogi [3] fun hG Y=>Qac Qbz rfl (Zz Y)
 ·exact oyi [3,4] [4] fun hG Y=>QaN (.int .u8 o.kind) QcI Y 1 (Zz Y)
 ·exact oyi [3,5] [5] fun hG Y=>QaT rfl rfl (Zz Y)
 ·exact oi [3,6] fun Y=>QbP (h':=decide (o.kind=2)) rfl rfl rfl (Zz Y)
 ·exact oi [7] fun Y=>Qaf (.bool ((decide (o.kind=1))||(decide (o.kind=2)))) (Zz Y)
 ·exact ogi [8] fun hG Y=>Qac Qbz rfl (Zz Y)
 ·exact oyi [8,9] [9] fun hG Y=>QaN (.int .u8 o.kind) QcI Y 1 (Zz Y)
 ·exact oyi [8,10] [10] fun hG Y=>QaT rfl rfl (Zz Y)
 ·exact oi [8,11] fun Y=>Qa8 (V:=.bool (((decide (o.kind=1))||(decide (o.kind=2)))||(decide (o.kind=4)))) (V':=.bool (QaX o)) (QbP (h':=decide (o.kind=4)) rfl rfl rfl ⟨rfl,rfl⟩) (congrArg Value.bool (Qne o)) (Zz Y)
 rintro J1 w21 J2 hJ Y
 replace hJ:J2=upd (mix (sq 38 13) J1 _) 50 (.bool (QaX o)):=hJ
 subst hJ
 refine Qgi (fun J J' w'=>∃ (Jo:Env) (a9:Option Addr) (c9:Nat) (L9:List Cen),J'=mix ([8,9,10]++sq 51 27) Jo J/\(L9=(Qeh s o).ents)/\Own w no w' [blk b1 ((vc s.known)++[(.slice a1 s.ents.length c1:Value),(.slice a2 s.ticks.length c2:Value) ]) 38,blk b3 (oc o) 98,blk b5 ((vc vzero)++[(.slice none 0 0:Value),(.slice none 0 0:Value) ]) 38,row (.slice a9 L9.length c9) (L9.map cec) 106 7,row (.slice x13.2.1 s.ticks.length x13.2.2) (s.ticks.map lsc) 102 2,blk b15 ((vc (vset s.known o.dot.rep.toNat o.dot.seq))++[(.slice a9 L9.length c9:Value),(.slice x13.2.1 s.ticks.length x13.2.2:Value) ]) 38]) ?_ ?_
 ·
  refine Qak (t:=QaX o) rfl (fun c22=>?_) (fun c22=>?_)
  ·
   refine Qae ?_
   replace Y:=Y.more emp trivial
   refine QaH HM (so 51 13++[some 8,none]) [[],[],[],[],[],[],[],[],[],[],[],[],[],[8]] [0,1,0,4,0,16,0,64,0,256,0,1024,4095,0,16383] [pv (Pq b3 (0+3)),pv (I7 o.cart),pv (Pq b3 (0+4)),pv (I7 o.item),pv (Pq b3 (0+5)),pv (I7 o.qty),pv (Pq b3 (0+2)),pv (.int .u8 o.kind),pv (Pq b3 (0+0)),pv (.agg (dc o.dot).toArray),pv (.agg (oc o).toArray),pv (.int .u64 (Qba o)),pv (.agg (cec (⟨o.cart,o.item,o.qty,o.kind,o.dot,Qba o⟩:Cen)).toArray),(true,fun J=>.pointer (some ⟨(bOf (J 8)),0,none⟩)),pn] (fun D J=>[blk b1 ((vc s.known)++[(.slice a1 s.ents.length c1:Value),(.slice a2 s.ticks.length c2:Value) ]) 38,blk b3 (oc o) 98,blk b5 ((vc vzero)++[(.slice none 0 0:Value),(.slice none 0 0:Value) ]) 38,row (.slice x13.1.1 ((s.ents.filter fun x=>!(fun x=>Qay o (QaG x)) x).length) x13.1.2) ((s.ents.filter fun x=>!(fun x=>Qay o (QaG x)) x).map cec) 106 7,row (.slice x13.2.1 s.ticks.length x13.2.2) (s.ticks.map lsc) 102 2,blk b15 ((vc (vset s.known o.dot.rep.toNat o.dot.seq))++[(.slice x13.1.1 ((s.ents.filter fun x=>!(fun x=>Qay o (QaG x)) x).length) x13.1.2:Value),(.slice x13.2.1 s.ticks.length x13.2.2:Value) ]) 38,cond (D 14) (blk (bOf (J 8)) (cec (⟨o.cart,o.item,o.qty,o.kind,o.dot,Qba o⟩:Cen)) 106) (cond (D 13) (blk (bOf (J 8)) (cec (⟨0,0,0,0,(⟨0,0⟩:Dot),0⟩:Cen)) 106) (emp))]) [13] (by kernel_rfl) Y ⟨?_,?_,?_,?_,?_,?_,?_,?_,?_,?_,?_,?_,?_,?_,?_,trivial⟩ ?_
   ·exact oi [] fun Y=>Qac Qc4 rfl (Zz Y)
   ·exact oi [0] fun Y=>QaN (.int .u16 o.cart) Qar Y 1 (Zz Y)
   ·exact oi [] fun Y=>Qac Qcq rfl (Zz Y)
   ·exact oi [2] fun Y=>QaN (.int .u16 o.item) Qar Y 1 (Zz Y)
   ·exact oi [] fun Y=>Qac QcP rfl (Zz Y)
   ·exact oi [4] fun Y=>QaN (.int .u16 o.qty) Qar Y 1 (Zz Y)
   ·exact oi [] fun Y=>Qac Qbz rfl (Zz Y)
   ·exact oi [6] fun Y=>QaN (.int .u8 o.kind) QcI Y 1 (Zz Y)
   ·exact oi [] fun Y=>Qac Qa7 rfl (Zz Y)
   ·exact oi [8] fun Y=>QbT (vs:=dc o.dot) QcV Y 1 rfl rfl rfl rfl (Zz Y)
   ·exact oi [] fun Y=>QaK (cs:=oc o) Qa3 Y 1 rfl rfl rfl (Zz Y)
   ·exact oi [10] fun Y=>Qas (vs:=[.agg (oc o).toArray]) (V:=.int .u64 (Qba o)) Qpz rfl rfl (QfM _ o (by assumption)) Y fun _ Y=>Zz Y
   ·exact oi [1,3,5,7,9,11] fun Y=>QbI (vs:=[(0,.int .u16 o.cart),(1,.int .u16 o.item),(2,.int .u16 o.qty),(3,.int .u8 o.kind),(4,.agg (dc o.dot).toArray),(5,.int .u64 (Qba o))]) (cs:=cec (⟨o.cart,o.item,o.qty,o.kind,o.dot,Qba o⟩:Cen)) QrK (rfl) rfl (Zz Y)
   ·exact ob [] [14] rfl rfl fun D J w Y=>QaJ (cs:=cec (⟨0,0,0,0,(⟨0,0⟩:Dot),0⟩:Cen)) Qgb rfl Y fun _ _ Y=>⟨rfl,Y.put 6 (QQ8 rfl)⟩
   ·exact oi [12,13] fun Y=>Qcz (V:=.agg (cec (⟨o.cart,o.item,o.qty,o.kind,o.dot,Qba o⟩:Cen)).toArray) (vs:=cec (⟨o.cart,o.item,o.qty,o.kind,o.dot,Qba o⟩:Cen)) (cs':=cec (⟨o.cart,o.item,o.qty,o.kind,o.dot,Qba o⟩:Cen)) QaF.1 Y 6 rfl rfl rfl rfl rfl (QQ8 rfl) (Qby _) (Qaz rfl) fun _ Y=>⟨trivial,Y⟩
   rintro J1 w26 J2 hJ Y
   replace hJ:J2=upd (mix (sq 51 13++[8]) J1 _) 8 (.pointer (some ⟨(bOf (J1 8)),0,none⟩)):=hJ
   replace Y:Own w no w26 [blk b1 ((vc s.known)++[(.slice a1 s.ents.length c1:Value),(.slice a2 s.ticks.length c2:Value) ]) 38,blk b3 (oc o) 98,blk b5 ((vc vzero)++[(.slice none 0 0:Value),(.slice none 0 0:Value) ]) 38,row (.slice x13.1.1 ((s.ents.filter fun x=>!(fun x=>Qay o (QaG x)) x).length) x13.1.2) ((s.ents.filter fun x=>!(fun x=>Qay o (QaG x)) x).map cec) 106 7,row (.slice x13.2.1 s.ticks.length x13.2.2) (s.ticks.map lsc) 102 2,blk b15 ((vc (vset s.known o.dot.rep.toNat o.dot.seq))++[(.slice x13.1.1 ((s.ents.filter fun x=>!(fun x=>Qay o (QaG x)) x).length) x13.1.2:Value),(.slice x13.2.1 s.ticks.length x13.2.2:Value) ]) 38,blk (bOf (J1 8)) (cec (⟨o.cart,o.item,o.qty,o.kind,o.dot,Qba o⟩:Cen)) 106]:=Y
   generalize (bOf (J1 8))=b27 at hJ Y
   subst hJ
   refine Qae ?_
   have hfl:=List.length_filter_le (fun x=>!(fun x=>Qay o (QaG x)) x) s.ents
   refine Qab (Qaa (Qac Qdx rfl (Qaa (QaN (.slice x13.1.1 ((s.ents.filter fun x=>!(fun x=>Qay o (QaG x)) x).length) x13.1.2) QgK Y 5 (Qaa (QaK (cs:=cec (⟨o.cart,o.item,o.qty,o.kind,o.dot,Qba o⟩:Cen)) QaF Y 6 rfl rfl rfl (Qaa (Qgq (vs:=[.slice x13.1.1 ((s.ents.filter fun x=>!(fun x=>Qay o (QaG x)) x).length) x13.1.2,.agg (cec (⟨o.cart,o.item,o.qty,o.kind,o.dot,Qba o⟩:Cen)).toArray,.func (.func 120) #[] #[]]) (V:=.tuple #[I6 ((Qcx (fun x=>decide ((fun x:Cen=>Qb1 x (⟨o.cart,o.item,o.qty,o.kind,o.dot,Qba o⟩:Cen)) x<0)) (s.ents.filter fun x=>!(fun x=>Qay o (QaG x)) x):Nat):Int),.bool (decide (Qcx (fun x=>decide ((fun x:Cen=>Qb1 x (⟨o.cart,o.item,o.qty,o.kind,o.dot,Qba o⟩:Cen)) x<0)) (s.ents.filter fun x=>!(fun x=>Qay o (QaG x)) x)<(s.ents.filter fun x=>!(fun x=>Qay o (QaG x)) x).length)&&decide ((fun x:Cen=>Qb1 x (⟨o.cart,o.item,o.qty,o.kind,o.dot,Qba o⟩:Cen)) (gd (s.ents.filter fun x=>!(fun x=>Qay o (QaG x)) x) (Qcx (fun x=>decide ((fun x:Cen=>Qb1 x (⟨o.cart,o.item,o.qty,o.kind,o.dot,Qba o⟩:Cen)) x<0)) (s.ents.filter fun x=>!(fun x=>Qay o (QaG x)) x)))=0))]) (V':=.tuple #[I6 ((Qcx (Qfv (⟨o.cart,o.item,o.qty,o.kind,o.dot,Qba o⟩:Cen)) (s.ents.filter fun x=>!(fun x=>Qay o (QaG x)) x):Nat):Int),.bool (decide (Qcx (Qfv (⟨o.cart,o.item,o.qty,o.kind,o.dot,Qba o⟩:Cen)) (s.ents.filter fun x=>!(fun x=>Qay o (QaG x)) x)<(s.ents.filter fun x=>!(fun x=>Qay o (QaG x)) x).length)&&decide (Qb1 (gd (s.ents.filter fun x=>!(fun x=>Qay o (QaG x)) x) (Qcx (Qfv (⟨o.cart,o.item,o.qty,o.kind,o.dot,Qba o⟩:Cen)) (s.ents.filter fun x=>!(fun x=>Qay o (QaG x)) x))) (⟨o.cart,o.item,o.qty,o.kind,o.dot,Qba o⟩:Cen)=0))]) rfl Quf rfl rfl (Qnz _ x13.1.1 x13.1.2 (s.ents.filter fun x=>!(fun x=>Qay o (QaG x)) x) (⟨o.cart,o.item,o.qty,o.kind,o.dot,Qba o⟩:Cen) (by omega) 120 Qr1 (fun x:Cen=>Qb1 x (⟨o.cart,o.item,o.qty,o.kind,o.dot,Qba o⟩:Cen)) (fun w x=>Qll w x (⟨o.cart,o.item,o.qty,o.kind,o.dot,Qba o⟩:Cen)) (QmA (List.Pairwise.sublist List.filter_sublist hrc.re) (⟨o.cart,o.item,o.qty,o.kind,o.dot,Qba o⟩:Cen)) (Y.rd 3 rfl)) Y fun w28 Y=>(Qaa (Qaf (.tuple #[I6 ((Qcx (Qfv (⟨o.cart,o.item,o.qty,o.kind,o.dot,Qba o⟩:Cen)) (s.ents.filter fun x=>!(fun x=>Qay o (QaG x)) x):Nat):Int),.bool (decide (Qcx (Qfv (⟨o.cart,o.item,o.qty,o.kind,o.dot,Qba o⟩:Cen)) (s.ents.filter fun x=>!(fun x=>Qay o (QaG x)) x)<(s.ents.filter fun x=>!(fun x=>Qay o (QaG x)) x).length)&&decide (Qb1 (gd (s.ents.filter fun x=>!(fun x=>Qay o (QaG x)) x) (Qcx (Qfv (⟨o.cart,o.item,o.qty,o.kind,o.dot,Qba o⟩:Cen)) (s.ents.filter fun x=>!(fun x=>Qay o (QaG x)) x))) (⟨o.cart,o.item,o.qty,o.kind,o.dot,Qba o⟩:Cen)=0))]) (Qaa (QaC (V:=I6 ((Qcx (Qfv (⟨o.cart,o.item,o.qty,o.kind,o.dot,Qba o⟩:Cen)) (s.ents.filter fun x=>!(fun x=>Qay o (QaG x)) x):Nat):Int)) rfl rfl (Qaa (QaC (V:=.bool (decide (Qcx (Qfv (⟨o.cart,o.item,o.qty,o.kind,o.dot,Qba o⟩:Cen)) (s.ents.filter fun x=>!(fun x=>Qay o (QaG x)) x)<(s.ents.filter fun x=>!(fun x=>Qay o (QaG x)) x).length)&&decide (Qb1 (gd (s.ents.filter fun x=>!(fun x=>Qay o (QaG x)) x) (Qcx (Qfv (⟨o.cart,o.item,o.qty,o.kind,o.dot,Qba o⟩:Cen)) (s.ents.filter fun x=>!(fun x=>Qay o (QaG x)) x))) (⟨o.cart,o.item,o.qty,o.kind,o.dot,Qba o⟩:Cen)=0))) rfl rfl (Qaa (Qam (I6 ((Qcx (Qfv (⟨o.cart,o.item,o.qty,o.kind,o.dot,Qba o⟩:Cen)) (s.ents.filter fun x=>!(fun x=>Qay o (QaG x)) x):Nat):Int)) (Qaa (Qam (.bool (decide (Qcx (Qfv (⟨o.cart,o.item,o.qty,o.kind,o.dot,Qba o⟩:Cen)) (s.ents.filter fun x=>!(fun x=>Qay o (QaG x)) x)<(s.ents.filter fun x=>!(fun x=>Qay o (QaG x)) x).length)&&decide (Qb1 (gd (s.ents.filter fun x=>!(fun x=>Qay o (QaG x)) x) (Qcx (Qfv (⟨o.cart,o.item,o.qty,o.kind,o.dot,Qba o⟩:Cen)) (s.ents.filter fun x=>!(fun x=>Qay o (QaG x)) x))) (⟨o.cart,o.item,o.qty,o.kind,o.dot,Qba o⟩:Cen)=0))) (Qad ?_)))))))))))))))))))
   have hpe:=Qgl (f:=Qfv (⟨o.cart,o.item,o.qty,o.kind,o.dot,Qba o⟩:Cen)) (l:=s.ents.filter fun x=>!(fun x=>Qay o (QaG x)) x)
   refine Qab (Qaa (Qac Qdx rfl (Qaa (QaN (.slice x13.1.1 ((s.ents.filter fun x=>!(fun x=>Qay o (QaG x)) x).length) x13.1.2) QgK Y 5 (Qaa (Qaf (I6 ((Qcx (Qfv (⟨o.cart,o.item,o.qty,o.kind,o.dot,Qba o⟩:Cen)) (s.ents.filter fun x=>!(fun x=>Qay o (QaG x)) x):Nat):Int)) (Qaa (QaK (cs:=cec (⟨o.cart,o.item,o.qty,o.kind,o.dot,Qba o⟩:Cen)) QaF Y 6 rfl rfl rfl (Qaa (Qho (vals:=[.agg (cec (⟨o.cart,o.item,o.qty,o.kind,o.dot,Qba o⟩:Cen)).toArray]) (ls:=List.map cec ([(⟨o.cart,o.item,o.qty,o.kind,o.dot,Qba o⟩:Cen)]:List Cen)) QfD rfl rfl rfl (Qbn (enc:=cec) (fun _=>rfl) _) (QaW Qby _) (QQ8 rfl) Y fun b29 w30 Y=>(Qaa (QnU (α:=Option Addr × Nat) (vs:=[.slice x13.1.1 ((s.ents.filter fun x=>!(fun x=>Qay o (QaG x)) x).length) x13.1.2,I6 ((Qcx (Qfv (⟨o.cart,o.item,o.qty,o.kind,o.dot,Qba o⟩:Cen)) (s.ents.filter fun x=>!(fun x=>Qay o (QaG x)) x):Nat):Int),.slice (some ⟨b29,0,none⟩) 1 1]) (V:=fun x=>.slice x.1 (QdN (s.ents.filter fun x=>!(fun x=>Qay o (QaG x)) x) (Qcx (Qfv (⟨o.cart,o.item,o.qty,o.kind,o.dot,Qba o⟩:Cen)) (s.ents.filter fun x=>!(fun x=>Qay o (QaG x)) x)) (⟨o.cart,o.item,o.qty,o.kind,o.dot,Qba o⟩:Cen)).length x.2) (R:=row (.slice x13.1.1 ((s.ents.filter fun x=>!(fun x=>Qay o (QaG x)) x).length) x13.1.2) ((s.ents.filter fun x=>!(fun x=>Qay o (QaG x)) x).map cec) 106 7) (R':=fun x=>row (.slice x.1 (QdN (s.ents.filter fun x=>!(fun x=>Qay o (QaG x)) x) (Qcx (Qfv (⟨o.cart,o.item,o.qty,o.kind,o.dot,Qba o⟩:Cen)) (s.ents.filter fun x=>!(fun x=>Qay o (QaG x)) x)) (⟨o.cart,o.item,o.qty,o.kind,o.dot,Qba o⟩:Cen)).length x.2) ((QdN (s.ents.filter fun x=>!(fun x=>Qay o (QaG x)) x) (Qcx (Qfv (⟨o.cart,o.item,o.qty,o.kind,o.dot,Qba o⟩:Cen)) (s.ents.filter fun x=>!(fun x=>Qay o (QaG x)) x)) (⟨o.cart,o.item,o.qty,o.kind,o.dot,Qba o⟩:Cen)).map cec) 106 7) (Lo:=fun _=>[]) (F:=fun _ _=>True) Qvn rfl rfl Y 3 7 (by decide) rfl rfl (QQ8 rfl) (fun S hS hlt hnS hpl9=>QmM _ S x13.1.1 x13.1.2 (s.ents.filter fun x=>!(fun x=>Qay o (QaG x)) x) (Qcx (Qfv (⟨o.cart,o.item,o.qty,o.kind,o.dot,Qba o⟩:Cen)) (s.ents.filter fun x=>!(fun x=>Qay o (QaG x)) x)) hpe (⟨o.cart,o.item,o.qty,o.kind,o.dot,Qba o⟩:Cen) (some ⟨b29,0,none⟩) 1 (Y.rd 7 rfl) hpl9 hnS hpl9.lt (by omega) hS hlt) fun x32 w31 Y _=>(Qaa (Qac Qdx rfl (Qaa (Qcs (V:=.slice x32.1 ((QdN (s.ents.filter fun x=>!(fun x=>Qay o (QaG x)) x) (Qcx (Qfv (⟨o.cart,o.item,o.qty,o.kind,o.dot,Qba o⟩:Cen)) (s.ents.filter fun x=>!(fun x=>Qay o (QaG x)) x)) (⟨o.cart,o.item,o.qty,o.kind,o.dot,Qba o⟩:Cen)).length) x32.2) (cs':=(vc (vset s.known o.dot.rep.toNat o.dot.seq))++[(.slice x32.1 ((QdN (s.ents.filter fun x=>!(fun x=>Qay o (QaG x)) x) (Qcx (Qfv (⟨o.cart,o.item,o.qty,o.kind,o.dot,Qba o⟩:Cen)) (s.ents.filter fun x=>!(fun x=>Qay o (QaG x)) x)) (⟨o.cart,o.item,o.qty,o.kind,o.dot,Qba o⟩:Cen)).length) x32.2:Value),(.slice x13.2.1 s.ticks.length x13.2.2:Value) ]) QgK Y 5 rfl rfl rfl rfl (QQ8 rfl) rfl fun w33 Y=>?_))))))))))))))))
   replace Y:=Ow [blk b1 ((vc s.known)++[(.slice a1 s.ents.length c1:Value),(.slice a2 s.ticks.length c2:Value) ]) 38,blk b3 (oc o) 98,blk b5 ((vc vzero)++[(.slice none 0 0:Value),(.slice none 0 0:Value) ]) 38,row (.slice x32.1 ((QdN (s.ents.filter fun x=>!(fun x=>Qay o (QaG x)) x) (Qcx (Qfv (⟨o.cart,o.item,o.qty,o.kind,o.dot,Qba o⟩:Cen)) (s.ents.filter fun x=>!(fun x=>Qay o (QaG x)) x)) (⟨o.cart,o.item,o.qty,o.kind,o.dot,Qba o⟩:Cen)).length) x32.2) ((QdN (s.ents.filter fun x=>!(fun x=>Qay o (QaG x)) x) (Qcx (Qfv (⟨o.cart,o.item,o.qty,o.kind,o.dot,Qba o⟩:Cen)) (s.ents.filter fun x=>!(fun x=>Qay o (QaG x)) x)) (⟨o.cart,o.item,o.qty,o.kind,o.dot,Qba o⟩:Cen)).map cec) 106 7,row (.slice x13.2.1 s.ticks.length x13.2.2) (s.ticks.map lsc) 102 2,blk b15 ((vc (vset s.known o.dot.rep.toNat o.dot.seq))++[(.slice x32.1 ((QdN (s.ents.filter fun x=>!(fun x=>Qay o (QaG x)) x) (Qcx (Qfv (⟨o.cart,o.item,o.qty,o.kind,o.dot,Qba o⟩:Cen)) (s.ents.filter fun x=>!(fun x=>Qay o (QaG x)) x)) (⟨o.cart,o.item,o.qty,o.kind,o.dot,Qba o⟩:Cen)).length) x32.2:Value),(.slice x13.2.1 s.ticks.length x13.2.2:Value) ]) 38,blk b27 (cec (⟨o.cart,o.item,o.qty,o.kind,o.dot,Qba o⟩:Cen)) 106,row (.slice (some ⟨b29,0,none⟩) 1 1) ([(⟨o.cart,o.item,o.qty,o.kind,o.dot,Qba o⟩:Cen)].map cec) 106 7] Y
   refine Qad ?_
   exact ⟨_,x32.1,x32.2,QdN (s.ents.filter fun x=>!(fun x=>Qay o (QaG x)) x) (Qcx (Qfv (⟨o.cart,o.item,o.qty,o.kind,o.dot,Qba o⟩:Cen)) (s.ents.filter fun x=>!(fun x=>Qay o (QaG x)) x)) (⟨o.cart,o.item,o.qty,o.kind,o.dot,Qba o⟩:Cen),Qao (ds:=([8,9,10]++sq 51 27)) (by repeat (first|exact Agr.refl _ _|refine Agr.upd ?_ rfl|refine Agr.mix ?_ rfl)),(by unfold Qeh;rw [if_pos c22];exact (Qk9 (fun hm=>hfd (Qmt hm))).symm),Y.take 6⟩
  refine Qap ?_
  exact ⟨_,x13.1.1,x13.1.2,(s.ents.filter fun x=>!(fun x=>Qay o (QaG x)) x),Qao (ds:=([8,9,10]++sq 51 27)) (by repeat (first|exact Agr.refl _ _|refine Agr.upd ?_ rfl|refine Agr.mix ?_ rfl)),(by unfold Qeh;rw [if_neg (by rw [c22];decide)]),Y.take 6⟩
 rintro J' w34 ⟨Jo,a9,c9,L9,rfl,hL9,Y⟩
 refine Qae (Qab (Qaa (Qac Qc4 rfl (Qaa (QaN (I7 o.cart) Qar Y 1 (Qaa (Qac Qf2 rfl (Qaa (QaN (.int .u32 o.tick) QaU Y 1 (Qaa (QbI (vs:=[(0,I7 o.cart),(1,.int .u32 o.tick)]) (cs:=lsc (⟨o.cart,o.tick⟩:Lst)) QrL (rfl) rfl ?_)))))))))))
 replace Y:=Y.join 5 4 (by decide) rfl rfl
 refine Qaa (QbF (α:=Option Addr × Nat) (vs:=[Pq b15 0,.agg (lsc (⟨o.cart,o.tick⟩:Lst)).toArray]) (V:=fun _=>.tuple #[]) (R:=star [blk b15 (vc (vset s.known o.dot.rep.toNat o.dot.seq)++[(.slice a9 L9.length c9:Value),(.slice x13.2.1 s.ticks.length x13.2.2:Value)]) 38,row (.slice x13.2.1 s.ticks.length x13.2.2) (s.ticks.map lsc) 102 2]) (R':=fun x=>star [blk b15 (vc (vset s.known o.dot.rep.toNat o.dot.seq)++[(.slice a9 L9.length c9:Value),(.slice x.1 (QdP o.cart o.tick s.ticks).length x.2:Value)]) 38,row (.slice x.1 (QdP o.cart o.tick s.ticks).length x.2) ((QdP o.cart o.tick s.ticks).map lsc) 102 2]) (Lo:=fun _=>[]) (F:=fun _ _=>True) QvC rfl rfl Y 5 rfl (fun S hS hlS=>QtO _ S b15 (vset s.known o.dot.rep.toNat o.dot.seq) (.slice a9 L9.length c9) x13.2.1 x13.2.2 s.ticks (⟨o.cart,o.tick⟩:Lst) (by omega) hrc.rt hS hlS) fun x35 w36 Y _=>?_)
 replace Y:=Y.split 5 rfl
 replace Y:=Y.put 4 (QQ8 rfl)
 refine Qad (Qae (Qab (Qaa (QaK (cs:=(vc (vset s.known o.dot.rep.toNat o.dot.seq))++[(.slice a9 L9.length c9:Value),(.slice x35.1 ((QdP o.cart o.tick s.ticks).length) x35.2:Value) ]) Qb4 Y 5 rfl rfl rfl (Qaa (Qcz (V:=.agg ((vc (vset s.known o.dot.rep.toNat o.dot.seq))++[(.slice a9 L9.length c9:Value),(.slice x35.1 ((QdP o.cart o.tick s.ticks).length) x35.2:Value) ]).toArray) (vs:=(vc (vset s.known o.dot.rep.toNat o.dot.seq))++[(.slice a9 L9.length c9:Value),(.slice x35.1 ((QdP o.cart o.tick s.ticks).length) x35.2:Value) ]) (cs':=(vc (vset s.known o.dot.rep.toNat o.dot.seq))++[(.slice a9 L9.length c9:Value),(.slice x35.1 ((QdP o.cart o.tick s.ticks).length) x35.2:Value) ]) Qb4.1 Y 2 rfl rfl rfl rfl rfl (QQ8 rfl) (Qbq (Qb0 _) (Qat rfl (Qat rfl Qa2))) (Qaz rfl) fun w37 Y=>(Qaa (Qam (I6 0) (Qad (Qav ?_))))))))))
 refine ⟨_,Qct (cs:=(vc (vset s.known o.dot.rep.toNat o.dot.seq))++[(.slice a9 L9.length c9:Value),(.slice x35.1 ((QdP o.cart o.tick s.ticks).length) x35.2:Value) ]) (V:=I6 0) results72 Qb4 Y 2 rfl rfl rfl rfl,?_⟩
 have hI:Qc8 s o=0:=by unfold Qc8;rw [if_pos c8];exact c11
 have hR:Qa1 s o=(⟨vset s.known o.dot.rep.toNat o.dot.seq,L9,QdP o.cart o.tick s.ticks⟩:Sta):=by unfold Qa1;rw [if_pos hI,hL9];rfl
 rw [hI,hR]
 exact ⟨((a9,c9),(x35.1,x35.2)),rfl,Y.two 3 4 (by decide) rfl rfl,trivial⟩
end Tt
end Go.Proofs
namespace Go.Proofs
open Go Go.Vx Go.RowKit
open Tryz
namespace Tt
theorem QmL (w:World) (a:Option Addr) (c:Nat) (l:List Opn) (hl:∀ o∈l,QbL o) (hr:Rd w (.slice a l.length c) 23 (l.map oc)):Calls prog 69 #[.slice a l.length c] w (fun e w'=>e = .returned (.bool (QbY l))/\Own w no w' []):=by
 refine Qah (n:=63) func69 rfl ntmps69 rfl ?_
 have Y:=Own.start w
 have hn:=hr.sml
 refine Qae (Qab (Qaa (Qam (.bool false) (Qad (Qae (Qae (Qbv (so 10 8) [] [0,1,3,7,15,31,63,127] [pv (.slice a l.length c),pv (I6 ((l.length:Nat):Int)),pv (.bool (decide (40<((l.length:Nat):Int)))),pv (.bool (decide (40<((l.length:Nat):Int)))),pg ((decide (40<((l.length:Nat):Int))) == false) (.slice a l.length c),pg ((decide (40<((l.length:Nat):Int))) == false) (.bool (Qbs l)),pg ((decide (40<((l.length:Nat):Int))) == false) (.bool (!(Qbs l))),pv (.bool ((decide (40<((l.length:Nat):Int)))||(!(Qbs l))))] (fun _ _=>_) [7] (by kernel_rfl) Y ⟨?_,?_,?_,?_,?_,?_,?_,?_,trivial⟩ ?_)))))))
 ·exact oi [] fun Y=>Qaf (.slice a l.length c) (Zz Y)
 ·exact oi [0] fun Y=>Qa5 (n:=l.length) QbG (Rd.own' hr Y) (by simp) rfl (Zz Y)
 ·exact oi [1] fun Y=>Qca rfl rfl (Zz Y)
 ·exact oi [2] fun Y=>Qaf (.bool (decide (40<((l.length:Nat):Int)))) (Zz Y)
 ·refine ogi [3] fun hG Y=>?_
  have hgd:=QQ2 (eq_of_beq hG)
  exact Qaf (.slice a l.length c) (Zz Y)
 ·refine oyi [3,4] [4] fun hG Y=>?_
  have hgd:=QQ2 (eq_of_beq hG)
  exact Qas (vs:=[.slice a l.length c]) (V:=.bool (Qbs l)) QuH rfl rfl (Qha _ a c l hl (by omega) (Rd.own' hr Y)) Y fun _ Y=>Zz Y
 ·refine oyi [3,5] [5] fun hG Y=>?_
  have hgd:=QQ2 (eq_of_beq hG)
  exact QbB rfl (Zz Y)
 ·exact oi [3,6] fun Y=>QbP (h':=!(Qbs l)) rfl rfl rfl (Zz Y)
 rintro J1 w2 J2 hJ Y
 replace hJ:J2=upd (mix (sq 10 8) J1 _) 17 (.bool ((decide (40<((l.length:Nat):Int)))||(!(Qbs l)))):=hJ
 subst hJ
 refine Qak (t:=(decide (40<((l.length:Nat):Int)))||(!(Qbs l))) rfl (fun c3=>?_) (fun c3=>?_)
 ·
  refine Qae (Qab (Qaa (Qam (.bool false) (Qad (Qav ?_)))))
  refine ⟨_,Qan (V:=.bool false) results69 rfl,(Zr Y ?_)⟩
  have hc:=c3
  rcases Nat.lt_or_ge 40 l.length with q|q
  ·exact congrArg Value.bool (QqY q).symm
  refine congrArg Value.bool (QjY ?_).symm
  rw [QQ4 (by omega)] at hc;simpa using hc
 have c3r:=Qfa c3
 replace c3:=Qe8 c3
 replace c3:=QQ2 c3
 replace c3r:=Qbd c3r
 refine Qap (Qae (Qab (Qaa (QaJ (cs:=vc vzero) Qso rfl Y fun b4 w5 Y=>(Qad (Qae (Qae (Qab (Qaa (Qaf (.slice a l.length c) (Qaa (Qa5 (n:=l.length) QbG (Rd.own' hr Y) (by simp) rfl (Qaa (Qaf (I6 0) (Qad (Qal (QaE (fun J μ J' w'=>∃ (Jo:Env) (k:Nat) (u:Vec),J'=upd (mix ([2,5]++sq 20 16) Jo J) 20 (I6 (k:Int))/\(k<=l.length)/\(u=Qbw (l.take k))/\(∀ j:Nat,j<k->decide (QbM (Qbw (l.take j)) (gd l j)=0)=true)/\μ=l.length-k/\Own w no w' [blk b4 (vc u) 24]) ?_ ?_)))))))))))))))))
 ·exact ⟨_,_,0,vzero,Qai (Qao (ds:=([2,5]++sq 20 16)) (Agr.refl _ _)) rfl,(by omega),rfl,(fun j hj=>absurd hj (Nat.not_lt_zero j)),rfl,Y⟩
 rintro μ J' w6 ⟨Jo,k,u,rfl,hk,hu,hrd,rfl,Y⟩
 refine Qae (Qab (Qaa (Qa0 rfl rfl (Qad (Qae (Qak (t:=decide ((k:Int)<((l.length:Nat):Int))) rfl (fun c7=>?_) (fun c7=>?_)))))))
 ·
  replace c7:=QQ1 c7
  refine Qap (Qae (Qal (Qae (Qab (Qaa (Qax QbG Qa3.1 (Rd.own' hr Y) rfl rfl (by omega) (by rw [QQ6];omega) (Qaa (Qa9 (j:=0) (vs:=oc (gd l k)) k Qa3 (Rd.own' hr Y) (Qa4 (by omega)) rfl rfl rfl (by omega) (Qaa (QaJ (cs:=oc (⟨(⟨0,0⟩:Dot),0,0,0,0,0,vzero⟩:Opn)) QhZ rfl Y fun b8 w9 Y=>(Qaa (Qcz (V:=.agg (oc (gd l k)).toArray) (vs:=oc (gd l k)) (cs':=oc (gd l k)) Qa3.1 Y 1 rfl rfl rfl rfl rfl (QQ8 rfl) (QcX _) (Qaz rfl) fun w10 Y=>(Qad (Qae (Qae (Qab (Qaa (QaK (cs:=vc u) QbC Y 0 rfl rfl rfl (Qaa (QaK (cs:=oc (gd l k)) Qa3 Y 1 rfl rfl rfl (Qaa (Qas (vs:=[.agg (vc u).toArray,.agg (oc (gd l k)).toArray]) (V:=I6 (QbM u (gd l k))) Qub rfl rfl ?hc Y fun w11 Y=>?_))))))))))))))))))))))
  case hc=>exact (Qow _ u (gd l k) (hl _ (Qbo (by omega))))
  refine Qaa (Qck rfl rfl (Qad (Qak (t:=!decide (QbM u (gd l k)=0)) rfl (fun c12=>?_) (fun c12=>?_))))
  ·
   replace c12:=QbE c12
   replace c12:=QQ2 c12
   refine Qae (Qab (Qaa (Qam (.bool false) (Qad (Qav ?_)))))
   refine ⟨_,Qan (V:=.bool false) results69 rfl,(Zr Y ?_)⟩
   exact congrArg Value.bool (QlV (k:=k) (by omega) (by rw [← hu];exact c12)).symm
  replace c12:=Qbd c12
  replace c12:=QQ1 c12
  refine Qap ?_
  have ⟨⟨⟨hp1,hp2⟩,hp3,hp4⟩,_⟩:=hl _ (Qbo (l:=l) (i:=k) (by omega))
  have hp5:=(QhO (hl _ (Qbo (l:=l) (i:=k) (by omega))) c12).1.r1
  refine Qab (Qaa (Qac Qa7 rfl (Qaa (Qac QbJ rfl (Qaa (QaN (.int .u8 (((gd l k).dot).rep)) QcI Y 1 (Qaa (Qac Qa7 rfl (Qaa (Qac QbN rfl (Qaa (QaN (.int .u32 (((gd l k).dot).seq)) QaU Y 1 (Qaa (Qb2 Qd0 QaU.1 rfl rfl (by omega) (by omega) (Qaa (Qcs (V:=.int .u32 (((gd l k).dot).seq)) (cs':=vc (vset u (((gd l k).dot).rep).toNat (((gd l k).dot).seq))) QaU Y 0 rfl rfl rfl rfl (QvY (by omega)) (Qmq (by omega) (by omega)) fun w13 Y=>?_))))))))))))))))
  replace Y:=Ow [blk b4 (vc (vset u (((gd l k).dot).rep).toNat (((gd l k).dot).seq))) 24,blk b8 (oc (gd l k)) 98] Y
  refine Qad (Qab (Qaa (QaB (a:=(k:Int)) (b:=1) (c:=((k+1:Nat):Int)) rfl rfl (Qaj (by omega) (by omega)) (Qaa (Qaf (I6 ((k+1:Nat):Int)) (Qad ?_))))))
  refine ⟨_,?_,_,k+1,vset u (((gd l k).dot).rep).toNat (((gd l k).dot).seq),Qai (Qao (ds:=([2,5]++sq 20 16)) (by repeat (first|exact Agr.refl _ _|refine Agr.upd ?_ rfl|refine Agr.mix ?_ rfl))) rfl,(by omega),(Qmd hu (by omega)),(Qls hrd (QQ3 (by rw [← hu];exact c12))),rfl,Y.take 1⟩
  omega
 replace c7:=QQ2 c7
 refine QaI (Qae (Qae (Qab (Qaa (Qaf (.slice a l.length c) (Qaa (Qa5 (n:=l.length) QbG (Rd.own' hr Y) (by simp) rfl (Qaa (Qaf (I6 0) (Qad (Qal (QaE (fun J μ J' w'=>∃ (Jo:Env) (i2:Nat),J'=upd (mix ([2,7,9]++sq 38 25) Jo J) 38 (I6 (i2:Int))/\(i2<=l.length)/\(∀ i,i<i2->∀ j,j<l.length->Qke l i j=false)/\μ=l.length-i2/\Own w no w' [blk b4 (vc u) 24]) ?_ ?_))))))))))))
 ·exact ⟨_,_,0,Qai (Qao (ds:=([2,7,9]++sq 38 25)) (Agr.refl _ _)) rfl,(by omega),(fun i hi=>absurd hi (Nat.not_lt_zero i)),rfl,Y⟩
 rintro μ J' w14 ⟨Jo,i2,rfl,hi2,hdp,rfl,Y⟩
 refine Qae (Qab (Qaa (Qa0 rfl rfl (Qad (Qae (Qak (t:=decide ((i2:Int)<((l.length:Nat):Int))) rfl (fun c15=>?_) (fun c15=>?_)))))))
 ·
  replace c15:=QQ1 c15
  refine Qap (Qae (Qal (Qae (Qab (Qaa (Qax QbG Qa3.1 (Rd.own' hr Y) rfl rfl (by omega) (by rw [QQ6];omega) (Qaa (Qa9 (j:=0) (vs:=oc (gd l i2)) i2 Qa3 (Rd.own' hr Y) (Qa4 (by omega)) rfl rfl rfl (by omega) (Qaa (QaJ (cs:=oc (⟨(⟨0,0⟩:Dot),0,0,0,0,0,vzero⟩:Opn)) QhZ rfl Y fun b16 w17 Y=>(Qaa (Qcz (V:=.agg (oc (gd l i2)).toArray) (vs:=oc (gd l i2)) (cs':=oc (gd l i2)) Qa3.1 Y 1 rfl rfl rfl rfl rfl (QQ8 rfl) (QcX _) (Qaz rfl) fun w18 Y=>(Qad (Qae (Qab (Qaa (Qaf (.slice a l.length c) (Qaa (Qa5 (n:=l.length) QbG (Rd.own' hr Y) (by simp) rfl (Qaa (Qaf (I6 0) (Qad (Qal (QaE (fun J μ J' w'=>∃ (Jo:Env) (j3:Nat),J'=upd (mix ([2,9]++sq 44 18) Jo J) 44 (I6 (j3:Int))/\(j3<=l.length)/\(∀ j:Nat,j<j3->Qke l i2 j=false)/\μ=l.length-j3/\Own w no w' [blk b4 (vc u) 24,blk b16 (oc (gd l i2)) 98]) ?_ ?_))))))))))))))))))))))))
  ·exact ⟨_,_,0,Qai (Qao (ds:=([2,9]++sq 44 18)) (Agr.refl _ _)) rfl,(by omega),(fun j hj=>absurd hj (Nat.not_lt_zero j)),rfl,Y⟩
  rintro μ J' w19 ⟨Jo,j3,rfl,hj3,hdj,rfl,Y⟩
  refine Qae (Qab (Qaa (Qa0 rfl rfl (Qad (Qae (Qak (t:=decide ((j3:Int)<((l.length:Nat):Int))) rfl (fun c20=>?_) (fun c20=>?_)))))))
  ·
   replace c20:=QQ1 c20
   refine Qap (Qae (Qal (Qae (Qab (Qaa (Qax QbG Qa3.1 (Rd.own' hr Y) rfl rfl (by omega) (by rw [QQ6];omega) (Qaa (Qa9 (j:=0) (vs:=oc (gd l j3)) j3 Qa3 (Rd.own' hr Y) (Qa4 (by omega)) rfl rfl rfl (by omega) (Qaa (QaJ (cs:=oc (⟨(⟨0,0⟩:Dot),0,0,0,0,0,vzero⟩:Opn)) QhZ rfl Y fun b21 w22 Y=>?_))))))))))
   replace Y:=Ow [blk b4 (vc u) 24,blk b16 (oc (gd l i2)) 98,blk b21 (oc (⟨(⟨0,0⟩:Dot),0,0,0,0,0,vzero⟩:Opn)) 98] Y
   refine Qaa (Qcz (V:=.agg (oc (gd l j3)).toArray) (vs:=oc (gd l j3)) (cs':=oc (gd l j3)) Qa3.1 Y 2 rfl rfl rfl rfl rfl (QQ8 rfl) (QcX _) (Qaz rfl) fun w23 Y=>(Qad (Qae ?_)))
   have hdj3:=(hl _ (Qbo (l:=l) (i:=j3) (by omega))).1
   refine Qbv (so 48 13) [] [0,1,0,4,15,31,63,127,63,319,1023,2047,4095] [pv (Pq b16 (0+7)),pv (.agg (vc ((gd l i2).ctx)).toArray),pv (Pq b21 (0+0)),pv (.agg (dc ((gd l j3).dot)).toArray),pv (.bool (QbD ((gd l i2).ctx) ((gd l j3).dot))),pv (.bool (QbD ((gd l i2).ctx) ((gd l j3).dot))),pg ((QbD ((gd l i2).ctx) ((gd l j3).dot)) == true) (Pq b21 (0+7)),pg ((QbD ((gd l i2).ctx) ((gd l j3).dot)) == true) (.agg (vc ((gd l j3).ctx)).toArray),pg ((QbD ((gd l i2).ctx) ((gd l j3).dot)) == true) (Pq b16 (0+7)),pg ((QbD ((gd l i2).ctx) ((gd l j3).dot)) == true) (.agg (vc ((gd l i2).ctx)).toArray),pg ((QbD ((gd l i2).ctx) ((gd l j3).dot)) == true) (.bool (vle ((gd l j3).ctx) ((gd l i2).ctx))),pg ((QbD ((gd l i2).ctx) ((gd l j3).dot)) == true) (.bool (!(vle ((gd l j3).ctx) ((gd l i2).ctx)))),pv (.bool ((QbD ((gd l i2).ctx) ((gd l j3).dot))&&(!(vle ((gd l j3).ctx) ((gd l i2).ctx)))))] (fun _ _=>_) [12] (by kernel_rfl) Y ⟨?_,?_,?_,?_,?_,?_,?_,?_,?_,?_,?_,?_,?_,trivial⟩ ?_
   ·exact oi [] fun Y=>Qac QcG rfl (Zz Y)
   ·exact oi [0] fun Y=>QbT (vs:=vc ((gd l i2).ctx)) QbC Y 1 rfl rfl rfl rfl (Zz Y)
   ·exact oi [] fun Y=>Qac Qa7 rfl (Zz Y)
   ·exact oi [2] fun Y=>QbT (vs:=dc ((gd l j3).dot)) QcV Y 2 rfl rfl rfl rfl (Zz Y)
   ·exact oi [1,3] fun Y=>Qas (vs:=[.agg (vc ((gd l i2).ctx)).toArray,.agg (dc ((gd l j3).dot)).toArray]) (V:=.bool (QbD ((gd l i2).ctx) ((gd l j3).dot))) QlR rfl rfl (QfP _ ((gd l i2).ctx) ((gd l j3).dot) (by first|assumption|exact QcN (by omega) (by omega) (by omega) (by omega))) Y fun _ Y=>Zz Y
   ·exact oi [4] fun Y=>Qaf (.bool (QbD ((gd l i2).ctx) ((gd l j3).dot))) (Zz Y)
   ·exact ogi [5] fun hG Y=>Qac QcG rfl (Zz Y)
   ·exact oyi [5,6] [6] fun hG Y=>QbT (vs:=vc ((gd l j3).ctx)) QbC Y 2 rfl rfl rfl rfl (Zz Y)
   ·exact ogi [5] fun hG Y=>Qac QcG rfl (Zz Y)
   ·exact oyi [5,8] [8] fun hG Y=>QbT (vs:=vc ((gd l i2).ctx)) QbC Y 1 rfl rfl rfl rfl (Zz Y)
   ·exact oyi [5,7,9] [7,9] fun hG Y=>Qas (vs:=[.agg (vc ((gd l j3).ctx)).toArray,.agg (vc ((gd l i2).ctx)).toArray]) (V:=.bool (vle ((gd l j3).ctx) ((gd l i2).ctx))) Qps rfl rfl (Qfj _ ((gd l j3).ctx) ((gd l i2).ctx)) Y fun _ Y=>Zz Y
   ·exact oyi [5,10] [10] fun hG Y=>QbB rfl (Zz Y)
   ·exact oi [5,11] fun Y=>Qbg (h':=!(vle ((gd l j3).ctx) ((gd l i2).ctx))) rfl rfl rfl (Zz Y)
   rintro J1 w26 J2 hJ Y
   replace hJ:J2=upd (mix (sq 48 13) J1 _) 60 (.bool ((QbD ((gd l i2).ctx) ((gd l j3).dot))&&(!(vle ((gd l j3).ctx) ((gd l i2).ctx))))):=hJ
   subst hJ
   refine Qak (t:=(QbD ((gd l i2).ctx) ((gd l j3).dot))&&(!(vle ((gd l j3).ctx) ((gd l i2).ctx)))) rfl (fun c27=>?_) (fun c27=>?_)
   ·
    have c27r:=Qcl c27
    replace c27:=QbZ c27
    replace c27r:=QbE c27r
    refine Qae (Qab (Qaa (Qam (.bool false) (Qad (Qav ?_)))))
    refine ⟨_,Qan (V:=.bool false) results69 rfl,(Zr Y ?_)⟩
    exact congrArg Value.bool (QnI (i:=i2) (j:=j3) (by omega) (by omega) (by unfold Qke;rw [c27,c27r];rfl)).symm
   refine Qap (Qab (Qaa (QaB (a:=(j3:Int)) (b:=1) (c:=((j3+1:Nat):Int)) rfl rfl (Qaj (by omega) (by omega)) (Qaa (Qaf (I6 ((j3+1:Nat):Int)) (Qad ?_))))))
   refine ⟨_,?_,_,j3+1,Qai (Qao (ds:=([2,9]++sq 44 18)) (by repeat (first|exact Agr.refl _ _|refine Agr.upd ?_ rfl|refine Agr.mix ?_ rfl))) rfl,(by omega),(Qdo hdj (by unfold Qke;exact c27)),rfl,Y.take 2⟩
   omega
  replace c20:=QQ2 c20
  refine QaI (Qab (Qaa (QaB (a:=(i2:Int)) (b:=1) (c:=((i2+1:Nat):Int)) rfl rfl (Qaj (by omega) (by omega)) (Qaa (Qaf (I6 ((i2+1:Nat):Int)) (Qad ?_))))))
  refine ⟨_,?_,_,i2+1,Qai (Qao (ds:=([2,7,9]++sq 38 25)) (by repeat (first|exact Agr.refl _ _|refine Agr.upd ?_ rfl|refine Agr.mix ?_ rfl))) rfl,(by omega),(fun i hi j hj=>by
 rcases Nat.lt_or_eq_of_le (Nat.le_of_lt_succ hi) with q|q
 ·exact hdp i q j hj
 ·subst q;exact hdj j (by omega)),rfl,Y.take 1⟩
  omega
 replace c15:=QQ2 c15
 refine QaI (Qae (Qab (Qaa (Qam (.bool true) (Qad (Qav ?_))))))
 refine ⟨_,Qan (V:=.bool true) results69 rfl,(Zr Y ?_)⟩
 exact congrArg Value.bool (Qq8 (by omega) c3r (fun k hk=>QQ1 (hrd k (by omega))) fun i hi j hj=>hdp i (by omega) j hj).symm
end Tt
end Go.Proofs
namespace Go.Proofs
open Go Go.Vx Go.RowKit
open Tryz
namespace Tt
theorem Qsc (w:World) (a:Option Addr) (ca:Nat) (l:List Opn) (v:Vec) (hl:∀ o∈l,QbL o) (hr:Rd w (.slice a l.length ca) 23 (l.map oc)):Calls prog 28 #[.slice a l.length ca,.agg (vc v).toArray] w (fun e w'=>∃ x:((Option Addr × Nat) × (Option Addr × Nat)) × (Option Addr × Nat),e = .returned (.tuple #[.agg ((vc (Qau l v).base.known++[(.slice x.1.1.1 (Qau l v).base.ents.length x.1.1.2:Value),(.slice x.1.2.1 (Qau l v).base.ticks.length x.1.2.2:Value)])++[(.slice x.2.1 (Qau l v).ops.length x.2.2:Value)]++vc (Qau l v).known).toArray,.bool (Qef l v)])/\Own w no w' [row (.slice x.1.1.1 (Qau l v).base.ents.length x.1.1.2) ((Qau l v).base.ents.map cec) 106 7,row (.slice x.1.2.1 (Qau l v).base.ticks.length x.1.2.2) ((Qau l v).base.ticks.map lsc) 102 2,row (.slice x.2.1 (Qau l v).ops.length x.2.2) ((Qau l v).ops.map oc) 98 23]/\True):=by
 refine Qah (n:=74) func28 rfl ntmps28 rfl ?_
 have Y:=Own.start w
 have hn:=hr.sml
 refine Qae (Qab (Qaa (QaY (V:=.agg (vc v).toArray) (cs:=vc v) rfl rfl Y fun b1 w2 Y=>(Qaa (QaJ (cs:=((vc vzero)++[(.slice none 0 0:Value),(.slice none 0 0:Value) ])++[(.slice none 0 0:Value) ]++(vc vzero)) QqN rfl Y fun b3 w4 Y=>(Qaa (Qam (.bool false) (Qad (Qae (Qae ?_))))))))))
 rcases Decidable.em (QbY l=true/\l.length<=30) with hk1|hk1
 ·
  replace Y:=Y.more emp trivial
  refine Qbv (so 12 15) [[],[],[],[],[],[],[],[],[],[],[],[23]] [0,1,3,7,15,31,63,127,255,511,511,2047,4095,8191,16383] [pv (.slice a l.length ca),pv (.bool (QbY l)),pv (.bool (!(QbY l))),pv (.bool (!(QbY l))),pg ((!(QbY l)) == false) (.slice a l.length ca),pg ((!(QbY l)) == false) (I6 ((l.length:Nat):Int)),pg ((!(QbY l)) == false) (.bool (decide (30<((l.length:Nat):Int)))),pv (.bool false),pv (.bool false),pv (.slice a l.length ca),pv (.agg (vc v).toArray),(true,fun J=>.slice (aOf (J 23)) ((Qaq l v).length) (cOf (J 23))),pv (.bool (Qbs (Qaq l v))),pv (.bool (!(Qbs (Qaq l v)))),pv (.bool (!(Qbs (Qaq l v))))] (fun D J=>[blk b1 (vc v) 24,blk b3 (((vc vzero)++[(.slice none 0 0:Value),(.slice none 0 0:Value) ])++[(.slice none 0 0:Value) ]++(vc vzero)) 43,cond (D 11) (row (.slice (aOf (J 23)) ((Qaq l v).length) (cOf (J 23))) ((Qaq l v).map oc) 98 23) (emp)]) [14] (by kernel_rfl) Y ⟨?_,?_,?_,?_,?_,?_,?_,?_,?_,?_,?_,?_,?_,?_,?_,trivial⟩ ?_
  ·exact oi [] fun Y=>Qaf (.slice a l.length ca) (Zz Y)
  ·exact oi [0] fun Y=>Qas (vs:=[.slice a l.length ca]) (V:=.bool (QbY l)) Qwm rfl rfl (QmL _ a ca l hl (Rd.own' hr Y)) Y fun _ Y=>Zz Y
  ·exact oi [1] fun Y=>QbB rfl (Zz Y)
  ·exact oi [2] fun Y=>Qaf (.bool (!(QbY l))) (Zz Y)
  ·exact ogi [3] fun hG Y=>Qaf (.slice a l.length ca) (Zz Y)
  ·exact oyi [3,4] [4] fun hG Y=>Qa5 (n:=l.length) QbG (Rd.own' hr Y) (by simp) rfl (Zz Y)
  ·exact oyi [3,5] [5] fun hG Y=>Qca rfl rfl (Zz Y)
  ·exact oi [3,6] fun Y=>Qa8 (V:=.bool ((!(QbY l))||(decide (30<((l.length:Nat):Int))))) (V':=.bool false) (QbP (h':=decide (30<((l.length:Nat):Int))) rfl rfl rfl ⟨rfl,rfl⟩) (congrArg Value.bool (Qvl hk1)) (Zz Y)
  ·exact oi [7] fun Y=>Qaf (.bool false) (Zz Y)
  ·exact obg [8] [] false rfl (fun _=>rfl) rfl (fun _ _ _ h=>nomatch h) fun D J w _ Y=>Qaf (.slice a l.length ca) (Zz Y)
  ·exact obg [8] [] false rfl (fun _=>rfl) rfl (fun _ _ _ h=>nomatch h) fun D J w _ Y=>QaK (cs:=vc v) QbC Y 0 rfl rfl rfl (Zz Y)
  ·exact obg [8,9,10] [] false rfl (fun _=>rfl) rfl (fun _ _ _ h=>nomatch h) fun D J w _ Y=>Qbr (vs:=[.slice a l.length ca,.agg (vc v).toArray]) (V:=fun x:Option Addr × Nat=>.slice x.1 (Qaq l v).length x.2) Qws rfl rfl (QiN _ v a ca l hl (by omega) (Rd.own' hr Y)) Y fun _ _ Y _=>⟨rfl,Y.put 2 (QQ8 rfl)⟩
  ·exact obg [8,11] [] false rfl (fun _=>rfl) rfl (fun _ _ _ h=>nomatch h) fun D J w _ Y=>Qas (vs:=[.slice (aOf (J 23)) ((Qaq l v).length) (cOf (J 23))]) (V:=.bool (Qbs (Qaq l v))) QuH rfl rfl (Qha _ (aOf (J 23)) (cOf (J 23)) (Qaq l v) (fun o ho=>hl o (Qb3 ho)) (Nat.le_trans (Qel l v) (by omega)) (Y.rd 2 rfl)) Y fun _ Y=>Zz Y
  ·exact obg [8,12] [] false rfl (fun _=>rfl) rfl (fun _ _ _ h=>nomatch h) fun D J w _ Y=>QbB rfl (Zz Y)
  ·exact oi [8,13] fun Y=>QcY (V:=.bool (!(Qbs (Qaq l v)))) rfl rfl (Zz Y)
  rintro J1 w8 J2 hJ Y
  replace hJ:J2=upd (mix (sq 12 15) J1 _) 26 (.bool (!(Qbs (Qaq l v)))):=hJ
  replace Y:Own w no w8 [blk b1 (vc v) 24,blk b3 (((vc vzero)++[(.slice none 0 0:Value),(.slice none 0 0:Value) ])++[(.slice none 0 0:Value) ]++(vc vzero)) 43,row (.slice (aOf (J1 23)) ((Qaq l v).length) (cOf (J1 23))) ((Qaq l v).map oc) 98 23]:=Y
  generalize (aOf (J1 23))=a9 at Y
  generalize (cOf (J1 23))=c10 at Y
  subst hJ
  refine Qak (t:=!(Qbs (Qaq l v))) rfl (fun c11=>?_) (fun c11=>?_)
  ·
   replace c11:=QbE c11
   refine Qae (Qab (Qaa (QcQ (vs:=[]) (cs:=((vc vzero)++[(.slice none 0 0:Value),(.slice none 0 0:Value) ])++[(.slice none 0 0:Value) ]++(vc vzero)) [(vc vzero)++[(.slice none 0 0:Value),(.slice none 0 0:Value) ],[(.slice none 0 0:Value)],vc vzero] [(vc vzero)++[(.slice none 0 0:Value),(.slice none 0 0:Value) ],[(.slice none 0 0:Value)],vc vzero] Qtp rfl (rfl) rfl rfl (Qaa (Qcz (V:=.agg (((vc vzero)++[(.slice none 0 0:Value),(.slice none 0 0:Value) ])++[(.slice none 0 0:Value) ]++(vc vzero)).toArray) (vs:=((vc vzero)++[(.slice none 0 0:Value),(.slice none 0 0:Value) ])++[(.slice none 0 0:Value) ]++(vc vzero)) (cs':=((vc vzero)++[(.slice none 0 0:Value),(.slice none 0 0:Value) ])++[(.slice none 0 0:Value) ]++(vc vzero)) QdB.1 Y 1 rfl rfl rfl rfl rfl (QQ8 rfl) (Qbq (Qbq (Qbq (Qb0 _) (Qat rfl (Qat rfl Qa2))) (Qat rfl Qa2)) (Qb0 _)) (Qaz rfl) fun w12 Y=>(Qaa (Qam (.bool false) (Qad (Qav ?_)))))))))
   refine ⟨_,Qct (cs:=((vc vzero)++[(.slice none 0 0:Value),(.slice none 0 0:Value) ])++[(.slice none 0 0:Value) ]++(vc vzero)) (V:=.bool false) results28 QdB Y 1 rfl rfl rfl rfl,?_⟩
   obtain ⟨hX,hY⟩:=QqV (v:=v) c11
   rw [hX,hY]
   exact ⟨(((none,0),(none,0)),(none,0)),rfl,(((Y.take 0).more _ (Qbi _ _ 106 7)).more _ (Qbi _ _ 102 2)).more _ (Qbi _ _ 98 23),trivial⟩
  replace c11:=Qbd c11
  refine Qap (Qae (Qab (Qaa (QaJ (cs:=(vc vzero)++[(.slice none 0 0:Value),(.slice none 0 0:Value) ]) Qgg rfl Y fun b13 w14 Y=>(Qad (Qae (Qab (Qaa (QaJ (cs:=((vc vzero)++[(.slice none 0 0:Value),(.slice none 0 0:Value) ])++[(.slice none 0 0:Value) ]++(vc vzero)) QqN rfl Y fun b15 w16 Y=>?_)))))))))
  replace Y:=Ow [blk b1 (vc v) 24,blk b3 (((vc vzero)++[(.slice none 0 0:Value),(.slice none 0 0:Value) ])++[(.slice none 0 0:Value) ]++(vc vzero)) 43,row (.slice a9 ((Qaq l v).length) c10) ((Qaq l v).map oc) 98 23,blk b13 ((vc vzero)++[(.slice none 0 0:Value),(.slice none 0 0:Value) ]) 38,blk b15 (((vc vzero)++[(.slice none 0 0:Value),(.slice none 0 0:Value) ])++[(.slice none 0 0:Value) ]++(vc vzero)) 43] Y
  refine Qad (Qae (Qae (Qab (Qaa (Qaf (.slice a l.length ca) (Qaa (Qa5 (n:=l.length) QbG (Rd.own' hr Y) (by simp) rfl (Qaa (Qaf (I6 0) (Qad (Qal ?_)))))))))))
  replace Y:=Y.more (row (.slice none 0 0) (List.map cec []) 106 7) (Qbi _ _ _ _)
  replace Y:=Y.more (row (.slice none 0 0) (List.map lsc []) 102 2) (Qbi _ _ _ _)
  replace Y:=Y.more (row (.slice none 0 0) (List.map oc []) 98 23) (Qbi _ _ _ _)
  obtain ⟨hq,hu0,hcl0⟩:=QkA hl hk1.1 c11
  refine QaE (fun J μ J' w'=>∃ (Jo:Env) (k:Nat) (s:Sta) (ae:Option Addr) (ce:Nat) (at_:Option Addr) (ct:Nat) (ao:Option Addr) (co:Nat) (O9:List Opn) (u:Vec),J'=upd (mix ([5,9,10,11]++sq 30 41) Jo J) 30 (I6 (k:Int))/\(k<=l.length)/\(s=Qdf (Qaq (l.take k) v))/\(O9=Qdy (l.take k) v)/\(u=Qbw (l.take k))/\(O9.length<=k)/\μ=l.length-k/\Own w no w' [blk b1 (vc v) 24,blk b3 (((vc vzero)++[(.slice none 0 0:Value),(.slice none 0 0:Value) ])++[(.slice none 0 0:Value) ]++(vc vzero)) 43,row (.slice a9 ((Qaq l v).length) c10) ((Qaq l v).map oc) 98 23,blk b13 ((vc s.known)++[(.slice ae s.ents.length ce:Value),(.slice at_ s.ticks.length ct:Value) ]) 38,blk b15 (((vc vzero)++[(.slice none 0 0:Value),(.slice none 0 0:Value) ])++[(.slice ao O9.length co:Value) ]++(vc u)) 43,row (.slice ae s.ents.length ce) (s.ents.map cec) 106 7,row (.slice at_ s.ticks.length ct) (s.ticks.map lsc) 102 2,row (.slice ao O9.length co) (O9.map oc) 98 23]) ?_ ?_
  ·exact ⟨_,_,0,szero,none,0,none,0,none,0,[],vzero,Qai (Qao (ds:=([5,9,10,11]++sq 30 41)) (Agr.refl _ _)) rfl,(by omega),rfl,rfl,rfl,(Nat.le_refl _),rfl,Y⟩
  rintro μ J' w17 ⟨Jo,k,s,ae,ce,at_,ct,ao,co,O9,u,rfl,hk,hsk,hO9,hku,hn9,rfl,Y⟩
  have hao:=Qss hu0 hsk hk
  refine Qae (Qab (Qaa (Qa0 rfl rfl (Qad (Qae (Qak (t:=decide ((k:Int)<((l.length:Nat):Int))) rfl (fun c18=>?_) (fun c18=>?_)))))))
  ·
   replace c18:=QQ1 c18
   refine Qap (Qae (Qal (Qae (Qab (Qaa (Qax QbG Qa3.1 (Rd.own' hr Y) rfl rfl (by omega) (by rw [QQ6];omega) (Qaa (Qa9 (j:=0) (vs:=oc (gd l k)) k Qa3 (Rd.own' hr Y) (Qa4 (by omega)) rfl rfl rfl (by omega) (Qaa (QaJ (cs:=oc (⟨(⟨0,0⟩:Dot),0,0,0,0,0,vzero⟩:Opn)) QhZ rfl Y fun b19 w20 Y=>(Qaa (Qcz (V:=.agg (oc (gd l k)).toArray) (vs:=oc (gd l k)) (cs':=oc (gd l k)) Qa3.1 Y 8 rfl rfl rfl rfl rfl (QQ8 rfl) (QcX _) (Qaz rfl) fun w21 Y=>(Qad (Qae ?_))))))))))))))
   have ⟨⟨hp1,hp2⟩,hp3,hp4⟩:=(hl _ (Qbo (l:=l) (i:=k) (by omega))).1
   have hp5:(gd l k).dot.rep<16:=((hq.dots _ (Qbo (l:=l) (i:=k) (by omega))).1).r1
   refine QaH HM (so 34 15++[none]) [] [0,1,3,0,8,24,0,120,248,0,512,1536,4088,0,16383,32767] [pv (Pq b19 (0+0)),pv (Pq b19 (0+0+0)),pv (.int .u8 (((gd l k).dot).rep)),pv (Pq b19 (0+0)),pv (Pq b19 (0+0+0)),pv (.int .u8 (((gd l k).dot).rep)),pv (Pq b15 (0+19)),pv (.pointer (some ⟨b15,0+19+(((gd l k).dot).rep).toNat,none⟩)),pv (.int .u32 (vat u (((gd l k).dot).rep).toNat)),pv (Pq b19 (0+0)),pv (Pq b19 (0+0+1)),pv (.int .u32 (((gd l k).dot).seq)),pv (.int .u32 (max (vat u (((gd l k).dot).rep).toNat) (((gd l k).dot).seq))),pv (Pq b15 (0+19)),pv (.pointer (some ⟨b15,0+19+(((gd l k).dot).rep).toNat,none⟩)),pn] (fun D J=>[blk b1 (vc v) 24,blk b3 (((vc vzero)++[(.slice none 0 0:Value),(.slice none 0 0:Value) ])++[(.slice none 0 0:Value) ]++(vc vzero)) 43,row (.slice a9 ((Qaq l v).length) c10) ((Qaq l v).map oc) 98 23,blk b13 ((vc s.known)++[(.slice ae s.ents.length ce:Value),(.slice at_ s.ticks.length ct:Value) ]) 38,cond (D 15) (blk b15 (((vc vzero)++[(.slice none 0 0:Value),(.slice none 0 0:Value) ])++[(.slice ao O9.length co:Value) ]++(vc (vset u (((gd l k).dot).rep).toNat (max (vat u (((gd l k).dot).rep).toNat) (((gd l k).dot).seq))))) 43) (blk b15 (((vc vzero)++[(.slice none 0 0:Value),(.slice none 0 0:Value) ])++[(.slice ao O9.length co:Value) ]++(vc u)) 43),row (.slice ae s.ents.length ce) (s.ents.map cec) 106 7,row (.slice at_ s.ticks.length ct) (s.ticks.map lsc) 102 2,row (.slice ao O9.length co) (O9.map oc) 98 23,blk b19 (oc (gd l k)) 98]) [] (by kernel_rfl) Y ⟨?_,?_,?_,?_,?_,?_,?_,?_,?_,?_,?_,?_,?_,?_,?_,?_,trivial⟩ ?_
   ·exact oi [] fun Y=>Qac Qa7 rfl (Zz Y)
   ·exact oi [0] fun Y=>Qac QbJ rfl (Zz Y)
   ·exact oi [1] fun Y=>QaN (.int .u8 (((gd l k).dot).rep)) QcI Y 8 (Zz Y)
   ·exact oi [] fun Y=>Qac Qa7 rfl (Zz Y)
   ·exact oi [3] fun Y=>Qac QbJ rfl (Zz Y)
   ·exact oi [4] fun Y=>QaN (.int .u8 (((gd l k).dot).rep)) QcI Y 8 (Zz Y)
   ·exact oi [] fun Y=>Qac Qix rfl (Zz Y)
   ·exact oi [5,6] fun Y=>Qb2 Qd0 QaU.1 rfl rfl (by omega) (by omega) (Zz Y)
   ·exact ob [7] [15] rfl rfl fun D J w Y=>Qmo (V:=.int .u32 (vat u (((gd l k).dot).rep).toNat)) QaU Y 4 rfl rfl (Qwg (n:=19) rfl (by omega) (by omega)) (Zz Y)
   ·exact oi [] fun Y=>Qac Qa7 rfl (Zz Y)
   ·exact oi [9] fun Y=>Qac QbN rfl (Zz Y)
   ·exact oi [10] fun Y=>QaN (.int .u32 (((gd l k).dot).seq)) QaU Y 8 (Zz Y)
   ·exact oi [8,11] fun Y=>Qmi rfl rfl (Zz Y)
   ·exact oi [] fun Y=>Qac Qix rfl (Zz Y)
   ·exact oi [2,13] fun Y=>Qb2 Qd0 QaU.1 rfl rfl (by omega) (by omega) (Zz Y)
   ·exact oi [12,14] fun Y=>Qcs (V:=.int .u32 (max (vat u (((gd l k).dot).rep).toNat) (((gd l k).dot).seq))) (cs':=((vc vzero)++[(.slice none 0 0:Value),(.slice none 0 0:Value) ])++[(.slice ao O9.length co:Value) ]++(vc (vset u (((gd l k).dot).rep).toNat (max (vat u (((gd l k).dot).rep).toNat) (((gd l k).dot).seq))))) QaU Y 4 rfl rfl rfl rfl (Qt8 (n:=19) rfl (i:=(((gd l k).dot).rep).toNat) (by omega) (by omega)) (Qtl (n:=19) rfl (by omega) (by omega)) fun _ Y=>⟨trivial,Y⟩
   rintro J1 w23 J2 hJ Y
   replace hJ:J2=mix (sq 34 15) J1 _:=hJ
   replace Y:Own w no w23 [blk b1 (vc v) 24,blk b3 (((vc vzero)++[(.slice none 0 0:Value),(.slice none 0 0:Value) ])++[(.slice none 0 0:Value) ]++(vc vzero)) 43,row (.slice a9 ((Qaq l v).length) c10) ((Qaq l v).map oc) 98 23,blk b13 ((vc s.known)++[(.slice ae s.ents.length ce:Value),(.slice at_ s.ticks.length ct:Value) ]) 38,blk b15 (((vc vzero)++[(.slice none 0 0:Value),(.slice none 0 0:Value) ])++[(.slice ao O9.length co:Value) ]++(vc (vset u (((gd l k).dot).rep).toNat (max (vat u (((gd l k).dot).rep).toNat) (((gd l k).dot).seq))))) 43,row (.slice ae s.ents.length ce) (s.ents.map cec) 106 7,row (.slice at_ s.ticks.length ct) (s.ticks.map lsc) 102 2,row (.slice ao O9.length co) (O9.map oc) 98 23,blk b19 (oc (gd l k)) 98]:=Y
   subst hJ
   refine Qae (Qae (Qab (Qaa (QaK (cs:=vc v) QbC Y 0 rfl rfl rfl (Qaa (Qac Qa7 rfl (Qaa (QbT (vs:=dc ((gd l k).dot)) QcV Y 8 rfl rfl rfl rfl (Qaa (Qas (vs:=[.agg (vc v).toArray,.agg (dc ((gd l k).dot)).toArray]) (V:=.bool (QbD v ((gd l k).dot))) QlR rfl rfl ?hc Y fun w24 Y=>?_))))))))))
   case hc=>exact (QfP _ v ((gd l k).dot) (by first|assumption|exact QcN (by omega) (by omega) (by omega) (by omega)))
   refine Qaa (QbB rfl (Qad (Qak (t:=!(QbD v ((gd l k).dot))) rfl (fun c25=>?_) (fun c25=>?_))))
   ·
    replace c25:=QbE c25
    refine Qae (Qab (Qaa (Qac QiA rfl (Qaa (QaN (.slice ao O9.length co) Qj5 Y 4 (Qaa (QaK (cs:=oc (gd l k)) Qa3 Y 8 rfl rfl rfl (Qaa (Qho (vals:=[.agg (oc (gd l k)).toArray]) (ls:=List.map oc ([gd l k]:List Opn)) Qkd rfl rfl rfl (Qbn (enc:=oc) (fun _=>rfl) _) (QaW QcX _) (QQ8 rfl) Y fun b26 w27 Y=>(Qaa (Qdj (ls':=(O9++[gd l k]).map oc) (n:=(O9++[gd l k]).length) Qkd Y 7 rfl rfl rfl (Y.rd 9 rfl) (QaW QcX _) (by simp only [QQ6,QQ7,List.length_cons,List.length_nil];omega) (by simp) (by simp) fun a28 c28 w29 Y=>?_)))))))))))
    replace Y:=Ow [blk b1 (vc v) 24,blk b3 (((vc vzero)++[(.slice none 0 0:Value),(.slice none 0 0:Value) ])++[(.slice none 0 0:Value) ]++(vc vzero)) 43,row (.slice a9 ((Qaq l v).length) c10) ((Qaq l v).map oc) 98 23,blk b13 ((vc s.known)++[(.slice ae s.ents.length ce:Value),(.slice at_ s.ticks.length ct:Value) ]) 38,blk b15 (((vc vzero)++[(.slice none 0 0:Value),(.slice none 0 0:Value) ])++[(.slice ao O9.length co:Value) ]++(vc (vset u (((gd l k).dot).rep).toNat (max (vat u (((gd l k).dot).rep).toNat) (((gd l k).dot).seq))))) 43,row (.slice ae s.ents.length ce) (s.ents.map cec) 106 7,row (.slice at_ s.ticks.length ct) (s.ticks.map lsc) 102 2,row (.slice a28 ((O9++[gd l k]).length) c28) ((O9++[gd l k]).map oc) 98 23,blk b19 (oc (gd l k)) 98,row (.slice (some ⟨b26,0,none⟩) 1 1) ([gd l k].map oc) 98 23] Y
    refine Qaa (Qac QiA rfl (Qaa (Qcs (V:=.slice a28 ((O9++[gd l k]).length) c28) (cs':=((vc vzero)++[(.slice none 0 0:Value),(.slice none 0 0:Value) ])++[(.slice a28 ((O9++[gd l k]).length) c28:Value) ]++(vc (vset u (((gd l k).dot).rep).toNat (max (vat u (((gd l k).dot).rep).toNat) (((gd l k).dot).seq))))) Qj5 Y 4 rfl rfl rfl rfl (QQ8 rfl) rfl fun w30 Y=>(Qad (QaI (Qab (Qaa (QaB (a:=(k:Int)) (b:=1) (c:=((k+1:Nat):Int)) rfl rfl (Qaj (by omega) (by omega)) (Qaa (Qaf (I6 ((k+1:Nat):Int)) (Qad ?_)))))))))))
    refine ⟨_,?_,_,k+1,s,ae,ce,at_,ct,a28,c28,O9++[gd l k],vset u (((gd l k).dot).rep).toNat (max (vat u (((gd l k).dot).rep).toNat) (((gd l k).dot).seq)),Qai (Qao (ds:=([5,9,10,11]++sq 30 41)) (by repeat (first|exact Agr.refl _ _|refine Agr.upd ?_ rfl|refine Agr.mix ?_ rfl))) rfl,(by omega),(Qnw hsk (by omega) c25),(Qrd hO9 (by omega) c25),(Qi0 hq hku (by omega)),(by simp only [QQ7,List.length_singleton];omega),rfl,Y.take 8⟩
    omega
   replace c25:=Qbd c25
   refine Qap (Qae ?_)
   have hst9:=Qod hu0 hsk (by omega) c25
   refine Qab (Qaa (QaK (cs:=(vc s.known)++[(.slice ae s.ents.length ce:Value),(.slice at_ s.ticks.length ct:Value) ]) Qb4 Y 3 rfl rfl rfl (Qaa (QaK (cs:=oc (gd l k)) Qa3 Y 8 rfl rfl rfl (Qaa (Qbr (α:=(Option Addr × Nat) × (Option Addr × Nat)) (vs:=[.agg ((vc s.known)++[(.slice ae s.ents.length ce:Value),(.slice at_ s.ticks.length ct:Value) ]).toArray,.agg (oc (gd l k)).toArray]) (V:=fun x:(Option Addr × Nat) × (Option Addr × Nat)=>.tuple #[.agg (vc (Qa1 s (gd l k)).known++[(.slice x.1.1 ((Qa1 s (gd l k)).ents).length x.1.2:Value),(.slice x.2.1 ((Qa1 s (gd l k)).ticks).length x.2.2:Value)]).toArray,I6 (Qc8 s (gd l k))]) (Lo:=fun x=>[row (.slice x.1.1 ((Qa1 s (gd l k)).ents).length x.1.2) (((Qa1 s (gd l k)).ents).map cec) 106 7,row (.slice x.2.1 ((Qa1 s (gd l k)).ticks).length x.2.2) (((Qa1 s (gd l k)).ticks).map lsc) 102 2]) (F:=fun _ _=>True) Qw4 rfl rfl ?hc Y fun x32 w31 Y _=>?_))))))
   case hc=>exact (Qoh _ s ae ce at_ ct (gd l k) (hl _ (Qbo (by omega))) hao.1 (by omega) (by omega) (Y.rd 5 rfl) (Y.rd 6 rfl))
   refine Qaa (Qaf (.tuple #[.agg ((vc ((Qa1 s (gd l k)).known))++[(.slice x32.1.1 (((Qa1 s (gd l k)).ents).length) x32.1.2:Value),(.slice x32.2.1 (((Qa1 s (gd l k)).ticks).length) x32.2.2:Value) ]).toArray,I6 (Qc8 s (gd l k))]) (Qaa (QaC (V:=.agg ((vc ((Qa1 s (gd l k)).known))++[(.slice x32.1.1 (((Qa1 s (gd l k)).ents).length) x32.1.2:Value),(.slice x32.2.1 (((Qa1 s (gd l k)).ticks).length) x32.2.2:Value) ]).toArray) rfl rfl (Qaa (QaC (V:=I6 (Qc8 s (gd l k))) rfl rfl (Qaa (QaJ (cs:=(vc vzero)++[(.slice none 0 0:Value),(.slice none 0 0:Value) ]) Qgg rfl Y fun b33 w34 Y=>?_)))))))
   replace Y:=Ow [blk b1 (vc v) 24,blk b3 (((vc vzero)++[(.slice none 0 0:Value),(.slice none 0 0:Value) ])++[(.slice none 0 0:Value) ]++(vc vzero)) 43,row (.slice a9 ((Qaq l v).length) c10) ((Qaq l v).map oc) 98 23,blk b13 ((vc s.known)++[(.slice ae s.ents.length ce:Value),(.slice at_ s.ticks.length ct:Value) ]) 38,blk b15 (((vc vzero)++[(.slice none 0 0:Value),(.slice none 0 0:Value) ])++[(.slice ao O9.length co:Value) ]++(vc (vset u (((gd l k).dot).rep).toNat (max (vat u (((gd l k).dot).rep).toNat) (((gd l k).dot).seq))))) 43,row (.slice ae s.ents.length ce) (s.ents.map cec) 106 7,row (.slice at_ s.ticks.length ct) (s.ticks.map lsc) 102 2,row (.slice ao O9.length co) (O9.map oc) 98 23,blk b19 (oc (gd l k)) 98,row (.slice x32.1.1 (((Qa1 s (gd l k)).ents).length) x32.1.2) (((Qa1 s (gd l k)).ents).map cec) 106 7,row (.slice x32.2.1 (((Qa1 s (gd l k)).ticks).length) x32.2.2) (((Qa1 s (gd l k)).ticks).map lsc) 102 2,blk b33 ((vc vzero)++[(.slice none 0 0:Value),(.slice none 0 0:Value) ]) 38] Y
   refine Qaa (Qcz (V:=.agg ((vc ((Qa1 s (gd l k)).known))++[(.slice x32.1.1 (((Qa1 s (gd l k)).ents).length) x32.1.2:Value),(.slice x32.2.1 (((Qa1 s (gd l k)).ticks).length) x32.2.2:Value) ]).toArray) (vs:=(vc ((Qa1 s (gd l k)).known))++[(.slice x32.1.1 (((Qa1 s (gd l k)).ents).length) x32.1.2:Value),(.slice x32.2.1 (((Qa1 s (gd l k)).ticks).length) x32.2.2:Value) ]) (cs':=(vc ((Qa1 s (gd l k)).known))++[(.slice x32.1.1 (((Qa1 s (gd l k)).ents).length) x32.1.2:Value),(.slice x32.2.1 (((Qa1 s (gd l k)).ticks).length) x32.2.2:Value) ]) Qb4.1 Y 11 rfl rfl rfl rfl rfl (QQ8 rfl) (Qbq (Qb0 _) (Qat rfl (Qat rfl Qa2))) (Qaz rfl) fun w35 Y=>(Qaa (Qam (I6 (Qc8 s (gd l k))) (Qad (Qae (Qae (Qab (Qaa (Qaf (I6 (Qc8 s (gd l k))) (Qaa (Qa8 (V:=.bool (!decide (Qc8 s (gd l k)=0))) (V':=.bool false) (Qck rfl rfl ⟨rfl,rfl⟩) (congrArg Value.bool (by rw [hst9.1];rfl)) (Qad (Qce rfl ?_)))))))))))))
   refine Qap (Qab (Qaa (QaK (cs:=(vc ((Qa1 s (gd l k)).known))++[(.slice x32.1.1 (((Qa1 s (gd l k)).ents).length) x32.1.2:Value),(.slice x32.2.1 (((Qa1 s (gd l k)).ticks).length) x32.2.2:Value) ]) Qb4 Y 11 rfl rfl rfl (Qaa (Qcz (V:=.agg ((vc ((Qa1 s (gd l k)).known))++[(.slice x32.1.1 (((Qa1 s (gd l k)).ents).length) x32.1.2:Value),(.slice x32.2.1 (((Qa1 s (gd l k)).ticks).length) x32.2.2:Value) ]).toArray) (vs:=(vc ((Qa1 s (gd l k)).known))++[(.slice x32.1.1 (((Qa1 s (gd l k)).ents).length) x32.1.2:Value),(.slice x32.2.1 (((Qa1 s (gd l k)).ticks).length) x32.2.2:Value) ]) (cs':=(vc ((Qa1 s (gd l k)).known))++[(.slice x32.1.1 (((Qa1 s (gd l k)).ents).length) x32.1.2:Value),(.slice x32.2.1 (((Qa1 s (gd l k)).ticks).length) x32.2.2:Value) ]) Qb4.1 Y 3 rfl rfl rfl rfl rfl (QQ8 rfl) (Qbq (Qb0 _) (Qat rfl (Qat rfl Qa2))) (Qaz rfl) fun w36 Y=>(Qad (Qab (Qaa (QaB (a:=(k:Int)) (b:=1) (c:=((k+1:Nat):Int)) rfl rfl (Qaj (by omega) (by omega)) (Qaa (Qaf (I6 ((k+1:Nat):Int)) (Qad ?_))))))))))))
   have ho:=Y.sel [0,1,2,3,4,9,10,7] (L':=[blk b1 (vc v) 24,blk b3 (((vc vzero)++[(.slice none 0 0:Value),(.slice none 0 0:Value) ])++[(.slice none 0 0:Value) ]++(vc vzero)) 43,row (.slice a9 ((Qaq l v).length) c10) ((Qaq l v).map oc) 98 23,blk b13 ((vc ((Qa1 s (gd l k)).known))++[(.slice x32.1.1 (((Qa1 s (gd l k)).ents).length) x32.1.2:Value),(.slice x32.2.1 (((Qa1 s (gd l k)).ticks).length) x32.2.2:Value) ]) 38,blk b15 (((vc vzero)++[(.slice none 0 0:Value),(.slice none 0 0:Value) ])++[(.slice ao O9.length co:Value) ]++(vc (vset u (((gd l k).dot).rep).toNat (max (vat u (((gd l k).dot).rep).toNat) (((gd l k).dot).seq))))) 43,row (.slice x32.1.1 (((Qa1 s (gd l k)).ents).length) x32.1.2) (((Qa1 s (gd l k)).ents).map cec) 106 7,row (.slice x32.2.1 (((Qa1 s (gd l k)).ticks).length) x32.2.2) (((Qa1 s (gd l k)).ticks).map lsc) 102 2,row (.slice ao O9.length co) (O9.map oc) 98 23]) (by decide) rfl
   replace Y:=ho
   refine ⟨_,?_,_,k+1,(Qa1 s (gd l k)),x32.1.1,x32.1.2,x32.2.1,x32.2.2,ao,co,O9,vset u (((gd l k).dot).rep).toNat (max (vat u (((gd l k).dot).rep).toNat) (((gd l k).dot).seq)),Qai (Qao (ds:=([5,9,10,11]++sq 30 41)) (by repeat (first|exact Agr.refl _ _|refine Agr.upd ?_ rfl|refine Agr.mix ?_ rfl))) rfl,(by omega),hst9.2,(QsU hO9 (by omega) c25),(Qi0 hq hku (by omega)),(by omega),rfl,Y.take 8⟩
   omega
  replace c18:=QQ2 c18
  refine QaI (Qae (Qab (Qaa (QaK (cs:=(vc s.known)++[(.slice ae s.ents.length ce:Value),(.slice at_ s.ticks.length ct:Value) ]) Qb4 Y 3 rfl rfl rfl (Qaa (Qac Qe4 rfl (Qaa (Qcz (V:=.agg ((vc s.known)++[(.slice ae s.ents.length ce:Value),(.slice at_ s.ticks.length ct:Value) ]).toArray) (vs:=(vc s.known)++[(.slice ae s.ents.length ce:Value),(.slice at_ s.ticks.length ct:Value) ]) (cs':=((vc s.known)++[(.slice ae s.ents.length ce:Value),(.slice at_ s.ticks.length ct:Value) ])++[(.slice ao O9.length co:Value) ]++(vc u)) Qb4.1 Y 4 rfl rfl rfl rfl rfl (QQ8 rfl) (Qbq (Qb0 _) (Qat rfl (Qat rfl Qa2))) (QpT rfl) fun w37 Y=>(Qad (Qae (Qab (Qaa (QaK (cs:=((vc s.known)++[(.slice ae s.ents.length ce:Value),(.slice at_ s.ticks.length ct:Value) ])++[(.slice ao O9.length co:Value) ]++(vc u)) QdB Y 4 rfl rfl rfl (Qaa (Qcz (V:=.agg (((vc s.known)++[(.slice ae s.ents.length ce:Value),(.slice at_ s.ticks.length ct:Value) ])++[(.slice ao O9.length co:Value) ]++(vc u)).toArray) (vs:=((vc s.known)++[(.slice ae s.ents.length ce:Value),(.slice at_ s.ticks.length ct:Value) ])++[(.slice ao O9.length co:Value) ]++(vc u)) (cs':=((vc s.known)++[(.slice ae s.ents.length ce:Value),(.slice at_ s.ticks.length ct:Value) ])++[(.slice ao O9.length co:Value) ]++(vc u)) QdB.1 Y 1 rfl rfl rfl rfl rfl (QQ8 rfl) (Qbq (Qbq (Qbq (Qb0 _) (Qat rfl (Qat rfl Qa2))) (Qat rfl Qa2)) (Qb0 _)) (Qaz rfl) fun w38 Y=>(Qaa (Qam (.bool true) (Qad (Qav ?_)))))))))))))))))))
  refine ⟨_,Qct (cs:=((vc s.known)++[(.slice ae s.ents.length ce:Value),(.slice at_ s.ticks.length ct:Value) ])++[(.slice ao O9.length co:Value) ]++(vc u)) (V:=.bool true) results28 QdB Y 1 rfl rfl rfl rfl,?_⟩
  obtain ⟨hX,hY⟩:=QpL hk1.1 hk1.2 c11
  rw [hX,hY,QpJ (by omega) hsk hO9 hku]
  have ho:=Y.sel [5,6,7] (L':=[row (.slice ae s.ents.length ce) (s.ents.map cec) 106 7,row (.slice at_ s.ticks.length ct) (s.ticks.map lsc) 102 2,row (.slice ao O9.length co) (O9.map oc) 98 23]) (by decide) rfl
  exact ⟨(((ae,ce),(at_,ct)),(ao,co)),rfl,ho,trivial⟩
 refine Qbv (so 12 15) [] [0,1,3,7,15,31,63,127,255,511,511,2047,4095,8191,16383] [pv (.slice a l.length ca),pv (.bool (QbY l)),pv (.bool (!(QbY l))),pv (.bool (!(QbY l))),pg ((!(QbY l)) == false) (.slice a l.length ca),pg ((!(QbY l)) == false) (I6 ((l.length:Nat):Int)),pg ((!(QbY l)) == false) (.bool (decide (30<((l.length:Nat):Int)))),pv (.bool true),pv (.bool true),pg false (.bool true),pg false (.bool true),pg false (.bool true),pg false (.bool true),pg false (.bool true),pv (.bool true)] (fun _ _=>_) [14] (by kernel_rfl) Y ⟨?_,?_,?_,?_,?_,?_,?_,?_,?_,?_,?_,?_,?_,?_,?_,trivial⟩ ?_
 ·exact oi [] fun Y=>Qaf (.slice a l.length ca) (Zz Y)
 ·exact oi [0] fun Y=>Qas (vs:=[.slice a l.length ca]) (V:=.bool (QbY l)) Qwm rfl rfl (QmL _ a ca l hl (Rd.own' hr Y)) Y fun _ Y=>Zz Y
 ·exact oi [1] fun Y=>QbB rfl (Zz Y)
 ·exact oi [2] fun Y=>Qaf (.bool (!(QbY l))) (Zz Y)
 ·exact ogi [3] fun hG Y=>Qaf (.slice a l.length ca) (Zz Y)
 ·exact oyi [3,4] [4] fun hG Y=>Qa5 (n:=l.length) QbG (Rd.own' hr Y) (by simp) rfl (Zz Y)
 ·exact oyi [3,5] [5] fun hG Y=>Qca rfl rfl (Zz Y)
 ·exact oi [3,6] fun Y=>Qa8 (V:=.bool ((!(QbY l))||(decide (30<((l.length:Nat):Int))))) (V':=.bool true) (QbP (h':=decide (30<((l.length:Nat):Int))) rfl rfl rfl ⟨rfl,rfl⟩) (congrArg Value.bool (QrF hk1)) (Zz Y)
 ·exact oi [7] fun Y=>Qaf (.bool true) (Zz Y)
 ·exact obg [] [] true rfl (fun _=>rfl) rfl (fun _ _ _ _ h=>h) (fun _ _ _ h=>nomatch h)
 ·exact obg [] [] true rfl (fun _=>rfl) rfl (fun _ _ _ _ h=>h) (fun _ _ _ h=>nomatch h)
 ·exact obg [] [] true rfl (fun _=>rfl) rfl (fun _ _ _ _ h=>h) (fun _ _ _ h=>nomatch h)
 ·exact obg [] [] true rfl (fun _=>rfl) rfl (fun _ _ _ _ h=>h) (fun _ _ _ h=>nomatch h)
 ·exact obg [] [] true rfl (fun _=>rfl) rfl (fun _ _ _ _ h=>h) (fun _ _ _ h=>nomatch h)
 ·exact oi [8] fun Y=>QcY (g:=true) (V:=.bool true) rfl rfl (Zz Y)
 rintro J1 w40 J2 hJ Y
 replace hJ:J2=upd (mix (sq 12 15) J1 _) 26 (.bool true):=hJ
 subst hJ
 refine QcO rfl ?_
 refine Qae (Qab (Qaa (QcQ (vs:=[]) (cs:=((vc vzero)++[(.slice none 0 0:Value),(.slice none 0 0:Value) ])++[(.slice none 0 0:Value) ]++(vc vzero)) [(vc vzero)++[(.slice none 0 0:Value),(.slice none 0 0:Value) ],[(.slice none 0 0:Value)],vc vzero] [(vc vzero)++[(.slice none 0 0:Value),(.slice none 0 0:Value) ],[(.slice none 0 0:Value)],vc vzero] Qtp rfl (rfl) rfl rfl (Qaa (Qcz (V:=.agg (((vc vzero)++[(.slice none 0 0:Value),(.slice none 0 0:Value) ])++[(.slice none 0 0:Value) ]++(vc vzero)).toArray) (vs:=((vc vzero)++[(.slice none 0 0:Value),(.slice none 0 0:Value) ])++[(.slice none 0 0:Value) ]++(vc vzero)) (cs':=((vc vzero)++[(.slice none 0 0:Value),(.slice none 0 0:Value) ])++[(.slice none 0 0:Value) ]++(vc vzero)) QdB.1 Y 1 rfl rfl rfl rfl rfl (QQ8 rfl) (Qbq (Qbq (Qbq (Qb0 _) (Qat rfl (Qat rfl Qa2))) (Qat rfl Qa2)) (Qb0 _)) (Qaz rfl) fun w41 Y=>(Qaa (Qam (.bool false) (Qad (Qav ?_)))))))))
 refine ⟨_,Qct (cs:=((vc vzero)++[(.slice none 0 0:Value),(.slice none 0 0:Value) ])++[(.slice none 0 0:Value) ]++(vc vzero)) (V:=.bool false) results28 QdB Y 1 rfl rfl rfl rfl,?_⟩
 obtain ⟨hX,hY⟩:=QqR (v:=v) hk1
 rw [hX,hY]
 exact ⟨(((none,0),(none,0)),(none,0)),rfl,(((Y.take 0).more _ (Qbi _ _ 106 7)).more _ (Qbi _ _ 102 2)).more _ (Qbi _ _ 98 23),trivial⟩
end Tt
end Go.Proofs
namespace Go.Proofs
open Go Go.Vx Go.RowKit
open Tryz
namespace Tt
theorem Qpl (w:World) (x o:Opn) (bx:Nat) (he:QcS o.dot) (hc:QbW w bx (oc o)):Calls prog 131 #[.agg (oc x).toArray,.pointer (some ⟨bx,0,none⟩)] w (fun r w'=>r = .returned (.bool (Qay x o))/\Own w no w' []):=by
 refine Qah (n:=7) func131 rfl ntmps131 rfl ?_
 have Y:=Own.start w
 refine Qae (Qab (Qaa (QaY (V:=.agg (oc x).toArray) (cs:=oc x) rfl rfl Y fun b1 w2 Y=>(Qaa (Qam (.bool false) (Qad (Qae (Qab (Qaa (QaK (cs:=oc x) Qa3 Y 0 rfl rfl rfl (Qaa (QkK (vs:=oc o) Qa3 (hc.own' Y) rfl rfl rfl (Qaa (Qas (vs:=[.agg (oc x).toArray,.agg (oc o).toArray]) (V:=.bool (Qay x o)) QsG rfl rfl ?hc Y fun w3 Y=>?_))))))))))))))
 case hc=>exact (Qid _ x o (by assumption))
 refine Qaa (Qam (.bool (Qay x o)) (Qad (Qav ?_)))
 refine ⟨_,Qan (V:=.bool (Qay x o)) results131 rfl,(Zr Y ?_)⟩
 rfl
theorem Qu0 (w:World) (a:Option Addr) (c:Nat) (l:List Opn) (o:Opn) (bx:Nat) (he:QcS o.dot) (hc:QbW w bx (oc o)) (hr:Rd w (.slice a l.length c) 23 (l.map oc)):Calls prog 89 #[.slice a l.length c,.func (.func 131) #[] #[.pointer (some ⟨bx,0,none⟩)]] w (fun e w'=>e = .returned (.int .i64 (Qpa (fun x=>Qay x o) l))/\Own w no w' []):=by
 refine Qah (n:=19) func89 rfl ntmps89 rfl ?_
 have Y:=Own.start w
 have hn:=hr.sml
 refine Qae (Qab (Qaa (Qam (I6 0) (Qad (Qae (Qae (Qab (Qaa (Qaf (.slice a l.length c) (Qaa (Qa5 (n:=l.length) QbG (Rd.own' hr Y) (by simp) rfl (Qaa (Qaf (I6 0) (Qad (Qal (QaE (fun J μ J' w'=>∃ (Jo:Env) (k:Nat),J'=upd (mix ([4,5]++sq 8 11) Jo J) 8 (I6 (k:Int))/\(k<=l.length)/\(∀ j:Nat,j<k->Qay (gd l j) o=false)/\μ=l.length-k/\Own w no w' []) ?_ ?_))))))))))))))))
 ·exact ⟨_,_,0,Qai (Qao (ds:=([4,5]++sq 8 11)) (Agr.refl _ _)) rfl,(by omega),(fun j hj=>absurd hj (Nat.not_lt_zero j)),rfl,Y⟩
 rintro μ J' w1 ⟨Jo,k,rfl,hk,hno,rfl,Y⟩
 refine Qae (Qab (Qaa (Qa0 rfl rfl (Qad (Qae (Qak (t:=decide ((k:Int)<((l.length:Nat):Int))) rfl (fun c2=>?_) (fun c2=>?_)))))))
 ·
  replace c2:=QQ1 c2
  refine Qap (Qae (Qal (Qae (Qab (Qaa (Qaf (I6 (k:Int)) (Qaa (Qam (I6 (k:Int)) (Qad (Qae (Qab (Qaa (Qaf (.func (.func 131) #[] #[Pq bx 0]) (Qaa (Qaf (.slice a l.length c) (Qaa (Qaf (I6 (k:Int)) (Qaa (Qax QbG Qa3.1 (Rd.own' hr Y) rfl rfl (by omega) (by rw [QQ6];omega) (Qaa (Qa9 (j:=0) (vs:=oc (gd l k)) k Qa3 (Rd.own' hr Y) (Qa4 (by omega)) rfl rfl rfl (by omega) (Qaa (Qfu (vs:=[.agg (oc (gd l k)).toArray]) (cs:=[Pq bx 0]) (V:=.bool (Qay (gd l k) o)) Qv2 rfl rfl (Qpl _ (gd l k) o bx he (hc.own' Y)) Y fun w3 Y=>(Qad (Qak (t:=Qay (gd l k) o) rfl (fun c4=>?_) (fun c4=>?_))))))))))))))))))))))))))
  ·
   refine Qae (Qab (Qaa (Qaf (I6 (k:Int)) (Qaa (Qam (I6 (k:Int)) (Qad (Qav ?_)))))))
   refine ⟨_,Qan (V:=I6 (k:Int)) results89 rfl,(Zr Y ?_)⟩
   exact congrArg (Value.int .i64) (QsK (p:=fun x=>Qay x o) (by omega) hno c4).symm
  refine Qap (Qab (Qaa (QaB (a:=(k:Int)) (b:=1) (c:=(k:Int)+1) rfl rfl (Qbx (by omega) (by omega)) (Qaa (Qaf (I6 ((k:Int)+1)) (Qad ?_))))))
  refine ⟨_,?_,_,k+1,Qai (Qao (ds:=([4,5]++sq 8 11)) (by repeat (first|exact Agr.refl _ _|refine Agr.upd ?_ rfl|refine Agr.mix ?_ rfl))) rfl,(by omega),(Qn9 (p:=fun x=>Qay x o) hno c4),rfl,Y.take 0⟩
  omega
 replace c2:=QQ2 c2
 refine QaI (Qae (Qab (Qaa (Qam (I6 (-1)) (Qad (Qav ?_))))))
 refine ⟨_,Qan (V:=I6 (-1)) results89 rfl,(Zr Y ?_)⟩
 exact congrArg (Value.int .i64) (Qvi (p:=fun x=>Qay x o) fun j hj=>hno j (by omega)).symm
theorem Qtk (w:World) (a:Option Addr) (c:Nat) (l:List Opn) (o:Opn) (bx:Nat) (he:QcS o.dot) (hc:QbW w bx (oc o)) (hr:Rd w (.slice a l.length c) 23 (l.map oc)):Calls prog 44 #[.slice a l.length c,.func (.func 131) #[] #[.pointer (some ⟨bx,0,none⟩)]] w (fun e w'=>e = .returned (.bool (l.any fun x=>Qay x o))/\Own w no w' []):=by
 refine Qah (n:=9) func44 rfl ntmps44 rfl ?_
 have Y:=Own.start w
 refine Qae (Qab (Qaa (Qam (.bool false) (Qad (Qae (Qab (Qaa (Qaf (.slice a l.length c) (Qaa (Qaf (.func (.func 131) #[] #[Pq bx 0]) (Qaa (Qas (vs:=[.slice a l.length c,.func (.func 131) #[] #[Pq bx 0]]) (V:=I6 (Qpa (fun x=>Qay x o) l)) Qwr rfl rfl ?hc Y fun w1 Y=>?_))))))))))))
 case hc=>exact (Qu0 _ a c l o bx (by assumption) (hc.own' Y) (Rd.own' hr Y))
 refine Qaa (QcZ rfl rfl (Qaa (Qam (.bool (decide (0<=Qpa (fun x=>Qay x o) l))) (Qad (Qav ?_)))))
 refine ⟨_,Qan (V:=.bool (decide (0<=Qpa (fun x=>Qay x o) l))) results44 rfl,(Zr Y ?_)⟩
 exact congrArg Value.bool Qt3
theorem QqX (w:World) (a:Option Addr) (c:Nat) (l:List Opn) (o:Opn) (he:QcS o.dot) (hr:Rd w (.slice a l.length c) 23 (l.map oc)):Calls prog 82 #[.slice a l.length c,.agg (oc o).toArray] w (fun e w'=>e = .returned (.bool (Qbm l o))/\Own w no w' []):=by
 refine Qah (n:=13) func82 rfl ntmps82 rfl ?_
 have Y:=Own.start w
 refine Qae (Qab (Qaa (QaY (V:=.agg (oc o).toArray) (cs:=oc o) rfl rfl Y fun b1 w2 Y=>(Qaa (Qam (.bool false) (Qad (Qae (Qbv (so 5 8++[some 4]) [] [0,1,3,7,7,31,63,127,255] [pv (.agg (oc o).toArray),pv (.bool (QaX o)),pv (.bool (QaX o)),pg ((QaX o) == true) (.slice a l.length c),pg ((QaX o) == true) (.func (.func 131) #[] #[Pq b1 0]),pg ((QaX o) == true) (.bool (l.any fun x=>Qay x o)),pg ((QaX o) == true) (.bool (!(l.any fun x=>Qay x o))),pv (.bool ((QaX o)&&(!(l.any fun x=>Qay x o)))),pv (.bool ((QaX o)&&(!(l.any fun x=>Qay x o))))] (fun _ _=>_) [8] (by kernel_rfl) Y ⟨?_,?_,?_,?_,?_,?_,?_,?_,?_,trivial⟩ ?_))))))))
 ·exact oi [] fun Y=>QaK (cs:=oc o) Qa3 Y 0 rfl rfl rfl (Zz Y)
 ·exact oi [0] fun Y=>Qas (vs:=[.agg (oc o).toArray]) (V:=.bool (QaX o)) QuK rfl rfl (QqM _ o) Y fun _ Y=>Zz Y
 ·exact oi [1] fun Y=>Qaf (.bool (QaX o)) (Zz Y)
 ·exact ogi [2] fun hG Y=>Qaf (.slice a l.length c) (Zz Y)
 ·exact ogi [2] fun hG Y=>QcL (cs:=[.pointer (some ⟨b1,0,none⟩)]) rfl rfl (Zz Y)
 ·exact oyi [2,3,4] [3,4] fun hG Y=>Qas (vs:=[.slice a l.length c,.func (.func 131) #[] #[.pointer (some ⟨b1,0,none⟩)]]) (V:=.bool (l.any fun x=>Qay x o)) Quk rfl rfl (Qtk _ a c l o b1 (by assumption) (Y.cellsf 0 rfl) (Rd.own' hr Y)) Y fun _ Y=>Zz Y
 ·exact oyi [2,5] [5] fun hG Y=>QbB rfl (Zz Y)
 ·exact oi [2,6] fun Y=>Qbg (h':=!(l.any fun x=>Qay x o)) rfl rfl rfl (Zz Y)
 ·exact oi [7] fun Y=>Qam (.bool ((QaX o)&&(!(l.any fun x=>Qay x o)))) (Zz Y)
 rintro J1 w5 J2 hJ Y
 replace hJ:J2=upd (mix (sq 5 8++[4]) J1 _) 4 (.bool ((QaX o)&&(!(l.any fun x=>Qay x o)))):=hJ
 subst hJ
 refine Qav ?_
 refine ⟨_,Qan (V:=.bool ((QaX o)&&(!(l.any fun x=>Qay x o)))) results82 rfl,(Zr Y ?_)⟩
 rfl
end Tt
end Go.Proofs
namespace Go.Proofs
open Go Go.Vx Go.RowKit
open Tryz
namespace Tt
theorem Qq4 (w:World) (t:Tal) (o:Opn) (ht:QbH t.set.ctx) (hO:QbL o):Calls prog 83 #[.agg (talc t).toArray,.agg (oc o).toArray] w (fun e w'=>e = .returned (tv (QcT t o))/\Own w no w' []):=by
 refine Qah (n:=30) func83 rfl ntmps83 rfl ?_
 have Y:=Own.start w
 have ⟨_,_,_,_,⟨hq1,hq2⟩,_,ho⟩:=hO
 refine Qae (Qab (Qaa (QaY (V:=.agg (talc t).toArray) (cs:=talc t) rfl rfl Y fun b1 w2 Y=>(Qaa (QaY (V:=.agg (oc o).toArray) (cs:=oc o) rfl rfl Y fun b3 w4 Y=>(Qaa (QaJ (cs:=talc (⟨0,(⟨(⟨0,0⟩:Dot),0,0,0,0,0,vzero⟩:Opn),false⟩:Tal)) Qku rfl Y fun b5 w6 Y=>(Qad (Qae (Qal (Qae (Qab (Qaa (Qac Qbz rfl (Qaa (QaN (.int .u8 o.kind) QcI Y 1 (Qaa (QaT rfl rfl (Qaa (Qam (.bool (decide (o.kind=1))) (Qad (Qak (t:=decide (o.kind=1)) rfl (fun c7=>?_) (fun c7=>?_)))))))))))))))))))))))
 ·
  replace c7:=QQ1 c7
  refine Qab (Qaa (Qac Qio rfl (Qaa (QaN (.int .u32 t.sum) QaU Y 0 (Qaa (Qac QcP rfl (Qaa (QaN (I7 o.qty) Qar Y 1 (Qaa (QbV QiB QiZ rfl (QeX (by omega) (by omega)) (Qaa (QaB (a:=t.sum) (b:=o.qty) (c:=(t.sum+o.qty)%4294967296) rfl rfl (Qhy _) (Qaa (Qac Qio rfl (Qaa (Qcs (V:=.int .u32 ((t.sum+o.qty)%4294967296)) (cs':=talc (⟨(t.sum+o.qty)%4294967296,t.set,t.has⟩:Tal)) QaU Y 0 rfl rfl rfl rfl (QQ8 rfl) rfl fun w8 Y=>?_))))))))))))))))
  replace Y:=Ow [blk b1 (talc (⟨(t.sum+o.qty)%4294967296,t.set,t.has⟩:Tal)) 147,blk b3 (oc o) 98,blk b5 (talc (⟨0,(⟨(⟨0,0⟩:Dot),0,0,0,0,0,vzero⟩:Opn),false⟩:Tal)) 147] Y
  refine Qad (Qae (Qab (Qaa (QaK (cs:=talc (⟨(t.sum+o.qty)%4294967296,t.set,t.has⟩:Tal)) QeT Y 0 rfl rfl rfl (Qaa (Qcz (V:=.agg (talc (⟨(t.sum+o.qty)%4294967296,t.set,t.has⟩:Tal)).toArray) (vs:=talc (⟨(t.sum+o.qty)%4294967296,t.set,t.has⟩:Tal)) (cs':=talc (⟨(t.sum+o.qty)%4294967296,t.set,t.has⟩:Tal)) QeT.1 Y 2 rfl rfl rfl rfl rfl (QQ8 rfl) (Qgv _) (Qaz rfl) fun w9 Y=>(Qad (Qav ?_))))))))
  refine ⟨_,QcA (cs:=talc (⟨(t.sum+o.qty)%4294967296,t.set,t.has⟩:Tal)) results83 QeT Y 2 rfl rfl rfl,(Zr Y ?_)⟩
  unfold QcT
  rw [if_pos c7];rfl
 replace c7:=QQ2 c7
 refine Qae (Qbv (so 17 9++[some 16]) [] [0,1,3,7,15,31,15,127,255,511] [pv (Pq b1 (0+24)),pv (.bool t.has),pv (.bool (!t.has)),pv (.bool (!t.has)),pg ((!t.has) == false) (Pq b1 (0+1)),pg ((!t.has) == false) (.agg (oc t.set).toArray),pg ((!t.has) == false) (.agg (oc o).toArray),pg ((!t.has) == false) (.bool (Qc7 t.set o)),pv (.bool ((!t.has)||(Qc7 t.set o))),pv (.bool ((!t.has)||(Qc7 t.set o)))] (fun _ _=>_) [9] (by kernel_rfl) Y ⟨?_,?_,?_,?_,?_,?_,?_,?_,?_,?_,trivial⟩ ?_)
 ·exact oi [] fun Y=>Qac QkG rfl (Zz Y)
 ·exact oi [0] fun Y=>QaN (.bool t.has) QlF Y 0 (Zz Y)
 ·exact oi [1] fun Y=>QbB rfl (Zz Y)
 ·exact oi [2] fun Y=>Qaf (.bool (!t.has)) (Zz Y)
 ·exact ogi [3] fun hG Y=>Qac Qh9 rfl (Zz Y)
 ·exact oyi [3,4] [4] fun hG Y=>QbT (vs:=oc t.set) Qa3 Y 0 rfl rfl rfl rfl (Zz Y)
 ·exact ogi [3] fun hG Y=>QaK (cs:=oc o) Qa3 Y 1 rfl rfl rfl (Zz Y)
 ·exact oyi [3,5,6] [5,6] fun hG Y=>Qas (vs:=[.agg (oc t.set).toArray,.agg (oc o).toArray]) (V:=.bool (Qc7 t.set o)) QuD rfl rfl (QpQ _ t.set o (by assumption) (by assumption)) Y fun _ Y=>Zz Y
 ·exact oi [3,7] fun Y=>QbP (h':=Qc7 t.set o) rfl rfl rfl (Zz Y)
 ·exact oi [8] fun Y=>Qam (.bool ((!t.has)||(Qc7 t.set o))) (Zz Y)
 rintro J1 w11 J2 hJ Y
 replace hJ:J2=upd (mix (sq 17 9++[16]) J1 _) 16 (.bool ((!t.has)||(Qc7 t.set o))):=hJ
 subst hJ
 refine Qak (t:=(!t.has)||(Qc7 t.set o)) rfl (fun c12=>?_) (fun c12=>?_)
 ·
  refine Qab (Qaa (QaK (cs:=oc o) Qa3 Y 1 rfl rfl rfl (Qaa (Qac Qh9 rfl (Qaa (Qcz (V:=.agg (oc o).toArray) (vs:=oc o) (cs':=talc (⟨t.sum,o,t.has⟩:Tal)) Qa3.1 Y 0 rfl rfl rfl rfl rfl (QQ8 rfl) (QcX _) (Qq9 _ _) fun w13 Y=>?_))))))
  replace Y:=Ow [blk b1 (talc (⟨t.sum,o,t.has⟩:Tal)) 147,blk b3 (oc o) 98,blk b5 (talc (⟨0,(⟨(⟨0,0⟩:Dot),0,0,0,0,0,vzero⟩:Opn),false⟩:Tal)) 147] Y
  refine Qaa (Qac QkG rfl (Qaa (Qcs (V:=.bool true) (cs':=talc (⟨t.sum,o,true⟩:Tal)) QlF Y 0 rfl rfl rfl rfl (QQ8 rfl) rfl fun w14 Y=>(Qad (Qae (Qab (Qaa (QaK (cs:=talc (⟨t.sum,o,true⟩:Tal)) QeT Y 0 rfl rfl rfl (Qaa (Qcz (V:=.agg (talc (⟨t.sum,o,true⟩:Tal)).toArray) (vs:=talc (⟨t.sum,o,true⟩:Tal)) (cs':=talc (⟨t.sum,o,true⟩:Tal)) QeT.1 Y 2 rfl rfl rfl rfl rfl (QQ8 rfl) (Qgv _) (Qaz rfl) fun w15 Y=>(Qad (Qav ?_))))))))))))
  refine ⟨_,QcA (cs:=talc (⟨t.sum,o,true⟩:Tal)) results83 QeT Y 2 rfl rfl rfl,(Zr Y ?_)⟩
  unfold QcT
  rw [if_neg c7,if_pos c12];rfl
 have c12r:=Qfa c12
 replace c12:=Qe8 c12
 replace c12:=Qbd c12
 refine Qap (Qae (Qab (Qaa (QaK (cs:=talc t) QeT Y 0 rfl rfl rfl (Qaa (Qcz (V:=.agg (talc t).toArray) (vs:=talc t) (cs':=talc t) QeT.1 Y 2 rfl rfl rfl rfl rfl (QQ8 rfl) (Qgv _) (Qaz rfl) fun w16 Y=>?_))))))
 replace Y:=Ow [blk b1 (talc t) 147,blk b3 (oc o) 98,blk b5 (talc t) 147] Y
 refine Qad (Qav ?_)
 refine ⟨_,QcA (cs:=talc t) results83 QeT Y 2 rfl rfl rfl,(Zr Y ?_)⟩
 unfold QcT
 rw [if_neg c7,if_neg (by rw [c12,c12r];decide)];rfl
end Tt
end Go.Proofs
namespace Go.Proofs
open Go Go.Vx Go.RowKit
open Tryz
namespace Tt
theorem Qrn (w:World) (a:Option Addr) (c:Nat) (l:List Opn) (cart:Int) (hl:∀ o∈l,QbL o) (hlen:l.length<=1000) (hr:Rd w (.slice a l.length c) 23 (l.map oc)) (hsortU:Qg2 prog 134 .u16 32):Calls prog 37 #[.slice a l.length c,.int .u16 cart] w (fun e w'=>∃ x:Option Addr × Nat,e = .returned (.agg [.int .u16 (Qb9 l cart).cart,.slice x.1 (Qb9 l cart).lines.length x.2,.bool (Qb9 l cart).out,.int .u32 (Qb9 l cart).tick].toArray)/\Own w no w' [row (.slice x.1 (Qb9 l cart).lines.length x.2) ((Qb9 l cart).lines.map lc) 127 2]/\True):=by
 refine Qah (n:=78) func37 rfl ntmps37 rfl ?_
 have Y:=Own.start w
 have hn:=hr.sml
 refine Qae (Qab (Qaa (QaJ (cs:=[I7 0,.slice none 0 0,.bool false,.int .u32 0]) Qhe rfl Y fun b1 w2 Y=>(Qad (Qae (Qab (Qaa (Qaf (I7 cart) (Qaa (QbI (vs:=[(0,I7 cart)]) (cs:=[I7 cart,.slice none 0 0,.bool false,.int .u32 0]) Qpp (rfl) rfl (Qaa (QaJ (cs:=[I7 0,.slice none 0 0,.bool false,.int .u32 0]) Qhe rfl Y fun b3 w4 Y=>(Qaa (Qcz (V:=.agg #[I7 cart,.slice none 0 0,.bool false,.int .u32 0]) (vs:=[I7 cart,.slice none 0 0,.bool false,.int .u32 0]) (cs':=[I7 cart,.slice none 0 0,.bool false,.int .u32 0]) Qdc.1 Y 1 rfl rfl rfl rfl rfl (QQ8 rfl) (Qat rfl (Qat rfl (Qat rfl (Qat rfl Qa2)))) (Qaz rfl) fun w5 Y=>(Qad (Qae (Qab (Qaa (QfJ rfl Y (Value.int .u16) tv fun mr6 w7 Y=>?_)))))))))))))))))))
 replace Y:=Ow [blk b1 [I7 0,.slice none 0 0,.bool false,.int .u32 0] 49,blk b3 [I7 cart,.slice none 0 0,.bool false,.int .u32 0] 49,QfC mr6 (Value.int .u16) tv []] Y
 refine Qaa (Qam (.map (some mr6)) (Qad (Qae (Qae (Qab (Qaa (Qaf (.slice a l.length c) (Qaa (Qa5 (n:=l.length) QbG (Rd.own' hr Y) (by simp) rfl (Qaa (Qaf (I6 0) (Qad (Qal (QaE (fun J μ J' w'=>∃ (Jo:Env) (k:Nat) (s:VSt),J'=upd (mix ([8]++sq 17 34) Jo J) 17 (I6 (k:Int))/\(k<=l.length)/\(s=vst l cart k)/\μ=l.length-k/\Own w no w' [blk b1 [I7 0,.slice none 0 0,.bool false,.int .u32 0] 49,blk b3 [I7 cart,.slice none 0 0,.bool s.out,.int .u32 s.tick] 49,QfC mr6 (Value.int .u16) tv s.items]) ?_ ?_))))))))))))))
 ·exact ⟨_,_,0,⟨0,false,[]⟩,Qai (Qao (ds:=([8]++sq 17 34)) (Agr.refl _ _)) rfl,(by omega),rfl,rfl,Y⟩
 rintro μ J' w8 ⟨Jo,k,s,rfl,hk,hs1,rfl,Y⟩
 refine Qae (Qab (Qaa (Qa0 rfl rfl (Qad (Qae (Qak (t:=decide ((k:Int)<((l.length:Nat):Int))) rfl (fun c9=>?_) (fun c9=>?_)))))))
 ·
  replace c9:=QQ1 c9
  refine Qap (Qae (Qal (Qae (Qab (Qaa (Qax QbG Qa3.1 (Rd.own' hr Y) rfl rfl (by omega) (by rw [QQ6];omega) (Qaa (Qa9 (j:=0) (vs:=oc (gd l k)) k Qa3 (Rd.own' hr Y) (Qa4 (by omega)) rfl rfl rfl (by omega) (Qaa (QaJ (cs:=oc (⟨(⟨0,0⟩:Dot),0,0,0,0,0,vzero⟩:Opn)) QhZ rfl Y fun b10 w11 Y=>(Qaa (Qcz (V:=.agg (oc (gd l k)).toArray) (vs:=oc (gd l k)) (cs':=oc (gd l k)) Qa3.1 Y 3 rfl rfl rfl rfl rfl (QQ8 rfl) (QcX _) (Qaz rfl) fun w12 Y=>(Qad (Qae (Qae ?_)))))))))))))))
  have hok:=hl _ (Qbo (l:=l) (i:=k) (by omega))
  have hdk:=hok.1
  refine Qab (Qaa (Qac Qc4 rfl (Qaa (QaN (I7 ((gd l k).cart)) Qar Y 3 (Qaa (Qaf (I7 cart) (Qaa (Qck rfl rfl (Qad (Qak (t:=!decide ((gd l k).cart=cart)) rfl (fun c13=>?_) (fun c13=>?_)))))))))))
  ·
   replace c13:=QbE c13
   replace c13:=QQ2 c13
   refine QaI (Qab (Qaa (QaB (a:=(k:Int)) (b:=1) (c:=(k:Int)+1) rfl rfl (Qbx (by omega) (by omega)) (Qaa (Qaf (I6 ((k:Int)+1)) (Qad ?_))))))
   refine ⟨_,?_,_,k+1,s,Qai (Qao (ds:=([8]++sq 17 34)) (by repeat (first|exact Agr.refl _ _|refine Agr.upd ?_ rfl|refine Agr.mix ?_ rfl))) rfl,(by omega),(Qsf hs1 (by omega) c13),rfl,Y.take 3⟩
   omega
  replace c13:=Qbd c13
  replace c13:=QQ1 c13
  refine Qap (Qae (Qab (Qaa (Qac Qeu rfl (Qaa (QaN (.int .u32 s.tick) QaU Y 1 (Qaa (Qac Qf2 rfl (Qaa (QaN (.int .u32 ((gd l k).tick)) QaU Y 3 (Qaa (Qmi rfl rfl (Qaa (Qac Qeu rfl (Qaa (Qcs (V:=.int .u32 (max s.tick ((gd l k).tick))) (cs':=[I7 cart,.slice none 0 0,.bool s.out,.int .u32 (max s.tick ((gd l k).tick))]) QaU Y 1 rfl rfl rfl rfl (QQ8 rfl) rfl fun w14 Y=>(Qad (Qal (Qae (Qab (Qaa (Qaf (.slice a l.length c) (Qaa (QaK (cs:=oc (gd l k)) Qa3 Y 3 rfl rfl rfl (Qaa (Qas (vs:=[.slice a l.length c,.agg (oc (gd l k)).toArray]) (V:=.bool (Qbm l (gd l k))) QxM rfl rfl ?hc Y fun w15 Y=>?_))))))))))))))))))))))))))
  case hc=>exact (QqX _ a c l (gd l k) hdk (Rd.own' hr Y))
  refine Qaa (QbB rfl (Qaa (Qam (.bool (!(Qbm l (gd l k)))) (Qad (Qak (t:=!(Qbm l (gd l k))) rfl (fun c16=>?_) (fun c16=>?_))))))
  ·
   replace c16:=QbE c16
   refine Qap (Qab (Qaa (QaB (a:=(k:Int)) (b:=1) (c:=(k:Int)+1) rfl rfl (Qbx (by omega) (by omega)) (Qaa (Qaf (I6 ((k:Int)+1)) (Qad ?_))))))
   refine ⟨_,?_,_,k+1,(⟨max s.tick ((gd l k).tick),s.out,s.items⟩:VSt),Qai (Qao (ds:=([8]++sq 17 34)) (by repeat (first|exact Agr.refl _ _|refine Agr.upd ?_ rfl|refine Agr.mix ?_ rfl))) rfl,(by omega),(Qt2 hs1 (by omega) c13 c16),rfl,Y.take 3⟩
   omega
  replace c16:=Qbd c16
  refine Qae (Qab (Qaa (Qac Qbz rfl (Qaa (QaN (.int .u8 ((gd l k).kind)) QcI Y 3 (Qaa (QaT rfl rfl (Qaa (Qam (.bool (decide ((gd l k).kind=4))) (Qad (Qak (t:=decide ((gd l k).kind=4)) rfl (fun c17=>?_) (fun c17=>?_))))))))))))
  ·
   replace c17:=QQ1 c17
   refine Qab (Qaa (Qac Qdv rfl (Qaa (Qcs (V:=.bool true) (cs':=[I7 cart,.slice none 0 0,.bool true,.int .u32 (max s.tick ((gd l k).tick))]) QlF Y 1 rfl rfl rfl rfl (QQ8 rfl) rfl fun w18 Y=>?_))))
   replace Y:=Ow [blk b1 [I7 0,.slice none 0 0,.bool false,.int .u32 0] 49,blk b3 [I7 cart,.slice none 0 0,.bool true,.int .u32 (max s.tick ((gd l k).tick))] 49,QfC mr6 (Value.int .u16) tv s.items,blk b10 (oc (gd l k)) 98] Y
   refine Qad (Qab (Qaa (QaB (a:=(k:Int)) (b:=1) (c:=(k:Int)+1) rfl rfl (Qbx (by omega) (by omega)) (Qaa (Qaf (I6 ((k:Int)+1)) (Qad ?_))))))
   refine ⟨_,?_,_,k+1,(⟨max s.tick ((gd l k).tick),true,s.items⟩:VSt),Qai (Qao (ds:=([8]++sq 17 34)) (by repeat (first|exact Agr.refl _ _|refine Agr.upd ?_ rfl|refine Agr.mix ?_ rfl))) rfl,(by omega),(QvA hs1 (by omega) c13 c16 c17),rfl,Y.take 3⟩
   omega
  replace c17:=QQ2 c17
  have hctx:QbH ((mget (gd l k).item s.items).getD tz).set.ctx:=by rw [hs1];exact QnB hl k (by omega) _
  refine QaH HM (so 31 9++[none]) [] [0,0,2,0,0,16,56,0,248,511] [pv (.map (some mr6)),pv (Pq b10 (0+4)),pv (I7 ((gd l k).item)),pv (.map (some mr6)),pv (Pq b10 (0+4)),pv (I7 ((gd l k).item)),pv (.agg (talc ((mget ((gd l k).item) s.items).getD tz)).toArray),pv (.agg (oc (gd l k)).toArray),pv (.agg (talc (QcT ((mget ((gd l k).item) s.items).getD tz) (gd l k))).toArray),pn] (fun D J=>[blk b1 [I7 0,.slice none 0 0,.bool false,.int .u32 0] 49,blk b3 [I7 cart,.slice none 0 0,.bool s.out,.int .u32 (max s.tick ((gd l k).tick))] 49,cond (D 9) (QfC mr6 (Value.int .u16) tv (mput ((gd l k).item) (QcT ((mget ((gd l k).item) s.items).getD tz) (gd l k)) s.items)) (QfC mr6 (Value.int .u16) tv s.items),blk b10 (oc (gd l k)) 98]) [] (by kernel_rfl) Y ⟨?_,?_,?_,?_,?_,?_,?_,?_,?_,?_,trivial⟩ ?_
  ·exact oi [] fun Y=>Qaf (.map (some mr6)) (Zz Y)
  ·exact oi [] fun Y=>Qac Qcq rfl (Zz Y)
  ·exact oi [1] fun Y=>QaN (.int .u16 ((gd l k).item)) Qar Y 3 (Zz Y)
  ·exact oi [] fun Y=>Qaf (.map (some mr6)) (Zz Y)
  ·exact oi [] fun Y=>Qac Qcq rfl (Zz Y)
  ·exact oi [4] fun Y=>QaN (.int .u16 ((gd l k).item)) Qar Y 3 (Zz Y)
  ·exact ob [3,5] [9] rfl rfl fun D J w Y=>QfG (k:=(gd l k).item) (z:=tz) Qlo QjX Qku (Y.mapf 2 rfl) rfl rfl (Zz Y)
  ·exact oi [] fun Y=>QaK (cs:=oc (gd l k)) Qa3 Y 3 rfl rfl rfl (Zz Y)
  ·exact oi [6,7] fun Y=>Qas (vs:=[.agg (talc ((mget ((gd l k).item) s.items).getD tz)).toArray,.agg (oc (gd l k)).toArray]) (V:=.agg (talc (QcT ((mget ((gd l k).item) s.items).getD tz) (gd l k))).toArray) QwN rfl rfl (Qq4 _ ((mget ((gd l k).item) s.items).getD tz) (gd l k) (by assumption) (by assumption)) Y fun _ Y=>Zz Y
  ·exact oi [0,2,8] fun Y=>QfA (k:=(gd l k).item) (v:=QcT ((mget ((gd l k).item) s.items).getD tz) (gd l k)) Qlo QjX Y 2 rfl rfl rfl rfl fun _ Y=>⟨trivial,Y⟩
  rintro J1 w21 J2 hJ Y
  replace hJ:J2=mix (sq 31 9) J1 _:=hJ
  replace Y:Own w no w21 [blk b1 [I7 0,.slice none 0 0,.bool false,.int .u32 0] 49,blk b3 [I7 cart,.slice none 0 0,.bool s.out,.int .u32 (max s.tick ((gd l k).tick))] 49,QfC mr6 (Value.int .u16) tv (mput ((gd l k).item) (QcT ((mget ((gd l k).item) s.items).getD tz) (gd l k)) s.items),blk b10 (oc (gd l k)) 98]:=Y
  subst hJ
  refine Qab (Qaa (QaB (a:=(k:Int)) (b:=1) (c:=(k:Int)+1) rfl rfl (Qbx (by omega) (by omega)) (Qaa (Qaf (I6 ((k:Int)+1)) (Qad ?_)))))
  refine ⟨_,?_,_,k+1,(⟨max s.tick ((gd l k).tick),s.out,mput ((gd l k).item) (QcT ((mget ((gd l k).item) s.items).getD tz) (gd l k)) s.items⟩:VSt),Qai (Qao (ds:=([8]++sq 17 34)) (by repeat (first|exact Agr.refl _ _|refine Agr.upd ?_ rfl|refine Agr.mix ?_ rfl))) rfl,(by omega),(QtE hs1 (by omega) c13 c16 c17),rfl,Y.take 3⟩
  omega
 replace c9:=QQ2 c9
 refine QaI (Qae (Qae ?_))
 have hitl:s.items.length<=1000:=by rw [hs1];exact Nat.le_trans (Qjs k hk) (by omega)
 refine Qab (Qaa (Qaf (.map (some mr6)) (Qaa (Qbr (vs:=[.map (some mr6)]) (V:=fun x:Nat=>.func (.func 135) #[] #[Pq x 0]) QxG rfl rfl (Qrk _ mr6) Y fun x22 w23 Y _=>(Qaa (Qbr (vs:=[.func (.func 135) #[] #[Pq x22 0]]) (V:=fun x:Option Addr × Nat=>.slice x.1 (QaO (s.items.map (·.1))).length x.2) (Lo:=fun x=>[row (.slice x.1 (QaO (s.items.map (·.1))).length x.2) ((QaO (s.items.map (·.1))).map (ic .u16)) 32 1]) (F:=fun _ _=>True) Quq rfl rfl ?hc Y fun x24 w25 Y hF26=>?_))))))
 case hc=>exact ((Qhu _ 135 1000000 [.pointer (some ⟨x22,0,none⟩)] QuB (by decide) (fun xs=>xs.Perm ((s.items.map (·.1)).map (Value.int .u16))) (Qwc (Y.cellsf 3 rfl) (Y.mapf 2 rfl) (by omega)) hsortU).mono fun e w' ⟨y,he,ho,m0,hm0,hy⟩=>by
   have hy2:y.1=QaO (s.items.map (·.1)):=by rw [hy];exact QiP hm0
   rw [hy2] at he ho
   exact ⟨(y.2.1,y.2.2),he,ho,trivial⟩)
 refine Qaa (Qa5 (n:=(QaO (s.items.map (·.1))).length) QaP (Y.rd 4 rfl) (by simp) rfl (Qaa (Qaf (I6 0) (Qad (Qal ?_)))))
 replace Y:=Y.more (row (.slice none 0 0) (List.map lc []) 127 2) (Qbi _ _ _ _)
 have hksl:(QaO (s.items.map (·.1))).length<=1000:=by rw [Qeq,QQ6];omega
 refine QaE (fun J μ J' w'=>∃ (Jo:Env) (i2:Nat) (a1:Option Addr) (c1:Nat) (out:List Line),J'=upd (mix ([10,11]++sq 55 22) Jo J) 55 (I6 (i2:Int))/\(i2<=(QaO (s.items.map (·.1))).length)/\(out.length<=i2)/\(out=((QaO (s.items.map (·.1))).take i2).map (Qjz s.items))/\μ=(QaO (s.items.map (·.1))).length-i2/\Own w no w' [blk b1 [I7 0,.slice none 0 0,.bool false,.int .u32 0] 49,blk b3 [I7 cart,.slice a1 out.length c1,.bool s.out,.int .u32 s.tick] 49,QfC mr6 (Value.int .u16) tv s.items,blk x22 [.map (some mr6)] 145,row (.slice x24.1 ((QaO (s.items.map (·.1))).length) x24.2) ((QaO (s.items.map (·.1))).map (ic .u16)) 32 1,row (.slice a1 out.length c1) (out.map lc) 127 2]) ?_ ?_
 ·exact ⟨_,_,0,none,0,[],Qai (Qao (ds:=([10,11]++sq 55 22)) (Agr.refl _ _)) rfl,(by omega),(Nat.le_refl _),rfl,rfl,Y⟩
 rintro μ J' w27 ⟨Jo,i2,a1,c1,out,rfl,hi2,hol,hout,rfl,Y⟩
 refine Qae (Qab (Qaa (Qa0 rfl rfl (Qad (Qae (Qak (t:=decide ((i2:Int)<(((QaO (s.items.map (·.1))).length:Nat):Int))) rfl (fun c28=>?_) (fun c28=>?_)))))))
 ·
  replace c28:=QQ1 c28
  refine Qap (Qae (Qal (Qae (Qab (Qaa (Qax QaP Qar.1 (Y.rd 4 rfl) rfl rfl (by omega) (by rw [QQ6];omega) (Qaa (QaV (j:=0) (V:=I7 (gd (QaO (s.items.map (·.1))) i2)) i2 Qar (Y.rd 4 rfl) (Qa4 (by omega)) rfl rfl (by omega) (Qaa (Qam (I7 (gd (QaO (s.items.map (·.1))) i2)) (Qad (Qae ?_))))))))))))
  obtain ⟨tt,htt⟩:∃ t,(mget (gd (QaO (s.items.map (·.1))) i2) s.items).getD tz=t:=⟨_,rfl⟩
  have ⟨hqa,hqb⟩:0<=tt.set.qty/\tt.set.qty<65536:=by rw [← htt,hs1];exact Qon hl k (by omega) _
  refine Qab (Qaa (Qaf (.map (some mr6)) (Qaa (Qaf (I7 (gd (QaO (s.items.map (·.1))) i2)) (Qaa (Qa8 (V:=.agg (talc ((mget (gd (QaO (s.items.map (·.1))) i2) s.items).getD tz)).toArray) (V':=.agg (talc tt).toArray) (QfG (k:=gd (QaO (s.items.map (·.1))) i2) (z:=tz) Qlo QjX Qku (Y.mapf 2 rfl) rfl rfl ⟨rfl,rfl⟩) (by rw [htt]) (Qaa (QaJ (cs:=talc (⟨0,(⟨(⟨0,0⟩:Dot),0,0,0,0,0,vzero⟩:Opn),false⟩:Tal)) Qku rfl Y fun b29 w30 Y=>(Qaa (Qcz (V:=.agg (talc tt).toArray) (vs:=talc tt) (cs':=talc tt) QeT.1 Y 6 rfl rfl rfl rfl rfl (QQ8 rfl) (Qgv _) (Qaz rfl) fun w31 Y=>?_))))))))))
  replace Y:=Ow [blk b1 [I7 0,.slice none 0 0,.bool false,.int .u32 0] 49,blk b3 [I7 cart,.slice a1 out.length c1,.bool s.out,.int .u32 s.tick] 49,QfC mr6 (Value.int .u16) tv s.items,blk x22 [.map (some mr6)] 145,row (.slice x24.1 ((QaO (s.items.map (·.1))).length) x24.2) ((QaO (s.items.map (·.1))).map (ic .u16)) 32 1,row (.slice a1 out.length c1) (out.map lc) 127 2,blk b29 (talc tt) 147] Y
  refine Qad (Qab (Qaa (Qac QcR rfl (Qaa (QaN (.slice a1 out.length c1) Qfl Y 1 (Qaa (Qaf (I7 (gd (QaO (s.items.map (·.1))) i2)) (Qaa (Qac Qio rfl (Qaa (QaN (.int .u32 tt.sum) QaU Y 6 (Qaa (Qac Qh9 rfl (Qaa (Qac QcP rfl (Qaa (QaN (I7 tt.set.qty) Qar Y 6 (Qaa (QbV QiB QiZ rfl (QeX (by omega) (by omega)) (Qaa (QaB (a:=tt.sum) (b:=tt.set.qty) (c:=(tt.sum+tt.set.qty)%4294967296) rfl rfl (Qhy _) (Qaa (QbI (vs:=[(0,I7 (gd (QaO (s.items.map (·.1))) i2)),(1,.int .u32 ((tt.sum+tt.set.qty)%4294967296))]) (cs:=lc (⟨gd (QaO (s.items.map (·.1))) i2,(tt.sum+tt.set.qty)%4294967296⟩:Line)) QnF (rfl) rfl (Qaa (Qho (vals:=[.agg (lc (⟨gd (QaO (s.items.map (·.1))) i2,(tt.sum+tt.set.qty)%4294967296⟩:Line)).toArray]) (ls:=List.map lc ([(⟨gd (QaO (s.items.map (·.1))) i2,(tt.sum+tt.set.qty)%4294967296⟩:Line)]:List Line)) QlL rfl rfl rfl (Qbn (enc:=lc) (fun _=>rfl) _) (QaW QgQ _) (QQ8 rfl) Y fun b32 w33 Y=>(Qaa (Qdj (ls':=(out++[(⟨gd (QaO (s.items.map (·.1))) i2,(tt.sum+tt.set.qty)%4294967296⟩:Line)]).map lc) (n:=(out++[(⟨gd (QaO (s.items.map (·.1))) i2,(tt.sum+tt.set.qty)%4294967296⟩:Line)]).length) QlL Y 5 rfl rfl rfl (Y.rd 7 rfl) (QaW QgQ _) (by simp only [QQ6,QQ7,List.length_cons,List.length_nil];omega) (by simp) (by simp) fun a34 c34 w35 Y=>(Qaa (Qac QcR rfl (Qaa (Qcs (V:=.slice a34 ((out++[(⟨gd (QaO (s.items.map (·.1))) i2,(tt.sum+tt.set.qty)%4294967296⟩:Line)]).length) c34) (cs':=[I7 cart,.slice a34 ((out++[(⟨gd (QaO (s.items.map (·.1))) i2,(tt.sum+tt.set.qty)%4294967296⟩:Line)]).length) c34,.bool s.out,.int .u32 s.tick]) Qfl Y 1 rfl rfl rfl rfl (QQ8 rfl) rfl fun w36 Y=>(Qad (Qab (Qaa (QaB (a:=(i2:Int)) (b:=1) (c:=(i2:Int)+1) rfl rfl (Qbx (by omega) (by omega)) (Qaa (Qaf (I6 ((i2:Int)+1)) (Qad ?_))))))))))))))))))))))))))))))))))))))
  refine ⟨_,?_,_,i2+1,a34,c34,out++[(⟨gd (QaO (s.items.map (·.1))) i2,(tt.sum+tt.set.qty)%4294967296⟩:Line)],Qai (Qao (ds:=([10,11]++sq 55 22)) (by repeat (first|exact Agr.refl _ _|refine Agr.upd ?_ rfl|refine Agr.mix ?_ rfl))) rfl,(by omega),(by simp only [QQ7,List.length_cons,List.length_nil];omega),(by rw [show (⟨gd (QaO (s.items.map (·.1))) i2,(tt.sum+tt.set.qty)%4294967296⟩:Line)=Qjz s.items (gd (QaO (s.items.map (·.1))) i2) by unfold Qjz Qu1;rw [htt]];exact QhX (f:=Qjz s.items) hout (by omega)),rfl,Y.take 6⟩
  omega
 replace c28:=QQ2 c28
 refine QaI (Qae (Qab (Qaa (QaK (cs:=[I7 cart,.slice a1 out.length c1,.bool s.out,.int .u32 s.tick]) Qdc Y 1 rfl rfl rfl (Qaa (Qcz (V:=.agg #[I7 cart,.slice a1 out.length c1,.bool s.out,.int .u32 s.tick]) (vs:=[I7 cart,.slice a1 out.length c1,.bool s.out,.int .u32 s.tick]) (cs':=[I7 cart,.slice a1 out.length c1,.bool s.out,.int .u32 s.tick]) Qdc.1 Y 0 rfl rfl rfl rfl rfl (QQ8 rfl) (Qat rfl (Qat rfl (Qat rfl (Qat rfl Qa2)))) (Qaz rfl) fun w37 Y=>(Qad (Qav ?_))))))))
 refine ⟨_,QcA (cs:=[I7 cart,.slice a1 out.length c1,.bool s.out,.int .u32 s.tick]) results37 Qdc Y 0 rfl rfl rfl,?_⟩
 have hV:Qb9 l cart=⟨cart,out,s.out,s.tick⟩:=by
  have hk9:k=l.length:=by omega
  unfold Qb9;dsimp only;rw [← hk9,← hs1,hout,QcC (by omega)]
 rw [hV]
 exact ⟨(a1,c1),rfl,Y.only 5 rfl,trivial⟩
end Tt
end Go.Proofs
namespace Go.Proofs
open Go Go.Vx Go.RowKit
open Tryz
namespace Tt
theorem QkV (w:World) (cu cv tu tw:Int) (ou ov:Bool) (a b:Option Addr) (c e:Nat) (l l2:List Line) (hr:Rd w (.slice a l.length c) 2 (l.map lc)) (hq:Rd w (.slice b l2.length e) 2 (l2.map lc)):Calls prog 21 #[.agg #[.int .u16 cu,.slice a l.length c,.bool ou,.int .u32 tu],.agg #[.int .u16 cv,.slice b l2.length e,.bool ov,.int .u32 tw]] w (fun e w'=>e = .returned (.bool (decide (cu=cv)&&(ou == ov)&&decide (tu=tw)&&decide (l=l2)))/\Own w no w' []):=by
 refine Qah (n:=52) func21 rfl ntmps21 rfl ?_
 have Y:=Own.start w
 have hn:=hr.sml
 refine Qae (Qab (Qaa (QaY (V:=.agg #[I7 cu,.slice a l.length c,.bool ou,.int .u32 tu]) (cs:=[I7 cu,.slice a l.length c,.bool ou,.int .u32 tu]) rfl rfl Y fun b1 w2 Y=>(Qaa (QaY (V:=.agg #[I7 cv,.slice b l2.length e,.bool ov,.int .u32 tw]) (cs:=[I7 cv,.slice b l2.length e,.bool ov,.int .u32 tw]) rfl rfl Y fun b3 w4 Y=>(Qaa (Qam (.bool false) (Qad (Qae (Qae (Qbv (so 6 28) [] [0,1,0,4,15,31,63,127,63,319,1023,2047,4095,8191,16383,8191,40959,131071,262143,524287,1048575,2097151,4194303,1048575,9437183,26214399,67108863,134217727] [pv (Pq b1 (0+0)),pv (I7 cu),pv (Pq b3 (0+0)),pv (I7 cv),pv (.bool (!decide (cu=cv))),pv (.bool (!decide (cu=cv))),pg ((!decide (cu=cv)) == false) (Pq b1 (0+2)),pg ((!decide (cu=cv)) == false) (.bool ou),pg ((!decide (cu=cv)) == false) (Pq b3 (0+2)),pg ((!decide (cu=cv)) == false) (.bool ov),pg ((!decide (cu=cv)) == false) (.bool (!(ou == ov))),pv (.bool ((!decide (cu=cv))||(!(ou == ov)))),pv (.bool ((!decide (cu=cv))||(!(ou == ov)))),pg (((!decide (cu=cv))||(!(ou == ov))) == false) (Pq b1 (0+3)),pg (((!decide (cu=cv))||(!(ou == ov))) == false) (.int .u32 tu),pg (((!decide (cu=cv))||(!(ou == ov))) == false) (Pq b3 (0+3)),pg (((!decide (cu=cv))||(!(ou == ov))) == false) (.int .u32 tw),pg (((!decide (cu=cv))||(!(ou == ov))) == false) (.bool (!decide (tu=tw))),pv (.bool (((!decide (cu=cv))||(!(ou == ov)))||(!decide (tu=tw)))),pv (.bool (((!decide (cu=cv))||(!(ou == ov)))||(!decide (tu=tw)))),pg ((((!decide (cu=cv))||(!(ou == ov)))||(!decide (tu=tw))) == false) (Pq b1 (0+1)),pg ((((!decide (cu=cv))||(!(ou == ov)))||(!decide (tu=tw))) == false) (.slice a l.length c),pg ((((!decide (cu=cv))||(!(ou == ov)))||(!decide (tu=tw))) == false) (I6 ((l.length:Nat):Int)),pg ((((!decide (cu=cv))||(!(ou == ov)))||(!decide (tu=tw))) == false) (Pq b3 (0+1)),pg ((((!decide (cu=cv))||(!(ou == ov)))||(!decide (tu=tw))) == false) (.slice b l2.length e),pg ((((!decide (cu=cv))||(!(ou == ov)))||(!decide (tu=tw))) == false) (I6 ((l2.length:Nat):Int)),pg ((((!decide (cu=cv))||(!(ou == ov)))||(!decide (tu=tw))) == false) (.bool (!decide (((l.length:Nat):Int)=((l2.length:Nat):Int)))),pv (.bool ((((!decide (cu=cv))||(!(ou == ov)))||(!decide (tu=tw)))||(!decide (((l.length:Nat):Int)=((l2.length:Nat):Int)))))] (fun _ _=>_) [27] (by kernel_rfl) Y ⟨?_,?_,?_,?_,?_,?_,?_,?_,?_,?_,?_,?_,?_,?_,?_,?_,?_,?_,?_,?_,?_,?_,?_,?_,?_,?_,?_,?_,trivial⟩ ?_)))))))))))
 ·exact oi [] fun Y=>Qac Qig rfl (Zz Y)
 ·exact oi [0] fun Y=>QaN (.int .u16 cu) Qar Y 0 (Zz Y)
 ·exact oi [] fun Y=>Qac Qig rfl (Zz Y)
 ·exact oi [2] fun Y=>QaN (.int .u16 cv) Qar Y 1 (Zz Y)
 ·exact oi [1,3] fun Y=>Qck rfl rfl (Zz Y)
 ·exact oi [4] fun Y=>Qaf (.bool (!decide (cu=cv))) (Zz Y)
 ·exact ogi [5] fun hG Y=>Qac Qdv rfl (Zz Y)
 ·exact oyi [5,6] [6] fun hG Y=>QaN (.bool ou) QlF Y 0 (Zz Y)
 ·exact ogi [5] fun hG Y=>Qac Qdv rfl (Zz Y)
 ·exact oyi [5,8] [8] fun hG Y=>QaN (.bool ov) QlF Y 1 (Zz Y)
 ·exact oyi [5,7,9] [7,9] fun hG Y=>Qu3 QuE rfl rfl (Zz Y)
 ·exact oi [5,10] fun Y=>QbP (h':=!(ou == ov)) rfl rfl rfl (Zz Y)
 ·exact oi [11] fun Y=>Qaf (.bool ((!decide (cu=cv))||(!(ou == ov)))) (Zz Y)
 ·exact ogi [12] fun hG Y=>Qac Qeu rfl (Zz Y)
 ·exact oyi [12,13] [13] fun hG Y=>QaN (.int .u32 tu) QaU Y 0 (Zz Y)
 ·exact ogi [12] fun hG Y=>Qac Qeu rfl (Zz Y)
 ·exact oyi [12,15] [15] fun hG Y=>QaN (.int .u32 tw) QaU Y 1 (Zz Y)
 ·exact oyi [12,14,16] [14,16] fun hG Y=>Qck rfl rfl (Zz Y)
 ·exact oi [12,17] fun Y=>QbP (h':=!decide (tu=tw)) rfl rfl rfl (Zz Y)
 ·exact oi [18] fun Y=>Qaf (.bool (((!decide (cu=cv))||(!(ou == ov)))||(!decide (tu=tw)))) (Zz Y)
 ·exact ogi [19] fun hG Y=>Qac QcR rfl (Zz Y)
 ·exact oyi [19,20] [20] fun hG Y=>QaN (.slice a l.length c) Qfl Y 0 (Zz Y)
 ·exact oyi [19,21] [21] fun hG Y=>Qa5 (n:=l.length) Qds (Rd.own' hr Y) (by simp) rfl (Zz Y)
 ·exact ogi [19] fun hG Y=>Qac QcR rfl (Zz Y)
 ·exact oyi [19,23] [23] fun hG Y=>QaN (.slice b l2.length e) Qfl Y 1 (Zz Y)
 ·exact oyi [19,24] [24] fun hG Y=>Qa5 (n:=l2.length) Qds (Rd.own' hq Y) (by simp) rfl (Zz Y)
 ·exact oyi [19,22,25] [22,25] fun hG Y=>Qck rfl rfl (Zz Y)
 ·exact oi [19,26] fun Y=>QbP (h':=!decide (((l.length:Nat):Int)=((l2.length:Nat):Int))) rfl rfl rfl (Zz Y)
 rintro J1 w5 J2 hJ Y
 replace hJ:J2=upd (mix (sq 6 28) J1 _) 33 (.bool ((((!decide (cu=cv))||(!(ou == ov)))||(!decide (tu=tw)))||(!decide (((l.length:Nat):Int)=((l2.length:Nat):Int))))):=hJ
 subst hJ
 refine Qak (t:=(((!decide (cu=cv))||(!(ou == ov)))||(!decide (tu=tw)))||(!decide (((l.length:Nat):Int)=((l2.length:Nat):Int)))) rfl (fun c6=>?_) (fun c6=>?_)
 ·
  refine Qae (Qab (Qaa (Qam (.bool false) (Qad (Qav ?_)))))
  refine ⟨_,Qan (V:=.bool false) results21 rfl,(Zr Y (congrArg Value.bool ?_))⟩
  have hc:=c6
  by_cases hll:l=l2
  ·subst hll;simp at hc ⊢;grind
  rw [QQ4 hll,Bool.and_false]
 have c6r:=Qfa c6
 replace c6:=Qe8 c6
 have c6rr:=Qfa c6
 replace c6:=Qe8 c6
 have c6rrr:=Qfa c6
 replace c6:=Qe8 c6
 replace c6:=Qbd c6
 replace c6:=QQ1 c6
 replace c6rrr:=Qbd c6rrr
 replace c6rr:=Qbd c6rr
 replace c6rr:=QQ1 c6rr
 replace c6r:=Qbd c6r
 replace c6r:=QQ1 c6r
 refine Qap (Qae (Qae (Qab (Qaa (Qam (I6 0) (Qad (Qal (QaE (fun J μ J' w'=>∃ (Jo:Env) (k:Nat),J'=upd (mix ([4,5]++sq 34 18) Jo J) 5 (I6 (k:Int))/\(k<=l.length)/\(∀ j:Nat,j<k->gd l j=gd l2 j)/\μ=l.length-k/\Own w no w' [blk b1 [I7 cu,.slice a l.length c,.bool ou,.int .u32 tu] 49,blk b3 [I7 cv,.slice b l2.length e,.bool ov,.int .u32 tw] 49]) ?_ ?_))))))))
 ·exact ⟨_,_,0,Qai (Qao (ds:=([4,5]++sq 34 18)) (Agr.refl _ _)) rfl,(by omega),(fun j hj=>absurd hj (Nat.not_lt_zero j)),rfl,Y⟩
 rintro μ J' w7 ⟨Jo,k,rfl,hk,heq,rfl,Y⟩
 refine Qae (Qae (Qab (Qaa (Qaf (I6 (k:Int)) (Qaa (Qac QcR rfl (Qaa (QaN (.slice a l.length c) Qfl Y 0 (Qaa (Qa5 (n:=l.length) Qds (Rd.own' hr Y) (by simp) rfl (Qaa (Qa0 rfl rfl (Qad (Qak (t:=decide ((k:Int)<((l.length:Nat):Int))) rfl (fun c8=>?_) (fun c8=>?_)))))))))))))))
 ·
  replace c8:=QQ1 c8
  refine Qap (Qae (Qal (Qae (QaH HM (so 41 11) [] [0,1,0,7,15,0,32,0,224,480,1023] [pv (Pq b1 (0+1)),pv (.slice a l.length c),pv (I6 (k:Int)),pv (.pointer (some ⟨bkS (.slice a l.length c),ofS (.slice a l.length c)+(k:Int).toNat*2,none⟩)),pv (.agg (lc (gd l k)).toArray),pv (Pq b3 (0+1)),pv (.slice b l2.length e),pv (I6 (k:Int)),pv (.pointer (some ⟨bkS (.slice b l2.length e),ofS (.slice b l2.length e)+(k:Int).toNat*2,none⟩)),pv (.agg (lc (gd l2 k)).toArray),pv (.bool (!decide (gd l k=gd l2 k)))] (fun _ _=>_) [10] (by kernel_rfl) Y ⟨?_,?_,?_,?_,?_,?_,?_,?_,?_,?_,?_,trivial⟩ ?_))))
  ·exact oi [] fun Y=>Qac QcR rfl (Zz Y)
  ·exact oi [0] fun Y=>QaN (.slice a l.length c) Qfl Y 0 (Zz Y)
  ·exact oi [] fun Y=>Qaf (.int .i64 (k:Int)) (Zz Y)
  ·exact oi [1,2] fun Y=>Qax Qds Qcw.1 (Rd.own' hr Y) rfl rfl (by omega) (by rw [QQ6];omega) (Zz Y)
  ·exact oi [3] fun Y=>Qa9 (j:=0) (vs:=lc (gd l k)) k Qcw (Rd.own' hr Y) (Qa4 (by omega)) rfl rfl rfl (by omega) (Zz Y)
  ·exact oi [] fun Y=>Qac QcR rfl (Zz Y)
  ·exact oi [5] fun Y=>QaN (.slice b l2.length e) Qfl Y 1 (Zz Y)
  ·exact oi [] fun Y=>Qaf (.int .i64 (k:Int)) (Zz Y)
  ·exact oi [6,7] fun Y=>Qax Qds Qcw.1 (Rd.own' hq Y) rfl rfl (by omega) (by rw [QQ6];omega) (Zz Y)
  ·exact oi [8] fun Y=>Qa9 (j:=0) (vs:=lc (gd l2 k)) k Qcw (Rd.own' hq Y) (Qa4 (by omega)) rfl rfl rfl (by omega) (Zz Y)
  ·exact oi [4,9] fun Y=>Qxu (xs:=lc (gd l k)) (ys:=lc (gd l2 k)) eqGuardType127 (Qu7 (gd l k) (gd l2 k)) rfl rfl rfl (Zz Y)
  rintro J1 w9 J2 hJ Y
  replace hJ:J2=upd (mix (sq 41 11) J1 _) 51 (.bool (!decide (gd l k=gd l2 k))):=hJ
  subst hJ
  refine Qak (t:=!decide (gd l k=gd l2 k)) rfl (fun c10=>?_) (fun c10=>?_)
  ·
   replace c10:=QbE c10
   replace c10:=QQ2 c10
   refine Qae (Qab (Qaa (Qam (.bool false) (Qad (Qav ?_)))))
   refine ⟨_,Qan (V:=.bool false) results21 rfl,(Zr Y (congrArg Value.bool ?_))⟩
   have hne:¬l=l2:=fun e=>by subst e;exact c10 rfl
   rw [QQ4 hne,Bool.and_false]
  replace c10:=Qbd c10
  replace c10:=QQ1 c10
  refine Qap (Qab (Qaa (Qaf (I6 (k:Int)) (Qaa (QaB (a:=(k:Int)) (b:=1) (c:=(k:Int)+1) rfl rfl (Qbx (by omega) (by omega)) (Qaa (Qam (I6 ((k:Int)+1)) (Qad ?_))))))))
  refine ⟨_,?_,_,k+1,Qai (Qao (ds:=([4,5]++sq 34 18)) (by repeat (first|exact Agr.refl _ _|refine Agr.upd ?_ rfl|refine Agr.mix ?_ rfl))) rfl,(by omega),(QpN heq c10),rfl,Y.take 2⟩
  omega
 replace c8:=QQ2 c8
 refine QaI (Qae (Qab (Qaa (Qam (.bool true) (Qad (Qav ?_))))))
 refine ⟨_,Qan (V:=.bool true) results21 rfl,(Zr Y (congrArg Value.bool ?_))⟩
 have hll:=QmR (l:=l) (m:=l2) (by omega) fun j hj=>heq j (by omega)
 rw [QQ3 hll,QQ3 c6,QQ3 c6rr,c6rrr];rfl
end Tt
end Go.Proofs
