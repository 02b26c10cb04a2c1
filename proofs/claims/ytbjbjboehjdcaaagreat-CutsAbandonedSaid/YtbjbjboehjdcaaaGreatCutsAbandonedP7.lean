/- A part of a proof: what functions of the program compute, and plain facts on that. -/
import Derived.Test.YtbjbjboehjdcaaaGreatCutsAbandonedP6
import Derived.KernelRfl
import Derived.Test.YtbjbjboehjdcaaaGreatProg
import Derived.Shelf.SlSortCmp.WholeK
import Derived.Shelf.SlLaysF0
import Derived.Ground.SlsfProg
import Derived.Shelf.SlSortCmp.NoneTotal
set_option linter.unusedVariables false
set_option linter.unusedSimpArgs false
set_option maxHeartbeats 4000000
set_option maxRecDepth 100000
namespace Go.Proofs
open Go Go.Vx Go.RowKit
namespace Tt
theorem Qtu (w:World) (p:Pst) (a1:Option Addr) (c1:Nat) (a2:Option Addr) (c2:Nat) (a3:Option Addr) (c3:Nat) (cut:Vec) (hcut:QbW cut) (now idle:Int) (hb2:(0<=now/\now<4294967296)/\0<=idle) (hok:QcW p) (hle:p.base.ents.length<=400) (hlt:p.base.ticks.length<=400) (hlo:p.ops.length<=400) (hr1:Rd w (.slice a1 p.base.ents.length c1) 7 (p.base.ents.map cec)) (hr2:Rd w (.slice a2 p.base.ticks.length c2) 2 (p.base.ticks.map lsc)) (hr3:Rd w (.slice a3 p.ops.length c3) 23 (p.ops.map oc)):Calls Tryz.prog 26 #[.agg (((vc p.base.known)++[(.slice a1 p.base.ents.length c1:Value),(.slice a2 p.base.ticks.length c2:Value) ])++[(.slice a3 p.ops.length c3:Value) ]++(vc p.known)).toArray,.agg (vc cut).toArray,.int .u32 now,.int .u32 idle] w (fun e w'=>∃ x:Option Addr × Nat,e = .returned (.tuple #[.slice x.1 (abR p cut now idle).length x.2,.int .i64 (abI p cut now idle)])/\Own w no w' [row (.slice x.1 (abR p cut now idle).length x.2) ((abR p cut now idle).map (ic .u16)) 32 1]/\True):=by
 refine Qaj (n:=65) Tryz.func26 rfl Tryz.ntmps26 rfl ?_
 have hs:=Own.start w
 have ⟨hokb,hoko,hokk⟩:=hok
 have hsl:=Qc1 p cut
 have hso:=QdR (cut:=cut) hok hcut
 refine Qah (Qab (Qaa (QaR (V:=.agg (((vc p.base.known)++[(.slice a1 p.base.ents.length c1:Value),(.slice a2 p.base.ticks.length c2:Value) ])++[(.slice a3 p.ops.length c3:Value) ]++(vc p.known)).toArray) (cs:=((vc p.base.known)++[(.slice a1 p.base.ents.length c1:Value),(.slice a2 p.base.ticks.length c2:Value) ])++[(.slice a3 p.ops.length c3:Value) ]++(vc p.known)) rfl rfl hs fun b1 w2 hs=>(Qaa (QaR (V:=.agg (vc cut).toArray) (cs:=vc cut) rfl rfl hs fun b3 w4 hs=>(Qaa (Qad (V:=.slice none 0 0) rfl (Qaa (Qad (V:=I6 0) rfl (Qaf (Qah (Qab (Qaa (QaJ (cs:=((vc p.base.known)++[(.slice a1 p.base.ents.length c1:Value),(.slice a2 p.base.ticks.length c2:Value) ])++[(.slice a3 p.ops.length c3:Value) ]++(vc p.known)) QkB hs 0 rfl rfl rfl (Qaa (QaJ (cs:=vc cut) QbB hs 1 rfl rfl rfl (Qaa (Qbo (α:=((Option Addr × Nat) × (Option Addr × Nat)) × Bool) (vs:=[.agg (((vc p.base.known)++[(.slice a1 p.base.ents.length c1:Value),(.slice a2 p.base.ticks.length c2:Value) ])++[(.slice a3 p.ops.length c3:Value) ]++(vc p.known)).toArray,.agg (vc cut).toArray]) (V:=fun y=>.tuple #[.agg (vc (Qag p cut).known++[(.slice y.1.1.1 ((Qag p cut).ents).length y.1.1.2:Value),(.slice y.1.2.1 ((Qag p cut).ticks).length y.1.2.2:Value)]).toArray,I6 (Qbc p cut)]) (Lo:=fun y=>[row (.slice y.1.1.1 ((Qag p cut).ents).length y.1.1.2) ((Qag p cut).ents.map cec) 119 7,cond y.2 emp (row (.slice y.1.2.1 ((Qag p cut).ticks).length y.1.2.2) ((Qag p cut).ticks.map lsc) 125 2)]) (F:=fun y _=>(y.2=true->y.1.2=(a2,c2)/\(Qag p cut).ticks=p.base.ticks)) Quw rfl rfl ?hc hs fun x5 w6 hs hF7=>?_))))))))))))))))))
 case hc=>exact (QlM _ p a1 c1 a2 c2 a3 c3 cut hcut hok hle hlt hlo (Rd.own' hr1 hs) (Rd.own' hr2 hs) (Rd.own' hr3 hs))
 have hrz8:x5.2=true->Rd w (.slice x5.1.2.1 ((Qag p cut).ticks).length x5.1.2.2) 2 ((Qag p cut).ticks.map lsc):=fun h=>by
  obtain ⟨e1,e2⟩:=hF7 h
  rw [Prod.ext_iff] at e1
  rw [e1.1,e1.2,e2];exact hr2
 refine Qaa (Qac (V:=.tuple #[.agg ((vc ((Qag p cut).known))++[(.slice x5.1.1.1 (((Qag p cut).ents).length) x5.1.1.2:Value),(.slice x5.1.2.1 (((Qag p cut).ticks).length) x5.1.2.2:Value) ]).toArray,I6 (Qbc p cut)]) rfl (Qaa (Qay (V:=.agg ((vc ((Qag p cut).known))++[(.slice x5.1.1.1 (((Qag p cut).ents).length) x5.1.1.2:Value),(.slice x5.1.2.1 (((Qag p cut).ticks).length) x5.1.2.2:Value) ]).toArray) rfl rfl (Qaa (Qay (V:=I6 (Qbc p cut)) rfl rfl (Qaa (QaM (cs:=(vc vzero)++[(.slice none 0 0:Value),(.slice none 0 0:Value) ]) QtT rfl hs fun b9 w10 hs=>(Qaa (QcH (V:=.agg ((vc ((Qag p cut).known))++[(.slice x5.1.1.1 (((Qag p cut).ents).length) x5.1.1.2:Value),(.slice x5.1.2.1 (((Qag p cut).ticks).length) x5.1.2.2:Value) ]).toArray) (vs:=(vc ((Qag p cut).known))++[(.slice x5.1.1.1 (((Qag p cut).ents).length) x5.1.1.2:Value),(.slice x5.1.2.1 (((Qag p cut).ticks).length) x5.1.2.2:Value) ]) (cs':=(vc ((Qag p cut).known))++[(.slice x5.1.1.1 (((Qag p cut).ents).length) x5.1.1.2:Value),(.slice x5.1.2.1 (((Qag p cut).ticks).length) x5.1.2.2:Value) ]) Qez.1 hs 4 rfl rfl rfl rfl rfl (QQ8 rfl) (QbQ (Qcv _) (Qaw rfl (Qaw rfl Qbg))) (QaC rfl) fun w11 hs=>?_)))))))))
 replace hs:Own w no w11 [blk b1 (((vc p.base.known)++[(.slice a1 p.base.ents.length c1:Value),(.slice a2 p.base.ticks.length c2:Value) ])++[(.slice a3 p.ops.length c3:Value) ]++(vc p.known)) 31,blk b3 (vc cut) 24,row (.slice x5.1.1.1 (((Qag p cut).ents).length) x5.1.1.2) (((Qag p cut).ents).map cec) 119 7,cond x5.2 emp (row (.slice x5.1.2.1 (((Qag p cut).ticks).length) x5.1.2.2) (((Qag p cut).ticks).map lsc) 125 2),blk b9 ((vc ((Qag p cut).known))++[(.slice x5.1.1.1 (((Qag p cut).ents).length) x5.1.1.2:Value),(.slice x5.1.2.1 (((Qag p cut).ticks).length) x5.1.2.2:Value) ]) 28]:=hs
 refine Qaa (Qad (V:=I6 (Qbc p cut)) rfl (Qaf (Qah (Qah (Qab (Qaa (Qac (V:=I6 (Qbc p cut)) rfl (Qaa (Qch rfl rfl (Qaf (Qao (t:=!decide (Qbc p cut=0)) rfl (fun c12=>?_) (fun c12=>?_))))))))))))
 ·
  replace c12:=Qbp c12
  replace c12:=QQ2 c12
  refine Qah (Qab (Qaa (Qac (V:=I6 (Qbc p cut)) rfl (Qaa (Qad (V:=.slice none 0 0) rfl (Qaa (Qad (V:=I6 (Qbc p cut)) rfl (Qaf (Qav ?_)))))))))
  refine ⟨_,Qbq (U:=.slice none 0 0) (V:=I6 (Qbc p cut)) Tryz.results26 rfl rfl,?_⟩
  have hX:abI p cut now idle=Qbc p cut:=Qs4 c12
  rw [Qo2 (by rw [hX];exact c12),hX]
  exact ⟨(none,0),rfl,(hs.take 0).more _ (Qbk _ _ _ _),trivial⟩
 replace c12:=Qbf c12
 replace c12:=QQ1 c12
 refine Qaq (Qah (Qah (Qab (Qaa (Qac (V:=.int .u32 idle) rfl (Qaa (Qac (V:=.int .u32 now) rfl (Qaa (QbP rfl rfl (Qaf (Qao (t:=decide (now<idle)) rfl (fun c13=>?_) (fun c13=>?_))))))))))))
 ·
  replace c13:=QQ1 c13
  refine Qah (Qab (Qaa (Qad (V:=.slice none 0 0) rfl (Qaa (Qad (V:=I6 2) rfl (Qaf (Qav ?_)))))))
  refine ⟨_,Qbq (U:=.slice none 0 0) (V:=I6 2) Tryz.results26 rfl rfl,?_⟩
  have hX:abI p cut now idle=2:=QsK c12 c13
  rw [Qo2 (by rw [hX];decide),hX]
  exact ⟨(none,0),rfl,(hs.take 0).more _ (Qbk _ _ _ _),trivial⟩
 replace c13:=QQ2 c13
 refine Qaq (Qah (Qab (Qaa (Qad (V:=.slice none 0 0) rfl (Qaf (Qah (Qah (Qab (Qaa (Qad (V:=I6 0) rfl (Qaf (Qan ?_))))))))))))
 replace hs:=hs.more (row (.slice none 0 0) (List.map (ic .u16) []) 32 1) (Qbk _ _ _ _)
 refine QaA (fun J μ J' w'=>∃ (Jo:Env) (k:Nat) (an6:Option Addr) (cn6:Nat) (out:List Int),J'=upd (upd (mix ([12,13,14]++sq 27 37) Jo J) 13 (I6 (k:Int))) 12 (.slice an6 out.length cn6)/\(k<=(Qag p cut).ticks.length)/\(out=(((Qag p cut).ticks.take k).filter fun x=>!Qc5 (QaZ p cut x.cart) now idle).map (·.cart))/\(out.length<=k)/\μ=(Qag p cut).ticks.length-k/\Own w no w' [blk b1 (((vc p.base.known)++[(.slice a1 p.base.ents.length c1:Value),(.slice a2 p.base.ticks.length c2:Value) ])++[(.slice a3 p.ops.length c3:Value) ]++(vc p.known)) 31,blk b3 (vc cut) 24,row (.slice x5.1.1.1 (((Qag p cut).ents).length) x5.1.1.2) (((Qag p cut).ents).map cec) 119 7,cond x5.2 emp (row (.slice x5.1.2.1 (((Qag p cut).ticks).length) x5.1.2.2) (((Qag p cut).ticks).map lsc) 125 2),blk b9 ((vc ((Qag p cut).known))++[(.slice x5.1.1.1 (((Qag p cut).ents).length) x5.1.1.2:Value),(.slice x5.1.2.1 (((Qag p cut).ticks).length) x5.1.2.2:Value) ]) 28,row (.slice an6 out.length cn6) (out.map (ic .u16)) 32 1]) ?_ ?_
 ·exact ⟨_,_,0,none,0,[],Qai (Qai (Qap (ds:=([12,13,14]++sq 27 37)) (Agr.refl _ _)) rfl) rfl,(by omega),rfl,(Nat.le_refl _),rfl,hs⟩
 rintro μ J' w14 ⟨Jo,k,an6,cn6,out,rfl,hk,hout,hol,rfl,hs⟩
 refine Qah (Qah (Qab (Qaa (Qac (V:=I6 (k:Int)) rfl (Qaa (Qae QcJ rfl (Qaa (QaE (V:=.slice x5.1.2.1 (((Qag p cut).ticks).length) x5.1.2.2) QfH hs 4 rfl rfl rfl (Qaa (Qa4 (n:=((Qag p cut).ticks).length) Qe6 (hs.rdC 3 rfl hrz8) (by simp) rfl (Qaa (QaQ rfl rfl (Qaf (Qao (t:=decide ((k:Int)<((((Qag p cut).ticks).length:Nat):Int))) rfl (fun c15=>?_) (fun c15=>?_)))))))))))))))
 ·
  replace c15:=QQ1 c15
  refine Qaq (Qah (Qan (Qah ?_)))
  replace hs:=hs.more emp trivial
  replace hs:=hs.more emp trivial
  refine QaH HM [some 34,some 35,some 36,some 37,some 38,some 39,some 40,some 41,some 14,none] [[],[],[],[],[],[],[],[41],[14]] [0,0,2,0,14,30,62,127,0,511] [pv (.agg ((vc ((Qag p cut).known))++[(.slice x5.1.1.1 (((Qag p cut).ents).length) x5.1.1.2:Value),(.slice x5.1.2.1 (((Qag p cut).ticks).length) x5.1.2.2:Value) ]).toArray),pv (Pq b9 (0+17)),pv (.slice x5.1.2.1 (((Qag p cut).ticks).length) x5.1.2.2),pv (I6 (k:Int)),pv (.pointer (some ⟨bkS (.slice x5.1.2.1 (((Qag p cut).ticks).length) x5.1.2.2),ofS (.slice x5.1.2.1 (((Qag p cut).ticks).length) x5.1.2.2)+(k:Int).toNat*2,none⟩)),pv (.pointer (some ⟨bkS (.slice x5.1.2.1 (((Qag p cut).ticks).length) x5.1.2.2),ofS (.slice x5.1.2.1 (((Qag p cut).ticks).length) x5.1.2.2)+(k:Int).toNat*2+0,none⟩)),pv (I7 ((gd ((Qag p cut).ticks) k).cart)),(true,fun J=>.agg #[I7 ((Qau (Qag p cut) ((gd ((Qag p cut).ticks) k).cart) (Qam (Qag p cut))).cart),.slice (aOf (Qbr (J 41) 1)) (((Qau (Qag p cut) ((gd ((Qag p cut).ticks) k).cart) (Qam (Qag p cut))).lines).length) (cOf (Qbr (J 41) 1)),.bool ((Qau (Qag p cut) ((gd ((Qag p cut).ticks) k).cart) (Qam (Qag p cut))).out),.int .u32 ((Qau (Qag p cut) ((gd ((Qag p cut).ticks) k).cart) (Qam (Qag p cut))).tick)]),(true,fun J=>.pointer (some ⟨(bOf (J 14)),0,none⟩)),pn] (fun D J=>[blk b1 (((vc p.base.known)++[(.slice a1 p.base.ents.length c1:Value),(.slice a2 p.base.ticks.length c2:Value) ])++[(.slice a3 p.ops.length c3:Value) ]++(vc p.known)) 31,blk b3 (vc cut) 24,row (.slice x5.1.1.1 (((Qag p cut).ents).length) x5.1.1.2) (((Qag p cut).ents).map cec) 119 7,cond x5.2 emp (row (.slice x5.1.2.1 (((Qag p cut).ticks).length) x5.1.2.2) (((Qag p cut).ticks).map lsc) 125 2),blk b9 ((vc ((Qag p cut).known))++[(.slice x5.1.1.1 (((Qag p cut).ents).length) x5.1.1.2:Value),(.slice x5.1.2.1 (((Qag p cut).ticks).length) x5.1.2.2:Value) ]) 28,row (.slice an6 out.length cn6) (out.map (ic .u16)) 32 1,cond (D 7) (row (.slice (aOf (Qbr (J 41) 1)) (((Qau (Qag p cut) ((gd ((Qag p cut).ticks) k).cart) (Qam (Qag p cut))).lines).length) (cOf (Qbr (J 41) 1))) (((Qau (Qag p cut) ((gd ((Qag p cut).ticks) k).cart) (Qam (Qag p cut))).lines).map lc) 127 2) (emp),cond (D 9) (blk (bOf (J 14)) [I7 ((Qau (Qag p cut) ((gd ((Qag p cut).ticks) k).cart) (Qam (Qag p cut))).cart),.slice (aOf (Qbr (J 41) 1)) (((Qau (Qag p cut) ((gd ((Qag p cut).ticks) k).cart) (Qam (Qag p cut))).lines).length) (cOf (Qbr (J 41) 1)),.bool ((Qau (Qag p cut) ((gd ((Qag p cut).ticks) k).cart) (Qam (Qag p cut))).out),.int .u32 ((Qau (Qag p cut) ((gd ((Qag p cut).ticks) k).cart) (Qam (Qag p cut))).tick)] 49) (cond (D 8) (blk (bOf (J 14)) [I7 0,.slice none 0 0,.bool false,.int .u32 0] 49) (emp))]) [8] (by kernel_rfl) hs ⟨?_,?_,?_,?_,?_,?_,?_,?_,?_,?_,trivial⟩ ?_
  ·exact oa [] fun D J w hs=>QaJ (cs:=(vc ((Qag p cut).known))++[(.slice x5.1.1.1 (((Qag p cut).ents).length) x5.1.1.2:Value),(.slice x5.1.2.1 (((Qag p cut).ticks).length) x5.1.2.2:Value) ]) Qez hs 4 rfl rfl rfl (Zz hs)
  ·exact oa [] fun D J w hs=>Qae QcJ rfl (Zz hs)
  ·exact oa [1] fun D J w hs=>QaE (V:=.slice x5.1.2.1 (((Qag p cut).ticks).length) x5.1.2.2) QfH hs 4 rfl rfl rfl (Zz hs)
  ·exact oa [] fun D J w hs=>Qac (V:=.int .i64 (k:Int)) rfl (Zz hs)
  ·exact oa [2,3] fun D J w hs=>Qax Qe6 QcR.1 (hs.rdC 3 rfl hrz8) rfl rfl (by omega) (by rw [QQ6];omega) (Zz hs)
  ·exact oa [4] fun D J w hs=>Qae Qec rfl (Zz hs)
  ·exact oa [5] fun D J w hs=>QaP (j:=0) (V:=.int .u16 ((gd ((Qag p cut).ticks) k).cart)) k Qas (hs.rdC 3 rfl hrz8) (QaW (by omega)) rfl rfl (by omega) (Zz hs)
  ·exact ob [0,6] [9] rfl rfl fun D J w hs=>Qbo (α:=Option Addr × Nat) (vs:=[.agg ((vc ((Qag p cut).known))++[(.slice x5.1.1.1 (((Qag p cut).ents).length) x5.1.1.2:Value),(.slice x5.1.2.1 (((Qag p cut).ticks).length) x5.1.2.2:Value) ]).toArray,I7 ((gd ((Qag p cut).ticks) k).cart)]) (V:=fun x=>.agg #[I7 ((Qau (Qag p cut) ((gd ((Qag p cut).ticks) k).cart) (Qam (Qag p cut))).cart),.slice x.1 (((Qau (Qag p cut) ((gd ((Qag p cut).ticks) k).cart) (Qam (Qag p cut))).lines).length) x.2,.bool ((Qau (Qag p cut) ((gd ((Qag p cut).ticks) k).cart) (Qam (Qag p cut))).out),.int .u32 ((Qau (Qag p cut) ((gd ((Qag p cut).ticks) k).cart) (Qam (Qag p cut))).tick)]) (Lo:=fun x=>[row (.slice x.1 ((Qau (Qag p cut) ((gd ((Qag p cut).ticks) k).cart) (Qam (Qag p cut))).lines).length x.2) (((Qau (Qag p cut) ((gd ((Qag p cut).ticks) k).cart) (Qam (Qag p cut))).lines).map lc) 127 2]) (F:=fun _ _=>True) Quv rfl rfl (Qlo _ (Qag p cut) x5.1.1.1 x5.1.1.2 x5.1.2.1 x5.1.2.2 ((gd ((Qag p cut).ticks) k).cart) hso (hs.rd 2 rfl) (hs.rdC 3 rfl hrz8)) hs fun _ _ hs _=>⟨rfl,hs.put 6 (QQ8 rfl)⟩
  ·exact ob [] [9] rfl rfl fun D J w hs=>QaM (cs:=[I7 0,.slice none 0 0,.bool false,.int .u32 0]) QhJ rfl hs fun _ _ hs=>⟨rfl,hs.put 7 (QQ8 rfl)⟩
  ·exact oa [7,8] fun D J w hs=>QcH (V:=.agg #[.int .u16 ((Qau (Qag p cut) ((gd ((Qag p cut).ticks) k).cart) (Qam (Qag p cut))).cart),.slice (aOf (Qbr (J 41) 1)) (((Qau (Qag p cut) ((gd ((Qag p cut).ticks) k).cart) (Qam (Qag p cut))).lines).length) (cOf (Qbr (J 41) 1)),.bool ((Qau (Qag p cut) ((gd ((Qag p cut).ticks) k).cart) (Qam (Qag p cut))).out),.int .u32 ((Qau (Qag p cut) ((gd ((Qag p cut).ticks) k).cart) (Qam (Qag p cut))).tick)]) (vs:=[.int .u16 ((Qau (Qag p cut) ((gd ((Qag p cut).ticks) k).cart) (Qam (Qag p cut))).cart),.slice (aOf (Qbr (J 41) 1)) (((Qau (Qag p cut) ((gd ((Qag p cut).ticks) k).cart) (Qam (Qag p cut))).lines).length) (cOf (Qbr (J 41) 1)),.bool ((Qau (Qag p cut) ((gd ((Qag p cut).ticks) k).cart) (Qam (Qag p cut))).out),.int .u32 ((Qau (Qag p cut) ((gd ((Qag p cut).ticks) k).cart) (Qam (Qag p cut))).tick)]) (cs':=[.int .u16 ((Qau (Qag p cut) ((gd ((Qag p cut).ticks) k).cart) (Qam (Qag p cut))).cart),.slice (aOf (Qbr (J 41) 1)) (((Qau (Qag p cut) ((gd ((Qag p cut).ticks) k).cart) (Qam (Qag p cut))).lines).length) (cOf (Qbr (J 41) 1)),.bool ((Qau (Qag p cut) ((gd ((Qag p cut).ticks) k).cart) (Qam (Qag p cut))).out),.int .u32 ((Qau (Qag p cut) ((gd ((Qag p cut).ticks) k).cart) (Qam (Qag p cut))).tick)]) Qc3.1 hs 7 rfl rfl rfl rfl rfl (QQ8 rfl) (Qaw rfl (Qaw rfl (Qaw rfl (Qaw rfl Qbg)))) (QaC rfl) fun _ hs=>⟨trivial,hs⟩
  rintro J1 w19 J2 hJ hs
  replace hJ:J2=upd (mix (sq 34 8++[14]) J1 _) 14 (.pointer (some ⟨(bOf (J1 14)),0,none⟩)):=hJ
  replace hs:Own w no w19 [blk b1 (((vc p.base.known)++[(.slice a1 p.base.ents.length c1:Value),(.slice a2 p.base.ticks.length c2:Value) ])++[(.slice a3 p.ops.length c3:Value) ]++(vc p.known)) 31,blk b3 (vc cut) 24,row (.slice x5.1.1.1 (((Qag p cut).ents).length) x5.1.1.2) (((Qag p cut).ents).map cec) 119 7,cond x5.2 emp (row (.slice x5.1.2.1 (((Qag p cut).ticks).length) x5.1.2.2) (((Qag p cut).ticks).map lsc) 125 2),blk b9 ((vc ((Qag p cut).known))++[(.slice x5.1.1.1 (((Qag p cut).ents).length) x5.1.1.2:Value),(.slice x5.1.2.1 (((Qag p cut).ticks).length) x5.1.2.2:Value) ]) 28,row (.slice an6 out.length cn6) (out.map (ic .u16)) 32 1,row (.slice (aOf (Qbr (J1 41) 1)) (((Qau (Qag p cut) ((gd ((Qag p cut).ticks) k).cart) (Qam (Qag p cut))).lines).length) (cOf (Qbr (J1 41) 1))) (((Qau (Qag p cut) ((gd ((Qag p cut).ticks) k).cart) (Qam (Qag p cut))).lines).map lc) 127 2,blk (bOf (J1 14)) [I7 ((Qau (Qag p cut) ((gd ((Qag p cut).ticks) k).cart) (Qam (Qag p cut))).cart),.slice (aOf (Qbr (J1 41) 1)) (((Qau (Qag p cut) ((gd ((Qag p cut).ticks) k).cart) (Qam (Qag p cut))).lines).length) (cOf (Qbr (J1 41) 1)),.bool ((Qau (Qag p cut) ((gd ((Qag p cut).ticks) k).cart) (Qam (Qag p cut))).out),.int .u32 ((Qau (Qag p cut) ((gd ((Qag p cut).ticks) k).cart) (Qam (Qag p cut))).tick)] 49]:=hs
  generalize (aOf (Qbr (J1 41) 1))=na20 at hs
  generalize (cOf (Qbr (J1 41) 1))=nc21 at hs
  generalize (bOf (J1 14))=b22 at hJ hs
  subst hJ
  refine Qah (Qbh [some 42,some 43,some 44,some 45,some 46,some 47,some 48,some 49,some 50,some 51,some 52,some 53,some 54,some 55,some 56,some 57,some 58] [] [0,1,3,7,15,31,63,127,255,511,1023,2047,1023,1023,13311,32767,65535] [pv (Pq b22 (0+1)),pv (.slice na20 (((Qau (Qag p cut) ((gd ((Qag p cut).ticks) k).cart) (Qam (Qag p cut))).lines).length) nc21),pv (I6 ((((Qau (Qag p cut) ((gd ((Qag p cut).ticks) k).cart) (Qam (Qag p cut))).lines).length:Nat):Int)),pv (.bool (decide (0<((((Qau (Qag p cut) ((gd ((Qag p cut).ticks) k).cart) (Qam (Qag p cut))).lines).length:Nat):Int)))),pv (.bool (decide (0<((((Qau (Qag p cut) ((gd ((Qag p cut).ticks) k).cart) (Qam (Qag p cut))).lines).length:Nat):Int)))),pg ((decide (0<((((Qau (Qag p cut) ((gd ((Qag p cut).ticks) k).cart) (Qam (Qag p cut))).lines).length:Nat):Int))) == true) (Pq b22 (0+2)),pg ((decide (0<((((Qau (Qag p cut) ((gd ((Qag p cut).ticks) k).cart) (Qam (Qag p cut))).lines).length:Nat):Int))) == true) (.bool ((Qau (Qag p cut) ((gd ((Qag p cut).ticks) k).cart) (Qam (Qag p cut))).out)),pg ((decide (0<((((Qau (Qag p cut) ((gd ((Qag p cut).ticks) k).cart) (Qam (Qag p cut))).lines).length:Nat):Int))) == true) (.bool (!((Qau (Qag p cut) ((gd ((Qag p cut).ticks) k).cart) (Qam (Qag p cut))).out))),pv (.bool ((decide (0<((((Qau (Qag p cut) ((gd ((Qag p cut).ticks) k).cart) (Qam (Qag p cut))).lines).length:Nat):Int)))&&(!((Qau (Qag p cut) ((gd ((Qag p cut).ticks) k).cart) (Qam (Qag p cut))).out)))),pv (.bool ((decide (0<((((Qau (Qag p cut) ((gd ((Qag p cut).ticks) k).cart) (Qam (Qag p cut))).lines).length:Nat):Int)))&&(!((Qau (Qag p cut) ((gd ((Qag p cut).ticks) k).cart) (Qam (Qag p cut))).out)))),pg (((decide (0<((((Qau (Qag p cut) ((gd ((Qag p cut).ticks) k).cart) (Qam (Qag p cut))).lines).length:Nat):Int)))&&(!((Qau (Qag p cut) ((gd ((Qag p cut).ticks) k).cart) (Qam (Qag p cut))).out))) == true) (Pq b22 (0+3)),pg (((decide (0<((((Qau (Qag p cut) ((gd ((Qag p cut).ticks) k).cart) (Qam (Qag p cut))).lines).length:Nat):Int)))&&(!((Qau (Qag p cut) ((gd ((Qag p cut).ticks) k).cart) (Qam (Qag p cut))).out))) == true) (.int .u32 ((Qau (Qag p cut) ((gd ((Qag p cut).ticks) k).cart) (Qam (Qag p cut))).tick)),pg (((decide (0<((((Qau (Qag p cut) ((gd ((Qag p cut).ticks) k).cart) (Qam (Qag p cut))).lines).length:Nat):Int)))&&(!((Qau (Qag p cut) ((gd ((Qag p cut).ticks) k).cart) (Qam (Qag p cut))).out))) == true) (.int .u32 now),pg (((decide (0<((((Qau (Qag p cut) ((gd ((Qag p cut).ticks) k).cart) (Qam (Qag p cut))).lines).length:Nat):Int)))&&(!((Qau (Qag p cut) ((gd ((Qag p cut).ticks) k).cart) (Qam (Qag p cut))).out))) == true) (.int .u32 idle),pg (((decide (0<((((Qau (Qag p cut) ((gd ((Qag p cut).ticks) k).cart) (Qam (Qag p cut))).lines).length:Nat):Int)))&&(!((Qau (Qag p cut) ((gd ((Qag p cut).ticks) k).cart) (Qam (Qag p cut))).out))) == true) (.int .u32 (now-idle)),pg (((decide (0<((((Qau (Qag p cut) ((gd ((Qag p cut).ticks) k).cart) (Qam (Qag p cut))).lines).length:Nat):Int)))&&(!((Qau (Qag p cut) ((gd ((Qag p cut).ticks) k).cart) (Qam (Qag p cut))).out))) == true) (.bool (decide ((Qau (Qag p cut) ((gd ((Qag p cut).ticks) k).cart) (Qam (Qag p cut))).tick<=now-idle))),pv (.bool (((decide (0<((((Qau (Qag p cut) ((gd ((Qag p cut).ticks) k).cart) (Qam (Qag p cut))).lines).length:Nat):Int)))&&(!((Qau (Qag p cut) ((gd ((Qag p cut).ticks) k).cart) (Qam (Qag p cut))).out)))&&(decide ((Qau (Qag p cut) ((gd ((Qag p cut).ticks) k).cart) (Qam (Qag p cut))).tick<=now-idle))))] (fun _ _=>_) [16] (by kernel_rfl) hs ⟨?_,?_,?_,?_,?_,?_,?_,?_,?_,?_,?_,?_,?_,?_,?_,?_,?_,trivial⟩ ?_)
  ·exact oa [] fun D J w hs=>Qae QdV rfl (Zz hs)
  ·exact oa [0] fun D J w hs=>QaE (V:=.slice na20 (((Qau (Qag p cut) ((gd ((Qag p cut).ticks) k).cart) (Qam (Qag p cut))).lines).length) nc21) QiG hs 7 rfl rfl rfl (Zz hs)
  ·exact oa [1] fun D J w hs=>Qa4 (n:=((Qau (Qag p cut) ((gd ((Qag p cut).ticks) k).cart) (Qam (Qag p cut))).lines).length) QdD (hs.rd 6 rfl) (by simp) rfl (Zz hs)
  ·exact oa [2] fun D J w hs=>QbP rfl rfl (Zz hs)
  ·exact oa [3] fun D J w hs=>Qac (V:=.bool (decide (0<((((Qau (Qag p cut) ((gd ((Qag p cut).ticks) k).cart) (Qam (Qag p cut))).lines).length:Nat):Int)))) rfl (Zz hs)
  ·exact og [4] fun D J w hG hs=>Qae QdC rfl (Zz hs)
  ·exact oy [4,5] [5] fun D J w hG hs=>QaE (V:=.bool ((Qau (Qag p cut) ((gd ((Qag p cut).ticks) k).cart) (Qam (Qag p cut))).out)) Qpt hs 7 rfl rfl rfl (Zz hs)
  ·exact oy [4,6] [6] fun D J w hG hs=>Qbw rfl (Zz hs)
  ·exact oa [4,7] fun D J w hs=>Qa2 (h':=!((Qau (Qag p cut) ((gd ((Qag p cut).ticks) k).cart) (Qam (Qag p cut))).out)) rfl rfl rfl (Zz hs)
  ·exact oa [8] fun D J w hs=>Qac (V:=.bool ((decide (0<((((Qau (Qag p cut) ((gd ((Qag p cut).ticks) k).cart) (Qam (Qag p cut))).lines).length:Nat):Int)))&&(!((Qau (Qag p cut) ((gd ((Qag p cut).ticks) k).cart) (Qam (Qag p cut))).out)))) rfl (Zz hs)
  ·exact og [9] fun D J w hG hs=>Qae QhR rfl (Zz hs)
  ·exact oy [9,10] [10] fun D J w hG hs=>QaE (V:=.int .u32 ((Qau (Qag p cut) ((gd ((Qag p cut).ticks) k).cart) (Qam (Qag p cut))).tick)) QaY hs 7 rfl rfl rfl (Zz hs)
  ·exact og [9] fun D J w hG hs=>Qac (V:=.int .u32 now) rfl (Zz hs)
  ·exact og [9] fun D J w hG hs=>Qac (V:=.int .u32 idle) rfl (Zz hs)
  ·exact oy [9,12,13] [12,13] fun D J w hG hs=>Qa6 (a:=now) (b:=idle) (c:=now-idle) rfl rfl (Qfy (by omega) (by omega)) (Zz hs)
  ·exact oy [9,11,14] [11,14] fun D J w hG hs=>Qc6 rfl rfl (Zz hs)
  ·exact oa [9,15] fun D J w hs=>Qa2 (h':=decide ((Qau (Qag p cut) ((gd ((Qag p cut).ticks) k).cart) (Qam (Qag p cut))).tick<=now-idle)) rfl rfl rfl (Zz hs)
  rintro J1 w23 J2 hJ hs
  replace hJ:J2=upd (mix (sq 42 17) J1 _) 58 (.bool (((decide (0<((((Qau (Qag p cut) ((gd ((Qag p cut).ticks) k).cart) (Qam (Qag p cut))).lines).length:Nat):Int)))&&(!((Qau (Qag p cut) ((gd ((Qag p cut).ticks) k).cart) (Qam (Qag p cut))).out)))&&(decide ((Qau (Qag p cut) ((gd ((Qag p cut).ticks) k).cart) (Qam (Qag p cut))).tick<=now-idle)))):=hJ
  subst hJ
  refine Qao (t:=((decide (0<((((Qau (Qag p cut) ((gd ((Qag p cut).ticks) k).cart) (Qam (Qag p cut))).lines).length:Nat):Int)))&&(!((Qau (Qag p cut) ((gd ((Qag p cut).ticks) k).cart) (Qam (Qag p cut))).out)))&&(decide ((Qau (Qag p cut) ((gd ((Qag p cut).ticks) k).cart) (Qam (Qag p cut))).tick<=now-idle))) rfl (fun c24=>?_) (fun c24=>?_)
  ·
   have c24r:=QbC c24
   replace c24:=QbA c24
   have c24rr:=QbC c24
   replace c24:=QbA c24
   replace c24:=QQ1 c24
   replace c24rr:=Qbp c24rr
   replace c24r:=QQ1 c24r
   refine Qab (Qaa (Qac (V:=.slice an6 out.length cn6) rfl (Qaa (Qae Qjt rfl (Qaa (QaE (V:=I7 ((Qau (Qag p cut) ((gd ((Qag p cut).ticks) k).cart) (Qam (Qag p cut))).cart)) Qas hs 7 rfl rfl rfl (Qaa (Qfb (vals:=[I7 ((Qau (Qag p cut) ((gd ((Qag p cut).ticks) k).cart) (Qam (Qag p cut))).cart)]) (ls:=List.map (ic .u16) ([(Qau (Qag p cut) ((gd ((Qag p cut).ticks) k).cart) (Qam (Qag p cut))).cart]:List Int)) Qjg rfl rfl rfl (Qbd (enc:=(ic .u16)) (fun _=>rfl) _) (QaK (Qev .u16) _) (QQ8 rfl) hs fun b25 w26 hs=>(Qaa (Qb3 (ls':=(out++[(Qau (Qag p cut) ((gd ((Qag p cut).ticks) k).cart) (Qam (Qag p cut))).cart]).map (ic .u16)) (n:=(out++[(Qau (Qag p cut) ((gd ((Qag p cut).ticks) k).cart) (Qam (Qag p cut))).cart]).length) Qjg hs 5 rfl rfl rfl (hs.rd 8 rfl) (QaK (Qev .u16) _) (by simp only [QQ6,QQ7,List.length_cons,List.length_nil];omega) (by simp) (by simp) fun a27 c27 w28 hs=>(Qaa (Qad (V:=.slice a27 ((out++[(Qau (Qag p cut) ((gd ((Qag p cut).ticks) k).cart) (Qam (Qag p cut))).cart]).length) c27) rfl (Qaf (Qab (Qaa (Qac (V:=I6 (k:Int)) rfl (Qaa (QaD (a:=(k:Int)) (b:=1) (c:=((k+1:Nat):Int)) rfl rfl (Qak (by omega) (by omega)) (Qaa (Qad (V:=I6 ((k+1:Nat):Int)) rfl (Qaf ?_)))))))))))))))))))))
   refine ⟨_,?_,_,k+1,a27,c27,out++[(Qau (Qag p cut) ((gd ((Qag p cut).ticks) k).cart) (Qam (Qag p cut))).cart],Qai (Qai (Qap (ds:=([12,13,14]++sq 27 37)) (by repeat (first|exact Agr.refl _ _|refine Agr.upd ?_ rfl|refine Agr.mix ?_ rfl))) rfl) rfl,(by omega),(by rw [Qk2];exact Qr0 hout (by omega) (QqB (v:=QaZ p cut (gd (Qag p cut).ticks k).cart) c24 c24rr c24r)),(by simp only [QQ7,List.length_singleton];omega),rfl,hs.take 6⟩
   omega
  refine Qaq (Qab (Qaa (Qac (V:=I6 (k:Int)) rfl (Qaa (QaD (a:=(k:Int)) (b:=1) (c:=((k+1:Nat):Int)) rfl rfl (Qak (by omega) (by omega)) (Qaa (Qad (V:=I6 ((k+1:Nat):Int)) rfl (Qaf ?_))))))))
  refine ⟨_,?_,_,k+1,an6,cn6,out,Qai (Qai (Qap (ds:=([12,13,14]++sq 27 37)) (by repeat (first|exact Agr.refl _ _|refine Agr.upd ?_ rfl|refine Agr.mix ?_ rfl))) rfl) rfl,(by omega),(Qqy hout (by omega) (Qoe (v:=QaZ p cut (gd (Qag p cut).ticks k).cart) c24)),(by omega),rfl,hs.take 6⟩
  omega
 replace c15:=QQ2 c15
 refine QaG (Qah (Qab (Qaa (Qac (V:=.slice an6 out.length cn6) rfl (Qaa (Qad (V:=.slice an6 out.length cn6) rfl (Qaa (Qad (V:=I6 0) rfl (Qaf (Qav ?_))))))))))
 refine ⟨_,Qbq (U:=.slice an6 out.length cn6) (V:=I6 0) Tryz.results26 rfl rfl,?_⟩
 have hX:abI p cut now idle=0:=Qqi c12 c13
 rw [Qs8 hok c12 hX (by omega) hout,hX]
 exact ⟨(an6,cn6),rfl,hs.only 5 rfl,trivial⟩
end Tt
end Go.Proofs
namespace Go.Proofs
open Go Go.Vx Go.RowKit
namespace Tt
theorem Qkp (w:World) (p:Pst) (a1:Option Addr) (c1:Nat) (a2:Option Addr) (c2:Nat) (a3:Option Addr) (c3:Nat) (cut:Vec) (hcut:QbW cut) (n:Int) (hsortE:QgQ Tryz.prog 48 49 cec 106 7 Qj2) (hsortU:QgI Tryz.prog 134 .u16 32) (hok:QcW p) (hle:p.base.ents.length<=400) (hlt:p.base.ticks.length<=400) (hlo:p.ops.length<=400) (hr1:Rd w (.slice a1 p.base.ents.length c1) 7 (p.base.ents.map cec)) (hr2:Rd w (.slice a2 p.base.ticks.length c2) 2 (p.base.ticks.map lsc)) (hr3:Rd w (.slice a3 p.ops.length c3) 23 (p.ops.map oc)):Calls Tryz.prog 15 #[.agg (((vc p.base.known)++[(.slice a1 p.base.ents.length c1:Value),(.slice a2 p.base.ticks.length c2:Value) ])++[(.slice a3 p.ops.length c3:Value) ]++(vc p.known)).toArray,.agg (vc cut).toArray,.int .u16 n] w (fun e w'=>∃ x:Option Addr × Nat,e = .returned (.tuple #[.agg [.int .u16 (Qa1 p cut n).cart,.slice x.1 (Qa1 p cut n).lines.length x.2,.bool (Qa1 p cut n).out,.int .u32 (Qa1 p cut n).tick].toArray,.int .i64 (Qbc p cut)])/\Own w no w' [row (.slice x.1 (Qa1 p cut n).lines.length x.2) ((Qa1 p cut n).lines.map lc) 127 2]/\True):=by
 refine Qaj (n:=23) Tryz.func15 rfl Tryz.ntmps15 rfl ?_
 have hs:=Own.start w
 have ⟨hokb,hoko,hokk⟩:=hok
 have hsl:=Qc1 p cut
 have hso:=QdR (cut:=cut) hok hcut
 refine Qah (Qab (Qaa (QaR (V:=.agg (((vc p.base.known)++[(.slice a1 p.base.ents.length c1:Value),(.slice a2 p.base.ticks.length c2:Value) ])++[(.slice a3 p.ops.length c3:Value) ]++(vc p.known)).toArray) (cs:=((vc p.base.known)++[(.slice a1 p.base.ents.length c1:Value),(.slice a2 p.base.ticks.length c2:Value) ])++[(.slice a3 p.ops.length c3:Value) ]++(vc p.known)) rfl rfl hs fun b1 w2 hs=>(Qaa (QaR (V:=.agg (vc cut).toArray) (cs:=vc cut) rfl rfl hs fun b3 w4 hs=>(Qaa (QaM (cs:=[I7 0,.slice none 0 0,.bool false,.int .u32 0]) QhJ rfl hs fun b5 w6 hs=>(Qaa (Qad (V:=I6 0) rfl (Qaf (Qah (Qab (Qaa (QaJ (cs:=((vc p.base.known)++[(.slice a1 p.base.ents.length c1:Value),(.slice a2 p.base.ticks.length c2:Value) ])++[(.slice a3 p.ops.length c3:Value) ]++(vc p.known)) QeH hs 0 rfl rfl rfl (Qaa (QaJ (cs:=vc cut) QbB hs 1 rfl rfl rfl (Qaa (Qbo (α:=(Option Addr × Nat) × (Option Addr × Nat)) (vs:=[.agg (((vc p.base.known)++[(.slice a1 p.base.ents.length c1:Value),(.slice a2 p.base.ticks.length c2:Value) ])++[(.slice a3 p.ops.length c3:Value) ]++(vc p.known)).toArray,.agg (vc cut).toArray]) (V:=fun x:(Option Addr × Nat) × (Option Addr × Nat)=>.tuple #[.agg (vc (Qag p cut).known++[(.slice x.1.1 ((Qag p cut).ents).length x.1.2:Value),(.slice x.2.1 ((Qag p cut).ticks).length x.2.2:Value)]).toArray,I6 (Qbc p cut)]) (Lo:=fun x=>[row (.slice x.1.1 ((Qag p cut).ents).length x.1.2) (((Qag p cut).ents).map cec) 106 7,row (.slice x.2.1 ((Qag p cut).ticks).length x.2.2) (((Qag p cut).ticks).map lsc) 102 2]) (F:=fun _ _=>True) Qmp rfl rfl ?hc hs fun x8 w7 hs _=>?_))))))))))))))))))
 case hc=>exact (Qd4 _ p a1 c1 a2 c2 a3 c3 cut hcut hsortE hsortU hok hle hlt hlo (Rd.own' hr1 hs) (Rd.own' hr2 hs) (Rd.own' hr3 hs))
 replace hs:Own w no w7 [blk b1 (((vc p.base.known)++[(.slice a1 p.base.ents.length c1:Value),(.slice a2 p.base.ticks.length c2:Value) ])++[(.slice a3 p.ops.length c3:Value) ]++(vc p.known)) 43,blk b3 (vc cut) 24,blk b5 [I7 0,.slice none 0 0,.bool false,.int .u32 0] 49,row (.slice x8.1.1 (((Qag p cut).ents).length) x8.1.2) (((Qag p cut).ents).map cec) 106 7,row (.slice x8.2.1 (((Qag p cut).ticks).length) x8.2.2) (((Qag p cut).ticks).map lsc) 102 2]:=hs
 refine Qaa (Qac (V:=.tuple #[.agg ((vc ((Qag p cut).known))++[(.slice x8.1.1 (((Qag p cut).ents).length) x8.1.2:Value),(.slice x8.2.1 (((Qag p cut).ticks).length) x8.2.2:Value) ]).toArray,I6 (Qbc p cut)]) rfl (Qaa (Qay (V:=.agg ((vc ((Qag p cut).known))++[(.slice x8.1.1 (((Qag p cut).ents).length) x8.1.2:Value),(.slice x8.2.1 (((Qag p cut).ticks).length) x8.2.2:Value) ]).toArray) rfl rfl (Qaa (Qay (V:=I6 (Qbc p cut)) rfl rfl (Qaa (QaM (cs:=(vc vzero)++[(.slice none 0 0:Value),(.slice none 0 0:Value) ]) QhF rfl hs fun b9 w10 hs=>(Qaa (QcH (V:=.agg ((vc ((Qag p cut).known))++[(.slice x8.1.1 (((Qag p cut).ents).length) x8.1.2:Value),(.slice x8.2.1 (((Qag p cut).ticks).length) x8.2.2:Value) ]).toArray) (vs:=(vc ((Qag p cut).known))++[(.slice x8.1.1 (((Qag p cut).ents).length) x8.1.2:Value),(.slice x8.2.1 (((Qag p cut).ticks).length) x8.2.2:Value) ]) (cs':=(vc ((Qag p cut).known))++[(.slice x8.1.1 (((Qag p cut).ents).length) x8.1.2:Value),(.slice x8.2.1 (((Qag p cut).ticks).length) x8.2.2:Value) ]) QcD.1 hs 5 rfl rfl rfl rfl rfl (QQ8 rfl) (QbQ (Qcv _) (Qaw rfl (Qaw rfl Qbg))) (QaC rfl) fun w11 hs=>(Qaa (Qad (V:=I6 (Qbc p cut)) rfl (Qaf (Qah (Qah (Qab (Qaa (Qac (V:=I6 (Qbc p cut)) rfl (Qaa (Qch rfl rfl (Qaf (Qao (t:=!decide (Qbc p cut=0)) rfl (fun c12=>?_) (fun c12=>?_))))))))))))))))))))))
 ·
  replace c12:=Qbp c12
  replace c12:=QQ2 c12
  refine Qah (Qab (Qaa (Qbx (vs:=[]) (cs:=[I7 0,.slice none 0 0,.bool false,.int .u32 0]) Qqs (rfl) rfl (Qaa (Qac (V:=I6 (Qbc p cut)) rfl (Qaa (QcH (V:=.agg #[I7 0,.slice none 0 0,.bool false,.int .u32 0]) (vs:=[I7 0,.slice none 0 0,.bool false,.int .u32 0]) (cs':=[I7 0,.slice none 0 0,.bool false,.int .u32 0]) Qc3.1 hs 2 rfl rfl rfl rfl rfl (QQ8 rfl) (Qaw rfl (Qaw rfl (Qaw rfl (Qaw rfl Qbg)))) (QaC rfl) fun w13 hs=>(Qaa (Qad (V:=I6 (Qbc p cut)) rfl (Qaf (Qav ?_)))))))))))
  refine ⟨_,Qdr (cs:=[I7 0,.slice none 0 0,.bool false,.int .u32 0]) (V:=I6 (Qbc p cut)) Tryz.results15 Qc3 hs 2 rfl rfl rfl rfl,?_⟩
  rw [QnH c12]
  exact ⟨(none,0),rfl,(hs.take 0).more _ (Qbk _ _ 127 2),trivial⟩
 replace c12:=Qbf c12
 replace c12:=QQ1 c12
 refine Qaq (Qah (Qab (Qaa (QaJ (cs:=(vc ((Qag p cut).known))++[(.slice x8.1.1 (((Qag p cut).ents).length) x8.1.2:Value),(.slice x8.2.1 (((Qag p cut).ticks).length) x8.2.2:Value) ]) QcD hs 5 rfl rfl rfl (Qaa (Qac (V:=I7 n) rfl (Qaa (Qbo (α:=Option Addr × Nat) (vs:=[.agg ((vc ((Qag p cut).known))++[(.slice x8.1.1 (((Qag p cut).ents).length) x8.1.2:Value),(.slice x8.2.1 (((Qag p cut).ticks).length) x8.2.2:Value) ]).toArray,I7 n]) (V:=fun x=>.agg #[I7 ((Qau (Qag p cut) n (Qam (Qag p cut))).cart),.slice x.1 (((Qau (Qag p cut) n (Qam (Qag p cut))).lines).length) x.2,.bool ((Qau (Qag p cut) n (Qam (Qag p cut))).out),.int .u32 ((Qau (Qag p cut) n (Qam (Qag p cut))).tick)]) (Lo:=fun x=>[row (.slice x.1 ((Qau (Qag p cut) n (Qam (Qag p cut))).lines).length x.2) (((Qau (Qag p cut) n (Qam (Qag p cut))).lines).map lc) 127 2]) (F:=fun _ _=>True) Qox rfl rfl ?hc hs fun x15 w14 hs _=>?_))))))))
 case hc=>exact (Qe8 _ (Qag p cut) x8.1.1 x8.1.2 x8.2.1 x8.2.2 n (Qau (Qag p cut) n (Qam (Qag p cut)):Vw) (rfl) hso (by omega) (by omega) (hs.rd 3 rfl) (hs.rd 4 rfl))
 refine Qaa (QcH (V:=.agg #[I7 ((Qau (Qag p cut) n (Qam (Qag p cut))).cart),.slice x15.1 (((Qau (Qag p cut) n (Qam (Qag p cut))).lines).length) x15.2,.bool ((Qau (Qag p cut) n (Qam (Qag p cut))).out),.int .u32 ((Qau (Qag p cut) n (Qam (Qag p cut))).tick)]) (vs:=[I7 ((Qau (Qag p cut) n (Qam (Qag p cut))).cart),.slice x15.1 (((Qau (Qag p cut) n (Qam (Qag p cut))).lines).length) x15.2,.bool ((Qau (Qag p cut) n (Qam (Qag p cut))).out),.int .u32 ((Qau (Qag p cut) n (Qam (Qag p cut))).tick)]) (cs':=[I7 ((Qau (Qag p cut) n (Qam (Qag p cut))).cart),.slice x15.1 (((Qau (Qag p cut) n (Qam (Qag p cut))).lines).length) x15.2,.bool ((Qau (Qag p cut) n (Qam (Qag p cut))).out),.int .u32 ((Qau (Qag p cut) n (Qam (Qag p cut))).tick)]) Qc3.1 hs 2 rfl rfl rfl rfl rfl (QQ8 rfl) (Qaw rfl (Qaw rfl (Qaw rfl (Qaw rfl Qbg)))) (QaC rfl) fun w16 hs=>?_)
 replace hs:Own w no w16 [blk b1 (((vc p.base.known)++[(.slice a1 p.base.ents.length c1:Value),(.slice a2 p.base.ticks.length c2:Value) ])++[(.slice a3 p.ops.length c3:Value) ]++(vc p.known)) 43,blk b3 (vc cut) 24,blk b5 [I7 ((Qau (Qag p cut) n (Qam (Qag p cut))).cart),.slice x15.1 (((Qau (Qag p cut) n (Qam (Qag p cut))).lines).length) x15.2,.bool ((Qau (Qag p cut) n (Qam (Qag p cut))).out),.int .u32 ((Qau (Qag p cut) n (Qam (Qag p cut))).tick)] 49,row (.slice x8.1.1 (((Qag p cut).ents).length) x8.1.2) (((Qag p cut).ents).map cec) 106 7,row (.slice x8.2.1 (((Qag p cut).ticks).length) x8.2.2) (((Qag p cut).ticks).map lsc) 102 2,blk b9 ((vc ((Qag p cut).known))++[(.slice x8.1.1 (((Qag p cut).ents).length) x8.1.2:Value),(.slice x8.2.1 (((Qag p cut).ticks).length) x8.2.2:Value) ]) 38,row (.slice x15.1 (((Qau (Qag p cut) n (Qam (Qag p cut))).lines).length) x15.2) (((Qau (Qag p cut) n (Qam (Qag p cut))).lines).map lc) 127 2]:=hs
 refine Qaa (Qad (V:=I6 0) rfl (Qaf (Qav ?_)))
 refine ⟨_,Qdr (cs:=[I7 ((Qau (Qag p cut) n (Qam (Qag p cut))).cart),.slice x15.1 (((Qau (Qag p cut) n (Qam (Qag p cut))).lines).length) x15.2,.bool ((Qau (Qag p cut) n (Qam (Qag p cut))).out),.int .u32 ((Qau (Qag p cut) n (Qam (Qag p cut))).tick)]) (V:=I6 0) Tryz.results15 Qc3 hs 2 rfl rfl rfl rfl,?_⟩
 rw [QiP c12,c12]
 exact ⟨(x15.1,x15.2),rfl,hs.only 6 rfl,trivial⟩
end Tt
end Go.Proofs
namespace Go.Proofs
open Go Go.Vx Go.RowKit
namespace Tt
theorem QfL (w:World) (S:Nat->Prop) (b:Nat) (L:List Dif) (x:Dif) (hR:(Qer 60 83 b L).holds w S) (hlS:∀ x,S x->x<w.heap.size) (hL:L.length<=100000000):Calls Tryz.prog 65 #[.agg (dfc x).toArray,.pointer (some ⟨b,0,none⟩)] w (fun e w'=>∃ x_:Unit,e = .returned (.tuple #[])/\Own w S w' [Qer 60 83 b (L++[x])]/\True):=by
 refine Qaj (n:=7) Tryz.func65 rfl Tryz.ntmps65 rfl ?_
 obtain ⟨a0,c0,hs⟩:=QoR hR hlS
 refine Qah (Qab (Qaa (QaR (V:=.agg (dfc x).toArray) (cs:=dfc x) rfl rfl hs fun b1 w2 hs=>(Qaf (Qab (Qaa (QaE (V:=.slice a0 L.length c0) QrX hs 0 rfl rfl rfl (Qaa (QaJ (cs:=dfc x) QiU hs 2 rfl rfl rfl (Qaa (Qfb (vals:=[.agg (dfc x).toArray]) (ls:=List.map dfc ([x]:List Dif)) QtV rfl rfl rfl (Qbd (enc:=dfc) (fun _=>rfl) _) (QaK Qjk _) (QQ8 rfl) hs fun b3 w4 hs=>(Qaa (Qb3 (ls':=(L++[x]).map dfc) (n:=(L++[x]).length) QtV hs 1 rfl rfl rfl (hs.rd 3 rfl) (QaK Qjk _) (by simp only [QQ6,QQ7,List.length_cons,List.length_nil];omega) (by simp) (by simp) fun a5 c5 w6 hs=>(Qaa (Qc2 (V:=.slice a5 ((L++[x]).length) c5) (cs':=[.slice a5 ((L++[x]).length) c5]) QrX hs 0 rfl rfl rfl rfl (QQ8 rfl) rfl fun w7 hs=>?_)))))))))))))))
 replace hs:Own w S w7 [blk b [.slice a5 ((L++[x]).length) c5] 60,row (.slice a5 ((L++[x]).length) c5) ((L++[x]).map dfc) 83 5,blk b1 (dfc x) 83,row (.slice (some ⟨b3,0,none⟩) 1 1) ([x].map dfc) 83 5]:=hs
 refine Qaf ?_
 refine ⟨_,Qbn Tryz.results65,?_⟩
 exact ⟨(),rfl,QoS (hs.two 0 1 (by decide) rfl rfl),trivial⟩
end Tt
end Go.Proofs
namespace Go.Proofs
open Go Go.Vx Go.RowKit
namespace Tt
theorem Qmy (w:World) (S:Nat->Prop) (b:Nat) (L:List Dif) (va:Int) (la:List Line) (ao:Bool) (at_:Int) (aa:Option Addr) (ca:Nat) (vb:Int) (lb:List Line) (bo:Bool) (bt:Int) (ab:Option Addr) (cb:Nat) (hra:QfG la) (hrb:QfG lb) (hna:la.length<=100000) (hnb:lb.length<=100000) (hva:∀ (w1:World) (L1:List Res),Own w S w1 L1->Rd w1 (.slice aa la.length ca) 2 (la.map lc)) (hvb:∀ (w1:World) (L1:List Res),Own w S w1 L1->Rd w1 (.slice ab lb.length cb) 2 (lb.map lc)) (hR:(Qer 60 83 b L).holds w S) (hlS:∀ x,S x->x<w.heap.size) (hL:L.length<=10000000):Calls Tryz.prog 64 #[.agg #[.int .u16 va,.slice aa la.length ca,.bool ao,.int .u32 at_],.agg #[.int .u16 vb,.slice ab lb.length cb,.bool bo,.int .u32 bt],.func (.func 65) #[] #[.pointer (some ⟨b,0,none⟩)]] w (fun e w'=>∃ x_:Unit,e = .returned (.tuple #[])/\Own w S w' [Qer 60 83 b (L++QeA (⟨va,la,ao,at_⟩:Vw) (⟨vb,lb,bo,bt⟩:Vw))]/\True):=by
 refine Qaj (n:=126) Tryz.func64 rfl Tryz.ntmps64 rfl ?_
 have hs:=Own.lent hR hlS
 refine Qah (Qab (Qaa (QaR (V:=.agg #[I7 va,.slice aa la.length ca,.bool ao,.int .u32 at_]) (cs:=[I7 va,.slice aa la.length ca,.bool ao,.int .u32 at_]) rfl rfl hs fun b1 w2 hs=>(Qaa (QaR (V:=.agg #[I7 vb,.slice ab lb.length cb,.bool bo,.int .u32 bt]) (cs:=[I7 vb,.slice ab lb.length cb,.bool bo,.int .u32 bt]) rfl rfl hs fun b3 w4 hs=>(Qaf (Qah (QaH HM [some 9,some 10,some 11,some 12,some 6,some 7] [] [0,1,0,4,3,31] [pv (Pq b1 (0+1)),pv (.slice aa la.length ca),pv (Pq b3 (0+1)),pv (.slice ab lb.length cb),pv (.slice aa la.length ca),pv (.slice ab lb.length cb)] (fun _ _=>_) [5,4] (by kernel_rfl) hs ⟨?_,?_,?_,?_,?_,?_,trivial⟩ ?_))))))))
 ·exact oa [] fun D J w hs=>Qae QdV rfl (Zz hs)
 ·exact oa [0] fun D J w hs=>QaE (V:=.slice aa la.length ca) QiG hs 1 rfl rfl rfl (Zz hs)
 ·exact oa [] fun D J w hs=>Qae QdV rfl (Zz hs)
 ·exact oa [2] fun D J w hs=>QaE (V:=.slice ab lb.length cb) QiG hs 2 rfl rfl rfl (Zz hs)
 ·exact oa [1] fun D J w hs=>Qad (V:=.slice aa la.length ca) rfl (Zz hs)
 ·exact oa [3] fun D J w hs=>Qad (V:=.slice ab lb.length cb) rfl (Zz hs)
 rintro J1 w5 J2 hJ hs
 replace hJ:J2=upd (upd (mix [9,10,11,12,6,7] J1 _) 6 (.slice aa la.length ca)) 7 (.slice ab lb.length cb):=hJ
 subst hJ
 refine Qah (Qan (QaA (fun J μ J' w'=>∃ (Jo:Env) (R1:List Line) (R2:List Line) (I:List Int) (out:List Dif) (a6:Option Addr) (cb6:Nat) (a7:Option Addr) (cb7:Nat),J'=upd (upd (mix ([6,7,8]++sq 13 97) Jo J) 6 (.slice a6 R1.length cb6)) 7 (.slice a7 R2.length cb7)/\(DifI la lb R1 R2 I)/\(out=L++I.flatMap (Qjp vb la lb))/\(∀ (w1:World) (L1:List Res),Own w S w1 L1->Rd w1 (.slice a6 R1.length cb6) 2 (R1.map lc))/\(∀ (w1:World) (L1:List Res),Own w S w1 L1->Rd w1 (.slice a7 R2.length cb7) 2 (R2.map lc))/\(R1.length<=la.length/\R2.length<=lb.length)/\(out.length+(R1.length+R2.length)<=L.length+(la.length+lb.length))/\μ=R1.length+R2.length/\Own w S w' [Qer 60 83 b out,blk b1 [I7 va,.slice aa la.length ca,.bool ao,.int .u32 at_] 49,blk b3 [I7 vb,.slice ab lb.length cb,.bool bo,.int .u32 bt] 49]) ?_ ?_))
 ·exact ⟨_,_,la,lb,[],L,aa,ca,ab,cb,Qai (Qai (Qap (ds:=([6,7,8]++sq 13 97)) (Agr.refl _ _)) rfl) rfl,(QkW _ _),(by simp),hva,hvb,(by omega),(by omega),rfl,hs⟩
 rintro μ J' w6 ⟨Jo,R1,R2,I,out,a6,cb6,a7,cb7,rfl,hdi,hout,hv6,hv7,hll,hol,rfl,hs⟩
 have hrr:=QnK hra hrb hdi
 have hmm:=Qpj hdi
 refine Qah (Qah (Qbh [some 13,some 14,some 15,some 16,some 17,some 18,some 19,some 20] [] [0,1,3,7,15,31,63,127] [pv (.slice a6 R1.length cb6),pv (I6 ((R1.length:Nat):Int)),pv (.bool (decide (0<((R1.length:Nat):Int)))),pv (.bool (decide (0<((R1.length:Nat):Int)))),pg ((decide (0<((R1.length:Nat):Int))) == false) (.slice a7 R2.length cb7),pg ((decide (0<((R1.length:Nat):Int))) == false) (I6 ((R2.length:Nat):Int)),pg ((decide (0<((R1.length:Nat):Int))) == false) (.bool (decide (0<((R2.length:Nat):Int)))),pv (.bool ((decide (0<((R1.length:Nat):Int)))||(decide (0<((R2.length:Nat):Int)))))] (fun _ _=>_) [7] (by kernel_rfl) hs ⟨?_,?_,?_,?_,?_,?_,?_,?_,trivial⟩ ?_))
 ·exact oa [] fun D J w hs=>Qac (V:=.slice a6 R1.length cb6) rfl (Zz hs)
 ·exact oa [0] fun D J w hs=>Qa4 (n:=R1.length) QdD (hv6 _ _ hs) (by simp) rfl (Zz hs)
 ·exact oa [1] fun D J w hs=>QbP rfl rfl (Zz hs)
 ·exact oa [2] fun D J w hs=>Qac (V:=.bool (decide (0<((R1.length:Nat):Int)))) rfl (Zz hs)
 ·exact og [3] fun D J w hG hs=>Qac (V:=.slice a7 R2.length cb7) rfl (Zz hs)
 ·exact oy [3,4] [4] fun D J w hG hs=>Qa4 (n:=R2.length) QdD (hv7 _ _ hs) (by simp) rfl (Zz hs)
 ·exact oy [3,5] [5] fun D J w hG hs=>QbP rfl rfl (Zz hs)
 ·exact oa [3,6] fun D J w hs=>QbZ (h':=decide (0<((R2.length:Nat):Int))) rfl rfl rfl (Zz hs)
 rintro J1 w7 J2 hJ hs
 replace hJ:J2=upd (mix (sq 13 8) J1 _) 20 (.bool ((decide (0<((R1.length:Nat):Int)))||(decide (0<((R2.length:Nat):Int))))):=hJ
 subst hJ
 refine Qao (t:=(decide (0<((R1.length:Nat):Int)))||(decide (0<((R2.length:Nat):Int)))) rfl (fun c8=>?_) (fun c8=>?_)
 ·
  refine Qaq (Qan (Qah (Qab (Qaa (Qae Qjt rfl (Qaa (QaE (V:=I7 vb) Qas hs 2 rfl rfl rfl (Qaa (Qbx (vs:=[(0,I7 vb)]) (cs:=dfc (⟨vb,0,false,0,0⟩:Dif)) Qrc (rfl) rfl (Qaa (QaM (cs:=dfc (⟨0,0,false,0,0⟩:Dif)) QvP rfl hs fun b9 w10 hs=>(Qaa (QcH (V:=.agg (dfc (⟨vb,0,false,0,0⟩:Dif)).toArray) (vs:=dfc (⟨vb,0,false,0,0⟩:Dif)) (cs':=dfc (⟨vb,0,false,0,0⟩:Dif)) QiU.1 hs 3 rfl rfl rfl rfl rfl (QQ8 rfl) (Qjk _) (QaC rfl) fun w11 hs=>?_)))))))))))))
  replace hs:Own w S w11 [Qer 60 83 b out,blk b1 [I7 va,.slice aa la.length ca,.bool ao,.int .u32 at_] 49,blk b3 [I7 vb,.slice ab lb.length cb,.bool bo,.int .u32 bt] 49,blk b9 (dfc (⟨vb,0,false,0,0⟩:Dif)) 83]:=hs
  refine Qaf (Qah (Qan (Qah (QaH HM [some 44,some 45,some 46,some 47,some 48,some 49,some 50,some 51,some 52,some 53,some 54,some 55,some 56,some 57,some 58,some 59,some 60,some 61,some 62,some 43] [] [0,1,3,7,15,31,63,127,255,511,1023,2047,255,4351,12543,28927,65535,131071,262143,524287] [pv (.slice a7 R2.length cb7),pv (I6 ((R2.length:Nat):Int)),pv (.bool (decide (((R2.length:Nat):Int)=0))),pv (.bool (decide (((R2.length:Nat):Int)=0))),pg ((decide (((R2.length:Nat):Int)=0)) == false) (.slice a6 R1.length cb6),pg ((decide (((R2.length:Nat):Int)=0)) == false) (I6 ((R1.length:Nat):Int)),pg ((decide (((R2.length:Nat):Int)=0)) == false) (.bool (decide (0<((R1.length:Nat):Int)))),pg ((decide (((R2.length:Nat):Int)=0)) == false) (.bool (decide (0<((R1.length:Nat):Int)))),pg (((decide (((R2.length:Nat):Int)=0)) == false)&&((decide (0<((R1.length:Nat):Int))) == true)) (.slice a6 R1.length cb6),pg (((decide (((R2.length:Nat):Int)=0)) == false)&&((decide (0<((R1.length:Nat):Int))) == true)) (.pointer (some ⟨bkS (.slice a6 R1.length cb6),ofS (.slice a6 R1.length cb6)+(0:Int).toNat*2,none⟩)),pg (((decide (((R2.length:Nat):Int)=0)) == false)&&((decide (0<((R1.length:Nat):Int))) == true)) (.pointer (some ⟨bkS (.slice a6 R1.length cb6),ofS (.slice a6 R1.length cb6)+(0:Int).toNat*2+0,none⟩)),pg (((decide (((R2.length:Nat):Int)=0)) == false)&&((decide (0<((R1.length:Nat):Int))) == true)) (I7 ((gd R1 0).item)),pg (((decide (((R2.length:Nat):Int)=0)) == false)&&((decide (0<((R1.length:Nat):Int))) == true)) (.slice a7 R2.length cb7),pg (((decide (((R2.length:Nat):Int)=0)) == false)&&((decide (0<((R1.length:Nat):Int))) == true)) (.pointer (some ⟨bkS (.slice a7 R2.length cb7),ofS (.slice a7 R2.length cb7)+(0:Int).toNat*2,none⟩)),pg (((decide (((R2.length:Nat):Int)=0)) == false)&&((decide (0<((R1.length:Nat):Int))) == true)) (.pointer (some ⟨bkS (.slice a7 R2.length cb7),ofS (.slice a7 R2.length cb7)+(0:Int).toNat*2+0,none⟩)),pg (((decide (((R2.length:Nat):Int)=0)) == false)&&((decide (0<((R1.length:Nat):Int))) == true)) (I7 ((gd R2 0).item)),pg (((decide (((R2.length:Nat):Int)=0)) == false)&&((decide (0<((R1.length:Nat):Int))) == true)) (.bool (decide ((gd R1 0).item<(gd R2 0).item))),pg ((decide (((R2.length:Nat):Int)=0)) == false) (.bool ((decide (0<((R1.length:Nat):Int)))&&(decide ((gd R1 0).item<(gd R2 0).item)))),pv (.bool ((decide (((R2.length:Nat):Int)=0))||((decide (0<((R1.length:Nat):Int)))&&(decide ((gd R1 0).item<(gd R2 0).item))))),pv (.bool ((decide (((R2.length:Nat):Int)=0))||((decide (0<((R1.length:Nat):Int)))&&(decide ((gd R1 0).item<(gd R2 0).item)))))] (fun _ _=>_) [19] (by kernel_rfl) hs ⟨?_,?_,?_,?_,?_,?_,?_,?_,?_,?_,?_,?_,?_,?_,?_,?_,?_,?_,?_,?_,trivial⟩ ?_))))
  ·exact oa [] fun D J w hs=>Qac (V:=.slice a7 R2.length cb7) rfl (Zz hs)
  ·exact oa [0] fun D J w hs=>Qa4 (n:=R2.length) QdD (hv7 _ _ hs) (by simp) rfl (Zz hs)
  ·exact oa [1] fun D J w hs=>QaS rfl rfl (Zz hs)
  ·exact oa [2] fun D J w hs=>Qac (V:=.bool (decide (((R2.length:Nat):Int)=0))) rfl (Zz hs)
  ·exact og [3] fun D J w hG hs=>Qac (V:=.slice a6 R1.length cb6) rfl (Zz hs)
  ·exact oy [3,4] [4] fun D J w hG hs=>Qa4 (n:=R1.length) QdD (hv6 _ _ hs) (by simp) rfl (Zz hs)
  ·exact oy [3,5] [5] fun D J w hG hs=>QbP rfl rfl (Zz hs)
  ·exact oy [3,6] [6] fun D J w hG hs=>Qac (V:=.bool (decide (0<((R1.length:Nat):Int)))) rfl (Zz hs)
  ·exact og [7] fun D J w hG hs=>Qac (V:=.slice a6 R1.length cb6) rfl (Zz hs)
  ·refine oy [7,8] [8] fun D J w hG hs=>?_
   have hgd0:=QQ2 (eq_of_beq (QbA (hG)))
   have hgd1:=QQ1 (eq_of_beq (QbC (hG)))
   exact Qax QdD QcC.1 (hv6 _ _ hs) rfl rfl (by decide) (by rw [QQ6];omega) (Zz hs)
  ·exact oy [7,9] [9] fun D J w hG hs=>Qae QdM rfl (Zz hs)
  ·refine oy [7,10] [10] fun D J w hG hs=>?_
   have hgd0:=QQ2 (eq_of_beq (QbA (hG)))
   have hgd1:=QQ1 (eq_of_beq (QbC (hG)))
   exact QaP (j:=0) (V:=.int .u16 ((gd R1 0).item)) 0 Qas (hv6 _ _ hs) (QaW (by omega)) rfl rfl (by omega) (Zz hs)
  ·exact og [7] fun D J w hG hs=>Qac (V:=.slice a7 R2.length cb7) rfl (Zz hs)
  ·refine oy [7,12] [12] fun D J w hG hs=>?_
   have hgd0:=QQ2 (eq_of_beq (QbA (hG)))
   have hgd1:=QQ1 (eq_of_beq (QbC (hG)))
   exact Qax QdD QcC.1 (hv7 _ _ hs) rfl rfl (by decide) (by rw [QQ6];omega) (Zz hs)
  ·exact oy [7,13] [13] fun D J w hG hs=>Qae QdM rfl (Zz hs)
  ·refine oy [7,14] [14] fun D J w hG hs=>?_
   have hgd0:=QQ2 (eq_of_beq (QbA (hG)))
   have hgd1:=QQ1 (eq_of_beq (QbC (hG)))
   exact QaP (j:=0) (V:=.int .u16 ((gd R2 0).item)) 0 Qas (hv7 _ _ hs) (QaW (by omega)) rfl rfl (by omega) (Zz hs)
  ·exact oy [7,11,15] [11,15] fun D J w hG hs=>QaQ rfl rfl (Zz hs)
  ·exact oy [3,7,16] [7] fun D J w hG hs=>Qgk (h':=decide ((gd R1 0).item<(gd R2 0).item)) (G:=((decide (((R2.length:Nat):Int)=0)) == false)) hG rfl rfl rfl (Zz hs)
  ·exact oa [3,17] fun D J w hs=>QbZ (h':=(decide (0<((R1.length:Nat):Int)))&&(decide ((gd R1 0).item<(gd R2 0).item))) rfl rfl rfl (Zz hs)
  ·exact oa [18] fun D J w hs=>Qad (V:=.bool ((decide (((R2.length:Nat):Int)=0))||((decide (0<((R1.length:Nat):Int)))&&(decide ((gd R1 0).item<(gd R2 0).item))))) rfl (Zz hs)
  rintro J1 w12 J2 hJ hs
  replace hJ:J2=upd (mix (sq 44 19++[43]) J1 _) 43 (.bool ((decide (((R2.length:Nat):Int)=0))||((decide (0<((R1.length:Nat):Int)))&&(decide ((gd R1 0).item<(gd R2 0).item))))):=hJ
  subst hJ
  refine Qao (t:=(decide (((R2.length:Nat):Int)=0))||((decide (0<((R1.length:Nat):Int)))&&(decide ((gd R1 0).item<(gd R2 0).item)))) rfl (fun c13=>?_) (fun c13=>?_)
  ·
   refine Qah ?_
   have ⟨hn9,hz9⟩:=QuU c8 c13
   refine QaH HM [some 63,some 64,some 65,some 66,some 67,some 68,some 69,some 70,some 71,none,some 72,none] [] [0,1,3,7,0,16,48,112,15,271,1023,2047] [pv (.slice a6 R1.length cb6),pv (.pointer (some ⟨bkS (.slice a6 R1.length cb6),ofS (.slice a6 R1.length cb6)+(0:Int).toNat*2,none⟩)),pv (.pointer (some ⟨bkS (.slice a6 R1.length cb6),ofS (.slice a6 R1.length cb6)+(0:Int).toNat*2+0,none⟩)),pv (I7 ((gd R1 0).item)),pv (.slice a6 R1.length cb6),pv (.pointer (some ⟨bkS (.slice a6 R1.length cb6),ofS (.slice a6 R1.length cb6)+(0:Int).toNat*2,none⟩)),pv (.pointer (some ⟨bkS (.slice a6 R1.length cb6),ofS (.slice a6 R1.length cb6)+(0:Int).toNat*2+1,none⟩)),pv (.int .u32 ((gd R1 0).qty)),pv (Pq b9 (0+1)),pn,pv (Pq b9 (0+3)),pn] (fun D J=>[Qer 60 83 b out,blk b1 [I7 va,.slice aa la.length ca,.bool ao,.int .u32 at_] 49,blk b3 [I7 vb,.slice ab lb.length cb,.bool bo,.int .u32 bt] 49,cond (D 11) (blk b9 (dfc (⟨vb,(gd R1 0).item,false,(gd R1 0).qty,0⟩:Dif)) 83) (cond (D 9) (blk b9 (dfc (⟨vb,(gd R1 0).item,false,0,0⟩:Dif)) 83) (blk b9 (dfc (⟨vb,0,false,0,0⟩:Dif)) 83))]) [] (by kernel_rfl) hs ⟨?_,?_,?_,?_,?_,?_,?_,?_,?_,?_,?_,?_,trivial⟩ ?_
   ·exact oa [] fun D J w hs=>Qac (V:=.slice a6 R1.length cb6) rfl (Zz hs)
   ·exact oa [0] fun D J w hs=>Qax QdD QcC.1 (hv6 _ _ hs) rfl rfl (by decide) (by rw [QQ6];omega) (Zz hs)
   ·exact oa [1] fun D J w hs=>Qae QdM rfl (Zz hs)
   ·exact oa [2] fun D J w hs=>QaP (j:=0) (V:=.int .u16 ((gd R1 0).item)) 0 Qas (hv6 _ _ hs) (QaW (by omega)) rfl rfl (by omega) (Zz hs)
   ·exact oa [] fun D J w hs=>Qac (V:=.slice a6 R1.length cb6) rfl (Zz hs)
   ·exact oa [4] fun D J w hs=>Qax QdD QcC.1 (hv6 _ _ hs) rfl rfl (by decide) (by rw [QQ6];omega) (Zz hs)
   ·exact oa [5] fun D J w hs=>Qae QfO rfl (Zz hs)
   ·exact oa [6] fun D J w hs=>QaP (j:=1) (V:=.int .u32 ((gd R1 0).qty)) 0 QaY (hv6 _ _ hs) (QaW (by omega)) rfl rfl (by omega) (Zz hs)
   ·exact oa [] fun D J w hs=>Qae Qi9 rfl (Zz hs)
   ·exact ob [3,8] [11] rfl rfl fun D J w hs=>Qc2 (V:=I7 ((gd R1 0).item)) (cs':=dfc (⟨vb,(gd R1 0).item,false,0,0⟩:Dif)) Qas hs 3 rfl rfl rfl rfl (QQ8 rfl) rfl fun _ hs=>⟨trivial,hs⟩
   ·exact oa [] fun D J w hs=>Qae QfV rfl (Zz hs)
   ·exact oa [7,9,10] fun D J w hs=>Qc2 (V:=.int .u32 ((gd R1 0).qty)) (cs':=dfc (⟨vb,(gd R1 0).item,false,(gd R1 0).qty,0⟩:Dif)) QaY hs 3 rfl rfl rfl rfl (QQ8 rfl) rfl fun _ hs=>⟨trivial,hs⟩
   rintro J1 w16 J2 hJ hs
   replace hJ:J2=mix (sq 63 10) J1 _:=hJ
   replace hs:Own w S w16 [Qer 60 83 b out,blk b1 [I7 va,.slice aa la.length ca,.bool ao,.int .u32 at_] 49,blk b3 [I7 vb,.slice ab lb.length cb,.bool bo,.int .u32 bt] 49,blk b9 (dfc (⟨vb,(gd R1 0).item,false,(gd R1 0).qty,0⟩:Dif)) 83]:=hs
   subst hJ
   refine Qab (Qaa (Qac (V:=.slice a6 R1.length cb6) rfl (Qaa (Qp1 (l:=1) (h:=R1.length) (m:=cb6) (n':=(R1.drop 1).length) QjP QcC.1 (hv6 _ _ hs) rfl (.inr ⟨_,_,rfl,rfl⟩) (.inl ⟨rfl,rfl⟩) (.inl ⟨rfl,rfl⟩) (by omega) (by omega) (Nat.le_trans (show R1.length<=R1.length by omega) (Rd.roomM (hv6 _ _ hs))) (Nat.le_refl _) (by simp only [List.length_take,List.length_drop]<;>omega) ?_))))
   refine Qaa (Qad (V:=.slice (sla a6 1 cb6 2) ((R1.drop 1).length) (cb6-1)) rfl (Qaf (Qah (Qab (Qaa (Qae QfV rfl (Qaa (QaE (V:=.int .u32 ((gd R1 0).qty)) QaY hs 3 rfl rfl rfl (Qaa (Qae Qgr rfl (Qaa (QaE (V:=.int .u32 0) QaY hs 3 rfl rfl rfl (Qaa (Qch rfl rfl (Qaf (Qao (t:=!decide ((gd R1 0).qty=0)) rfl (fun c17=>?_) (fun c17=>?_)))))))))))))))))
   ·
    replace c17:=Qbp c17
    replace c17:=QQ2 c17
    refine Qab (Qaa (Qac (V:=.func (.func 65) #[] #[Pq b 0]) rfl (Qaa (QaJ (cs:=dfc (⟨vb,(gd R1 0).item,false,(gd R1 0).qty,0⟩:Dif)) QiU hs 3 rfl rfl rfl (Qaa (QnD (α:=Unit) (vs:=[.agg (dfc (⟨vb,(gd R1 0).item,false,(gd R1 0).qty,0⟩:Dif)).toArray]) (cs:=[Pq b 0]) (V:=fun _=>.tuple #[]) (R:=Qer 60 83 b out) (R':=fun _=>Qer 60 83 b (out++[(⟨vb,(gd R1 0).item,false,(gd R1 0).qty,0⟩:Dif)])) (Lo:=fun _=>[]) (F:=fun _ _=>True) QnJ rfl rfl hs 0 rfl (fun S hS hlS=>QfL _ S b out (⟨vb,(gd R1 0).item,false,(gd R1 0).qty,0⟩:Dif) hS hlS (by omega)) fun _ w18 hs _=>(Qaf ?_)))))))
    have hd9:=Qmh hra hrb hdi (by omega) (QfI hrr.2 hz9)
    refine ⟨_,?_,_,R1.drop 1,R2,I++[(gd R1 0).item],(out++[(⟨vb,(gd R1 0).item,false,(gd R1 0).qty,0⟩:Dif)]),(sla a6 1 cb6 2),cb6-1,a7,cb7,Qai (Qai (Qap (ds:=([6,7,8]++sq 13 97)) (by repeat (first|exact Agr.refl _ _|refine Agr.upd ?_ rfl|refine Agr.mix ?_ rfl))) rfl) rfl,hd9.1,(Qhz hout hd9.2.1 hd9.2.2 c17),(fun w1 L1 h=>Rd.dropM (hv6 w1 L1 h) 1 (by omega) _ (by rw [List.length_drop])),hv7,(by simp only [List.length_drop];omega),(by simp only [QQ7,List.length_singleton,List.length_drop];omega),rfl,hs.take 3⟩
    (simp only [List.length_drop];omega)
   replace c17:=Qbf c17
   replace c17:=QQ1 c17
   refine Qaq ?_
   have hd9:=Qmh hra hrb hdi (by omega) (QfI hrr.2 hz9)
   refine ⟨_,?_,_,R1.drop 1,R2,I++[(gd R1 0).item],out,(sla a6 1 cb6 2),cb6-1,a7,cb7,Qai (Qai (Qap (ds:=([6,7,8]++sq 13 97)) (by repeat (first|exact Agr.refl _ _|refine Agr.upd ?_ rfl|refine Agr.mix ?_ rfl))) rfl) rfl,hd9.1,(QmG hout hd9.2.1 hd9.2.2 c17),(fun w1 L1 h=>Rd.dropM (hv6 w1 L1 h) 1 (by omega) _ (by rw [List.length_drop])),hv7,(by simp only [List.length_drop];omega),(by simp only [List.length_drop];omega),rfl,hs.take 3⟩
   (simp only [List.length_drop];omega)
  have c13r:=Qfe c13
  replace c13:=Qfk c13
  replace c13:=QQ2 c13
  refine Qah ?_
  have hn9:0<R2.length:=by omega
  refine QaH HM [some 76,some 77,some 78,some 79,some 80,some 81,some 82,some 83,some 84,some 85,some 86,some 87,some 88,some 89,some 75] [] [0,1,3,7,15,31,63,127,15,271,783,1807,4095,8191,16383] [pv (.slice a6 R1.length cb6),pv (I6 ((R1.length:Nat):Int)),pv (.bool (decide (((R1.length:Nat):Int)=0))),pv (.bool (decide (((R1.length:Nat):Int)=0))),pg ((decide (((R1.length:Nat):Int)=0)) == false) (.slice a7 R2.length cb7),pg ((decide (((R1.length:Nat):Int)=0)) == false) (.pointer (some ⟨bkS (.slice a7 R2.length cb7),ofS (.slice a7 R2.length cb7)+(0:Int).toNat*2,none⟩)),pg ((decide (((R1.length:Nat):Int)=0)) == false) (.pointer (some ⟨bkS (.slice a7 R2.length cb7),ofS (.slice a7 R2.length cb7)+(0:Int).toNat*2+0,none⟩)),pg ((decide (((R1.length:Nat):Int)=0)) == false) (I7 ((gd R2 0).item)),pg ((decide (((R1.length:Nat):Int)=0)) == false) (.slice a6 R1.length cb6),pg ((decide (((R1.length:Nat):Int)=0)) == false) (.pointer (some ⟨bkS (.slice a6 R1.length cb6),ofS (.slice a6 R1.length cb6)+(0:Int).toNat*2,none⟩)),pg ((decide (((R1.length:Nat):Int)=0)) == false) (.pointer (some ⟨bkS (.slice a6 R1.length cb6),ofS (.slice a6 R1.length cb6)+(0:Int).toNat*2+0,none⟩)),pg ((decide (((R1.length:Nat):Int)=0)) == false) (I7 ((gd R1 0).item)),pg ((decide (((R1.length:Nat):Int)=0)) == false) (.bool (decide ((gd R2 0).item<(gd R1 0).item))),pv (.bool ((decide (((R1.length:Nat):Int)=0))||(decide ((gd R2 0).item<(gd R1 0).item)))),pv (.bool ((decide (((R1.length:Nat):Int)=0))||(decide ((gd R2 0).item<(gd R1 0).item))))] (fun _ _=>_) [14] (by kernel_rfl) hs ⟨?_,?_,?_,?_,?_,?_,?_,?_,?_,?_,?_,?_,?_,?_,?_,trivial⟩ ?_
  ·exact oa [] fun D J w hs=>Qac (V:=.slice a6 R1.length cb6) rfl (Zz hs)
  ·exact oa [0] fun D J w hs=>Qa4 (n:=R1.length) QdD (hv6 _ _ hs) (by simp) rfl (Zz hs)
  ·exact oa [1] fun D J w hs=>QaS rfl rfl (Zz hs)
  ·exact oa [2] fun D J w hs=>Qac (V:=.bool (decide (((R1.length:Nat):Int)=0))) rfl (Zz hs)
  ·exact og [3] fun D J w hG hs=>Qac (V:=.slice a7 R2.length cb7) rfl (Zz hs)
  ·refine oy [3,4] [4] fun D J w hG hs=>?_
   have hgd:=QQ2 (eq_of_beq (hG))
   exact Qax QdD QcC.1 (hv7 _ _ hs) rfl rfl (by decide) (by rw [QQ6];omega) (Zz hs)
  ·exact oy [3,5] [5] fun D J w hG hs=>Qae QdM rfl (Zz hs)
  ·refine oy [3,6] [6] fun D J w hG hs=>?_
   have hgd:=QQ2 (eq_of_beq (hG))
   exact QaP (j:=0) (V:=.int .u16 ((gd R2 0).item)) 0 Qas (hv7 _ _ hs) (QaW (by omega)) rfl rfl (by omega) (Zz hs)
  ·exact og [3] fun D J w hG hs=>Qac (V:=.slice a6 R1.length cb6) rfl (Zz hs)
  ·refine oy [3,8] [8] fun D J w hG hs=>?_
   have hgd:=QQ2 (eq_of_beq (hG))
   exact Qax QdD QcC.1 (hv6 _ _ hs) rfl rfl (by decide) (by rw [QQ6];omega) (Zz hs)
  ·exact oy [3,9] [9] fun D J w hG hs=>Qae QdM rfl (Zz hs)
  ·refine oy [3,10] [10] fun D J w hG hs=>?_
   have hgd:=QQ2 (eq_of_beq (hG))
   exact QaP (j:=0) (V:=.int .u16 ((gd R1 0).item)) 0 Qas (hv6 _ _ hs) (QaW (by omega)) rfl rfl (by omega) (Zz hs)
  ·exact oy [3,7,11] [7,11] fun D J w hG hs=>QaQ rfl rfl (Zz hs)
  ·exact oa [3,12] fun D J w hs=>QbZ (h':=decide ((gd R2 0).item<(gd R1 0).item)) rfl rfl rfl (Zz hs)
  ·exact oa [13] fun D J w hs=>Qad (V:=.bool ((decide (((R1.length:Nat):Int)=0))||(decide ((gd R2 0).item<(gd R1 0).item)))) rfl (Zz hs)
  rintro J1 w19 J2 hJ hs
  replace hJ:J2=upd (mix (sq 76 14++[75]) J1 _) 75 (.bool ((decide (((R1.length:Nat):Int)=0))||(decide ((gd R2 0).item<(gd R1 0).item)))):=hJ
  subst hJ
  refine Qao (t:=(decide (((R1.length:Nat):Int)=0))||(decide ((gd R2 0).item<(gd R1 0).item))) rfl (fun c20=>?_) (fun c20=>?_)
  ·
   refine Qah ?_
   have hz9:=QuI hn9 c20
   refine QaH HM [some 90,some 91,some 92,some 93,some 94,some 95,some 96,some 97,some 98,none,some 99,none] [] [0,1,3,7,0,16,48,112,15,271,1023,2047] [pv (.slice a7 R2.length cb7),pv (.pointer (some ⟨bkS (.slice a7 R2.length cb7),ofS (.slice a7 R2.length cb7)+(0:Int).toNat*2,none⟩)),pv (.pointer (some ⟨bkS (.slice a7 R2.length cb7),ofS (.slice a7 R2.length cb7)+(0:Int).toNat*2+0,none⟩)),pv (I7 ((gd R2 0).item)),pv (.slice a7 R2.length cb7),pv (.pointer (some ⟨bkS (.slice a7 R2.length cb7),ofS (.slice a7 R2.length cb7)+(0:Int).toNat*2,none⟩)),pv (.pointer (some ⟨bkS (.slice a7 R2.length cb7),ofS (.slice a7 R2.length cb7)+(0:Int).toNat*2+1,none⟩)),pv (.int .u32 ((gd R2 0).qty)),pv (Pq b9 (0+1)),pn,pv (Pq b9 (0+4)),pn] (fun D J=>[Qer 60 83 b out,blk b1 [I7 va,.slice aa la.length ca,.bool ao,.int .u32 at_] 49,blk b3 [I7 vb,.slice ab lb.length cb,.bool bo,.int .u32 bt] 49,cond (D 11) (blk b9 (dfc (⟨vb,(gd R2 0).item,false,0,(gd R2 0).qty⟩:Dif)) 83) (cond (D 9) (blk b9 (dfc (⟨vb,(gd R2 0).item,false,0,0⟩:Dif)) 83) (blk b9 (dfc (⟨vb,0,false,0,0⟩:Dif)) 83))]) [] (by kernel_rfl) hs ⟨?_,?_,?_,?_,?_,?_,?_,?_,?_,?_,?_,?_,trivial⟩ ?_
   ·exact oa [] fun D J w hs=>Qac (V:=.slice a7 R2.length cb7) rfl (Zz hs)
   ·exact oa [0] fun D J w hs=>Qax QdD QcC.1 (hv7 _ _ hs) rfl rfl (by decide) (by rw [QQ6];omega) (Zz hs)
   ·exact oa [1] fun D J w hs=>Qae QdM rfl (Zz hs)
   ·exact oa [2] fun D J w hs=>QaP (j:=0) (V:=.int .u16 ((gd R2 0).item)) 0 Qas (hv7 _ _ hs) (QaW (by omega)) rfl rfl (by omega) (Zz hs)
   ·exact oa [] fun D J w hs=>Qac (V:=.slice a7 R2.length cb7) rfl (Zz hs)
   ·exact oa [4] fun D J w hs=>Qax QdD QcC.1 (hv7 _ _ hs) rfl rfl (by decide) (by rw [QQ6];omega) (Zz hs)
   ·exact oa [5] fun D J w hs=>Qae QfO rfl (Zz hs)
   ·exact oa [6] fun D J w hs=>QaP (j:=1) (V:=.int .u32 ((gd R2 0).qty)) 0 QaY (hv7 _ _ hs) (QaW (by omega)) rfl rfl (by omega) (Zz hs)
   ·exact oa [] fun D J w hs=>Qae Qi9 rfl (Zz hs)
   ·exact ob [3,8] [11] rfl rfl fun D J w hs=>Qc2 (V:=I7 ((gd R2 0).item)) (cs':=dfc (⟨vb,(gd R2 0).item,false,0,0⟩:Dif)) Qas hs 3 rfl rfl rfl rfl (QQ8 rfl) rfl fun _ hs=>⟨trivial,hs⟩
   ·exact oa [] fun D J w hs=>Qae Qgr rfl (Zz hs)
   ·exact oa [7,9,10] fun D J w hs=>Qc2 (V:=.int .u32 ((gd R2 0).qty)) (cs':=dfc (⟨vb,(gd R2 0).item,false,0,(gd R2 0).qty⟩:Dif)) QaY hs 3 rfl rfl rfl rfl (QQ8 rfl) rfl fun _ hs=>⟨trivial,hs⟩
   rintro J1 w23 J2 hJ hs
   replace hJ:J2=mix (sq 90 10) J1 _:=hJ
   replace hs:Own w S w23 [Qer 60 83 b out,blk b1 [I7 va,.slice aa la.length ca,.bool ao,.int .u32 at_] 49,blk b3 [I7 vb,.slice ab lb.length cb,.bool bo,.int .u32 bt] 49,blk b9 (dfc (⟨vb,(gd R2 0).item,false,0,(gd R2 0).qty⟩:Dif)) 83]:=hs
   subst hJ
   refine Qab (Qaa (Qac (V:=.slice a7 R2.length cb7) rfl (Qaa (Qp1 (l:=1) (h:=R2.length) (m:=cb7) (n':=(R2.drop 1).length) QjP QcC.1 (hv7 _ _ hs) rfl (.inr ⟨_,_,rfl,rfl⟩) (.inl ⟨rfl,rfl⟩) (.inl ⟨rfl,rfl⟩) (by omega) (by omega) (Nat.le_trans (show R2.length<=R2.length by omega) (Rd.roomM (hv7 _ _ hs))) (Nat.le_refl _) (by simp only [List.length_take,List.length_drop]<;>omega) ?_))))
   refine Qaa (Qad (V:=.slice (sla a7 1 cb7 2) ((R2.drop 1).length) (cb7-1)) rfl (Qaf (Qah (Qab (Qaa (Qae QfV rfl (Qaa (QaE (V:=.int .u32 0) QaY hs 3 rfl rfl rfl (Qaa (Qae Qgr rfl (Qaa (QaE (V:=.int .u32 ((gd R2 0).qty)) QaY hs 3 rfl rfl rfl (Qaa (Qch rfl rfl (Qaf (Qao (t:=!decide (0=(gd R2 0).qty)) rfl (fun c24=>?_) (fun c24=>?_)))))))))))))))))
   ·
    replace c24:=Qbp c24
    replace c24:=QQ2 c24
    refine Qab (Qaa (Qac (V:=.func (.func 65) #[] #[Pq b 0]) rfl (Qaa (QaJ (cs:=dfc (⟨vb,(gd R2 0).item,false,0,(gd R2 0).qty⟩:Dif)) QiU hs 3 rfl rfl rfl (Qaa (QnD (α:=Unit) (vs:=[.agg (dfc (⟨vb,(gd R2 0).item,false,0,(gd R2 0).qty⟩:Dif)).toArray]) (cs:=[Pq b 0]) (V:=fun _=>.tuple #[]) (R:=Qer 60 83 b out) (R':=fun _=>Qer 60 83 b (out++[(⟨vb,(gd R2 0).item,false,0,(gd R2 0).qty⟩:Dif)])) (Lo:=fun _=>[]) (F:=fun _ _=>True) QnJ rfl rfl hs 0 rfl (fun S hS hlS=>QfL _ S b out (⟨vb,(gd R2 0).item,false,0,(gd R2 0).qty⟩:Dif) hS hlS (by omega)) fun _ w25 hs _=>(Qaf ?_)))))))
    have hd9:=QpF hra hrb hdi (by omega) (QfI hrr.1 hz9)
    refine ⟨_,?_,_,R1,R2.drop 1,I++[(gd R2 0).item],(out++[(⟨vb,(gd R2 0).item,false,0,(gd R2 0).qty⟩:Dif)]),a6,cb6,(sla a7 1 cb7 2),cb7-1,Qai (Qai (Qap (ds:=([6,7,8]++sq 13 97)) (by repeat (first|exact Agr.refl _ _|refine Agr.upd ?_ rfl|refine Agr.mix ?_ rfl))) rfl) rfl,hd9.1,(Qhz hout hd9.2.1 hd9.2.2 c24),hv6,(fun w1 L1 h=>Rd.dropM (hv7 w1 L1 h) 1 (by omega) _ (by rw [List.length_drop])),(by simp only [List.length_drop];omega),(by simp only [QQ7,List.length_singleton,List.length_drop];omega),rfl,hs.take 3⟩
    (simp only [List.length_drop];omega)
   replace c24:=Qbf c24
   replace c24:=QQ1 c24
   refine Qaq ?_
   have hd9:=QpF hra hrb hdi (by omega) (QfI hrr.1 hz9)
   refine ⟨_,?_,_,R1,R2.drop 1,I++[(gd R2 0).item],out,a6,cb6,(sla a7 1 cb7 2),cb7-1,Qai (Qai (Qap (ds:=([6,7,8]++sq 13 97)) (by repeat (first|exact Agr.refl _ _|refine Agr.upd ?_ rfl|refine Agr.mix ?_ rfl))) rfl) rfl,hd9.1,(QmG hout hd9.2.1 hd9.2.2 c24),hv6,(fun w1 L1 h=>Rd.dropM (hv7 w1 L1 h) 1 (by omega) _ (by rw [List.length_drop])),(by simp only [List.length_drop];omega),(by simp only [List.length_drop];omega),rfl,hs.take 3⟩
   (simp only [List.length_drop];omega)
  have c20r:=Qfe c20
  replace c20:=Qfk c20
  replace c20:=QQ2 c20
  replace c20r:=QQ2 c20r
  refine Qah ?_
  have hz9:=Qvb c13r (by omega) (by omega)
  refine QaH HM [some 24,some 25,some 26,some 27,some 28,some 29,some 30,some 31,some 32,some 33,some 34,some 35,some 36,none,some 37,none,some 38,none] [] [0,1,3,7,0,16,48,112,0,256,768,1792,15,4111,12543,28927,65535,131071] [pv (.slice a6 R1.length cb6),pv (.pointer (some ⟨bkS (.slice a6 R1.length cb6),ofS (.slice a6 R1.length cb6)+(0:Int).toNat*2,none⟩)),pv (.pointer (some ⟨bkS (.slice a6 R1.length cb6),ofS (.slice a6 R1.length cb6)+(0:Int).toNat*2+0,none⟩)),pv (I7 ((gd R1 0).item)),pv (.slice a6 R1.length cb6),pv (.pointer (some ⟨bkS (.slice a6 R1.length cb6),ofS (.slice a6 R1.length cb6)+(0:Int).toNat*2,none⟩)),pv (.pointer (some ⟨bkS (.slice a6 R1.length cb6),ofS (.slice a6 R1.length cb6)+(0:Int).toNat*2+1,none⟩)),pv (.int .u32 ((gd R1 0).qty)),pv (.slice a7 R2.length cb7),pv (.pointer (some ⟨bkS (.slice a7 R2.length cb7),ofS (.slice a7 R2.length cb7)+(0:Int).toNat*2,none⟩)),pv (.pointer (some ⟨bkS (.slice a7 R2.length cb7),ofS (.slice a7 R2.length cb7)+(0:Int).toNat*2+1,none⟩)),pv (.int .u32 ((gd R2 0).qty)),pv (Pq b9 (0+1)),pn,pv (Pq b9 (0+3)),pn,pv (Pq b9 (0+4)),pn] (fun D J=>[Qer 60 83 b out,blk b1 [I7 va,.slice aa la.length ca,.bool ao,.int .u32 at_] 49,blk b3 [I7 vb,.slice ab lb.length cb,.bool bo,.int .u32 bt] 49,cond (D 17) (blk b9 (dfc (⟨vb,(gd R1 0).item,false,(gd R1 0).qty,(gd R2 0).qty⟩:Dif)) 83) (cond (D 15) (blk b9 (dfc (⟨vb,(gd R1 0).item,false,(gd R1 0).qty,0⟩:Dif)) 83) (cond (D 13) (blk b9 (dfc (⟨vb,(gd R1 0).item,false,0,0⟩:Dif)) 83) (blk b9 (dfc (⟨vb,0,false,0,0⟩:Dif)) 83)))]) [] (by kernel_rfl) hs ⟨?_,?_,?_,?_,?_,?_,?_,?_,?_,?_,?_,?_,?_,?_,?_,?_,?_,?_,trivial⟩ ?_
  ·exact oa [] fun D J w hs=>Qac (V:=.slice a6 R1.length cb6) rfl (Zz hs)
  ·exact oa [0] fun D J w hs=>Qax QdD QcC.1 (hv6 _ _ hs) rfl rfl (by decide) (by rw [QQ6];omega) (Zz hs)
  ·exact oa [1] fun D J w hs=>Qae QdM rfl (Zz hs)
  ·exact oa [2] fun D J w hs=>QaP (j:=0) (V:=.int .u16 ((gd R1 0).item)) 0 Qas (hv6 _ _ hs) (QaW (by omega)) rfl rfl (by omega) (Zz hs)
  ·exact oa [] fun D J w hs=>Qac (V:=.slice a6 R1.length cb6) rfl (Zz hs)
  ·exact oa [4] fun D J w hs=>Qax QdD QcC.1 (hv6 _ _ hs) rfl rfl (by decide) (by rw [QQ6];omega) (Zz hs)
  ·exact oa [5] fun D J w hs=>Qae QfO rfl (Zz hs)
  ·exact oa [6] fun D J w hs=>QaP (j:=1) (V:=.int .u32 ((gd R1 0).qty)) 0 QaY (hv6 _ _ hs) (QaW (by omega)) rfl rfl (by omega) (Zz hs)
  ·exact oa [] fun D J w hs=>Qac (V:=.slice a7 R2.length cb7) rfl (Zz hs)
  ·exact oa [8] fun D J w hs=>Qax QdD QcC.1 (hv7 _ _ hs) rfl rfl (by decide) (by rw [QQ6];omega) (Zz hs)
  ·exact oa [9] fun D J w hs=>Qae QfO rfl (Zz hs)
  ·exact oa [10] fun D J w hs=>QaP (j:=1) (V:=.int .u32 ((gd R2 0).qty)) 0 QaY (hv7 _ _ hs) (QaW (by omega)) rfl rfl (by omega) (Zz hs)
  ·exact oa [] fun D J w hs=>Qae Qi9 rfl (Zz hs)
  ·exact ob [3,12] [15,17] rfl rfl fun D J w hs=>Qc2 (V:=I7 ((gd R1 0).item)) (cs':=dfc (⟨vb,(gd R1 0).item,false,0,0⟩:Dif)) Qas hs 3 rfl rfl rfl rfl (QQ8 rfl) rfl fun _ hs=>⟨trivial,hs⟩
  ·exact oa [] fun D J w hs=>Qae QfV rfl (Zz hs)
  ·exact ob [7,13,14] [17] rfl rfl fun D J w hs=>Qc2 (V:=.int .u32 ((gd R1 0).qty)) (cs':=dfc (⟨vb,(gd R1 0).item,false,(gd R1 0).qty,0⟩:Dif)) QaY hs 3 rfl rfl rfl rfl (QQ8 rfl) rfl fun _ hs=>⟨trivial,hs⟩
  ·exact oa [] fun D J w hs=>Qae Qgr rfl (Zz hs)
  ·exact oa [11,13,15,16] fun D J w hs=>Qc2 (V:=.int .u32 ((gd R2 0).qty)) (cs':=dfc (⟨vb,(gd R1 0).item,false,(gd R1 0).qty,(gd R2 0).qty⟩:Dif)) QaY hs 3 rfl rfl rfl rfl (QQ8 rfl) rfl fun _ hs=>⟨trivial,hs⟩
  rintro J1 w29 J2 hJ hs
  replace hJ:J2=mix (sq 24 15) J1 _:=hJ
  replace hs:Own w S w29 [Qer 60 83 b out,blk b1 [I7 va,.slice aa la.length ca,.bool ao,.int .u32 at_] 49,blk b3 [I7 vb,.slice ab lb.length cb,.bool bo,.int .u32 bt] 49,blk b9 (dfc (⟨vb,(gd R1 0).item,false,(gd R1 0).qty,(gd R2 0).qty⟩:Dif)) 83]:=hs
  subst hJ
  refine QaH HM [some 39,some 40,some 41,some 42,some 6,some 7] [] [0,1,0,4,3,31] [pv (.slice a6 R1.length cb6),pv (.slice (sla a6 1 cb6 2) ((R1.drop 1).length) (cb6-1)),pv (.slice a7 R2.length cb7),pv (.slice (sla a7 1 cb7 2) ((R2.drop 1).length) (cb7-1)),pv (.slice (sla a6 1 cb6 2) ((R1.drop 1).length) (cb6-1)),pv (.slice (sla a7 1 cb7 2) ((R2.drop 1).length) (cb7-1))] (fun _ _=>_) [5,4] (by kernel_rfl) hs ⟨?_,?_,?_,?_,?_,?_,trivial⟩ ?_
  ·exact ob [] [4] rfl rfl fun D J w hs=>Qac (V:=.slice a6 R1.length cb6) rfl (Zz hs)
  ·exact oa [0] fun D J w hs=>Qp1 (l:=1) (h:=R1.length) (m:=cb6) (n':=(R1.drop 1).length) QjP QcC.1 (hv6 _ _ hs) rfl (.inr ⟨_,_,rfl,rfl⟩) (.inl ⟨rfl,rfl⟩) (.inl ⟨rfl,rfl⟩) (by omega) (by omega) (Nat.le_trans (show R1.length<=R1.length by omega) (Rd.roomM (hv6 _ _ hs))) (Nat.le_refl _) (by simp only [List.length_take,List.length_drop]<;>omega) (Zz hs)
  ·exact ob [] [5] rfl rfl fun D J w hs=>Qac (V:=.slice a7 R2.length cb7) rfl (Zz hs)
  ·exact oa [2] fun D J w hs=>Qp1 (l:=1) (h:=R2.length) (m:=cb7) (n':=(R2.drop 1).length) QjP QcC.1 (hv7 _ _ hs) rfl (.inr ⟨_,_,rfl,rfl⟩) (.inl ⟨rfl,rfl⟩) (.inl ⟨rfl,rfl⟩) (by omega) (by omega) (Nat.le_trans (show R2.length<=R2.length by omega) (Rd.roomM (hv7 _ _ hs))) (Nat.le_refl _) (by simp only [List.length_take,List.length_drop]<;>omega) (Zz hs)
  ·exact oa [1] fun D J w hs=>Qad (V:=.slice (sla a6 1 cb6 2) ((R1.drop 1).length) (cb6-1)) rfl (Zz hs)
  ·exact oa [3] fun D J w hs=>Qad (V:=.slice (sla a7 1 cb7 2) ((R2.drop 1).length) (cb7-1)) rfl (Zz hs)
  rintro J1 w30 J2 hJ hs
  replace hJ:J2=upd (upd (mix [39,40,41,42,6,7] J1 _) 6 (.slice (sla a6 1 cb6 2) ((R1.drop 1).length) (cb6-1))) 7 (.slice (sla a7 1 cb7 2) ((R2.drop 1).length) (cb7-1)):=hJ
  subst hJ
  refine Qah (Qab (Qaa (Qae QfV rfl (Qaa (QaE (V:=.int .u32 ((gd R1 0).qty)) QaY hs 3 rfl rfl rfl (Qaa (Qae Qgr rfl (Qaa (QaE (V:=.int .u32 ((gd R2 0).qty)) QaY hs 3 rfl rfl rfl (Qaa (Qch rfl rfl (Qaf (Qao (t:=!decide ((gd R1 0).qty=(gd R2 0).qty)) rfl (fun c31=>?_) (fun c31=>?_))))))))))))))
  ·
   replace c31:=Qbp c31
   replace c31:=QQ2 c31
   refine Qab (Qaa (Qac (V:=.func (.func 65) #[] #[Pq b 0]) rfl (Qaa (QaJ (cs:=dfc (⟨vb,(gd R1 0).item,false,(gd R1 0).qty,(gd R2 0).qty⟩:Dif)) QiU hs 3 rfl rfl rfl (Qaa (QnD (α:=Unit) (vs:=[.agg (dfc (⟨vb,(gd R1 0).item,false,(gd R1 0).qty,(gd R2 0).qty⟩:Dif)).toArray]) (cs:=[Pq b 0]) (V:=fun _=>.tuple #[]) (R:=Qer 60 83 b out) (R':=fun _=>Qer 60 83 b (out++[(⟨vb,(gd R1 0).item,false,(gd R1 0).qty,(gd R2 0).qty⟩:Dif)])) (Lo:=fun _=>[]) (F:=fun _ _=>True) QnJ rfl rfl hs 0 rfl (fun S hS hlS=>QfL _ S b out (⟨vb,(gd R1 0).item,false,(gd R1 0).qty,(gd R2 0).qty⟩:Dif) hS hlS (by omega)) fun _ w32 hs _=>(Qaf ?_)))))))
   have hd9:=Qp8 hra hrb hdi (by omega) (by omega) hz9
   refine ⟨_,?_,_,R1.drop 1,R2.drop 1,I++[(gd R1 0).item],(out++[(⟨vb,(gd R1 0).item,false,(gd R1 0).qty,(gd R2 0).qty⟩:Dif)]),(sla a6 1 cb6 2),cb6-1,(sla a7 1 cb7 2),cb7-1,Qai (Qai (Qap (ds:=([6,7,8]++sq 13 97)) (by repeat (first|exact Agr.refl _ _|refine Agr.upd ?_ rfl|refine Agr.mix ?_ rfl))) rfl) rfl,hd9.1,(Qhz hout hd9.2.1 hd9.2.2 c31),(fun w1 L1 h=>Rd.dropM (hv6 w1 L1 h) 1 (by omega) _ (by rw [List.length_drop])),(fun w1 L1 h=>Rd.dropM (hv7 w1 L1 h) 1 (by omega) _ (by rw [List.length_drop])),(by simp only [List.length_drop];omega),(by simp only [QQ7,List.length_singleton,List.length_drop];omega),rfl,hs.take 3⟩
   (simp only [List.length_drop];omega)
  replace c31:=Qbf c31
  replace c31:=QQ1 c31
  refine Qaq ?_
  have hd9:=Qp8 hra hrb hdi (by omega) (by omega) hz9
  refine ⟨_,?_,_,R1.drop 1,R2.drop 1,I++[(gd R1 0).item],out,(sla a6 1 cb6 2),cb6-1,(sla a7 1 cb7 2),cb7-1,Qai (Qai (Qap (ds:=([6,7,8]++sq 13 97)) (by repeat (first|exact Agr.refl _ _|refine Agr.upd ?_ rfl|refine Agr.mix ?_ rfl))) rfl) rfl,hd9.1,(QmG hout hd9.2.1 hd9.2.2 c31),(fun w1 L1 h=>Rd.dropM (hv6 w1 L1 h) 1 (by omega) _ (by rw [List.length_drop])),(fun w1 L1 h=>Rd.dropM (hv7 w1 L1 h) 1 (by omega) _ (by rw [List.length_drop])),(by simp only [List.length_drop];omega),(by simp only [List.length_drop];omega),rfl,hs.take 3⟩
  (simp only [List.length_drop];omega)
 have c8r:=Qfe c8
 replace c8:=Qfk c8
 replace c8:=QQ2 c8
 replace c8r:=QQ2 c8r
 refine QaG (Qah (Qab (Qaa (Qae QdC rfl (Qaa (QaE (V:=.bool ao) Qpt hs 1 rfl rfl rfl (Qaa (Qae QdC rfl (Qaa (QaE (V:=.bool bo) Qpt hs 2 rfl rfl rfl (Qaa (QuM Qvh rfl rfl (Qaf (Qao (t:=!(ao == bo)) rfl (fun c33=>?_) (fun c33=>?_)))))))))))))))
 ·
  replace c33:=Qbp c33
  refine QaH HM [some 115,some 116,some 117,some 118,some 119,some 120,some 121,some 122,some 123,some 124,some 125] [] [0,0,2,0,8,24,0,64,248,510,1023] [pv (.func (.func 65) #[] #[Pq b 0]),pv (Pq b3 (0+0)),pv (I7 vb),pv (Pq b1 (0+2)),pv (.bool ao),pv (.int .u32 (QeN ao)),pv (Pq b3 (0+2)),pv (.bool bo),pv (.int .u32 (QeN bo)),pv (.agg (dfc (⟨vb,0,true,QeN ao,QeN bo⟩:Dif)).toArray),pv (.tuple #[])] (fun D J=>[cond (D 10) (Qer 60 83 b (out++[(⟨vb,0,true,QeN ao,QeN bo⟩:Dif)])) (Qer 60 83 b out),blk b1 [I7 va,.slice aa la.length ca,.bool ao,.int .u32 at_] 49,blk b3 [I7 vb,.slice ab lb.length cb,.bool bo,.int .u32 bt] 49]) [] (by kernel_rfl) hs ⟨?_,?_,?_,?_,?_,?_,?_,?_,?_,?_,?_,trivial⟩ ?_
  ·exact oa [] fun D J w hs=>Qac (V:=.func (.func 65) #[] #[.pointer (some ⟨b,0,none⟩)]) rfl (Zz hs)
  ·exact oa [] fun D J w hs=>Qae Qjt rfl (Zz hs)
  ·exact oa [1] fun D J w hs=>QaE (V:=.int .u16 vb) Qas hs 2 rfl rfl rfl (Zz hs)
  ·exact oa [] fun D J w hs=>Qae QdC rfl (Zz hs)
  ·exact oa [3] fun D J w hs=>QaE (V:=.bool ao) Qpt hs 1 rfl rfl rfl (Zz hs)
  ·exact oa [4] fun D J w hs=>Qat (vs:=[.bool ao]) (V:=.int .u32 (QeN ao)) QpY rfl rfl (QjV _ ao) hs fun _ hs=>Zz hs
  ·exact oa [] fun D J w hs=>Qae QdC rfl (Zz hs)
  ·exact oa [6] fun D J w hs=>QaE (V:=.bool bo) Qpt hs 2 rfl rfl rfl (Zz hs)
  ·exact oa [7] fun D J w hs=>Qat (vs:=[.bool bo]) (V:=.int .u32 (QeN bo)) QpY rfl rfl (QjV _ bo) hs fun _ hs=>Zz hs
  ·exact oa [2,5,8] fun D J w hs=>Qbx (vs:=[(0,.int .u16 vb),(2,.bool true),(3,.int .u32 (QeN ao)),(4,.int .u32 (QeN bo))]) (cs:=dfc (⟨vb,0,true,QeN ao,QeN bo⟩:Dif)) Qrc (rfl) rfl (Zz hs)
  ·exact oa [0,9] fun D J w hs=>QnD (α:=Unit) (vs:=[.agg (dfc (⟨vb,0,true,QeN ao,QeN bo⟩:Dif)).toArray]) (cs:=[.pointer (some ⟨b,0,none⟩)]) (V:=fun _=>.tuple #[]) (R:=Qer 60 83 b out) (R':=fun _=>Qer 60 83 b (out++[(⟨vb,0,true,QeN ao,QeN bo⟩:Dif)])) (Lo:=fun _=>[]) (F:=fun _ _=>True) QnJ rfl rfl hs 0 rfl (fun S hS hlS=>QfL _ S b out (⟨vb,0,true,QeN ao,QeN bo⟩:Dif) hS hlS (by omega)) fun _ _ hs _=>⟨rfl,hs⟩
  rintro J1 w37 J2 hJ hs
  replace hJ:J2=mix (sq 115 11) J1 _:=hJ
  replace hs:Own w S w37 [Qer 60 83 b (out++[(⟨vb,0,true,QeN ao,QeN bo⟩:Dif)]),blk b1 [I7 va,.slice aa la.length ca,.bool ao,.int .u32 at_] 49,blk b3 [I7 vb,.slice ab lb.length cb,.bool bo,.int .u32 bt] 49]:=hs
  subst hJ
  refine ⟨_,Qbn Tryz.results64,?_⟩
  have hof:=QjE hdi (by omega) (by omega) hout
  have hX:(out++[(⟨vb,0,true,QeN ao,QeN bo⟩:Dif)])=L++QeA (⟨va,la,ao,at_⟩:Vw) (⟨vb,lb,bo,bt⟩:Vw):=Qls hof (fun e=>by subst e;simp at c33)
  exact ⟨(),rfl,by rw [← hX];exact hs.only 0 rfl,trivial⟩
 replace c33:=Qbf c33
 refine Qaq ?_
 refine ⟨_,Qbn Tryz.results64,?_⟩
 have hof:=QjE hdi (by omega) (by omega) hout
 have hX:out=L++QeA (⟨va,la,ao,at_⟩:Vw) (⟨vb,lb,bo,bt⟩:Vw):=Qmb hof (eq_of_beq c33)
 exact ⟨(),rfl,by rw [← hX];exact hs.only 0 rfl,trivial⟩
end Tt
end Go.Proofs
namespace Go.Proofs
open Go Go.Vx Go.RowKit
namespace Tt
theorem Qof (w:World) (p:Pst) (a1:Option Addr) (c1:Nat) (a2:Option Addr) (c2:Nat) (a3:Option Addr) (c3:Nat) (a b:Vec) (ha:QbW a) (hb:QbW b) (hsortE:QgQ Tryz.prog 48 49 cec 106 7 Qj2) (hsortU:QgI Tryz.prog 134 .u16 32) (hok:QcW p) (hle:p.base.ents.length<=400) (hlt:p.base.ticks.length<=400) (hlo:p.ops.length<=400) (hr1:Rd w (.slice a1 p.base.ents.length c1) 7 (p.base.ents.map cec)) (hr2:Rd w (.slice a2 p.base.ticks.length c2) 2 (p.base.ticks.map lsc)) (hr3:Rd w (.slice a3 p.ops.length c3) 23 (p.ops.map oc)):Calls Tryz.prog 22 #[.agg (((vc p.base.known)++[(.slice a1 p.base.ents.length c1:Value),(.slice a2 p.base.ticks.length c2:Value) ])++[(.slice a3 p.ops.length c3:Value) ]++(vc p.known)).toArray,.agg (vc a).toArray,.agg (vc b).toArray] w (fun e w'=>∃ x:Option Addr × Nat,e = .returned (.tuple #[.slice x.1 (QcP p a b).length x.2,.int .i64 (Qc7 p a b)])/\Own w no w' [row (.slice x.1 (QcP p a b).length x.2) ((QcP p a b).map dfc) 83 5]/\True):=by
 refine Qaj (n:=55) Tryz.func22 rfl Tryz.ntmps22 rfl ?_
 have hs:=Own.start w
 have ⟨hokb,hoko,hokk⟩:=hok
 have hsa:=Qc1 p a
 have hsoa:=QdR (cut:=a) hok ha
 have hsb:=Qc1 p b
 have hsob:=QdR (cut:=b) hok hb
 refine Qah (Qab (Qaa (QaR (V:=.agg (((vc p.base.known)++[(.slice a1 p.base.ents.length c1:Value),(.slice a2 p.base.ticks.length c2:Value) ])++[(.slice a3 p.ops.length c3:Value) ]++(vc p.known)).toArray) (cs:=((vc p.base.known)++[(.slice a1 p.base.ents.length c1:Value),(.slice a2 p.base.ticks.length c2:Value) ])++[(.slice a3 p.ops.length c3:Value) ]++(vc p.known)) rfl rfl hs fun b1 w2 hs=>(Qaa (QaR (V:=.agg (vc a).toArray) (cs:=vc a) rfl rfl hs fun b3 w4 hs=>(Qaa (QaR (V:=.agg (vc b).toArray) (cs:=vc b) rfl rfl hs fun b5 w6 hs=>(Qaa (Qad (V:=.slice none 0 0) rfl (Qaa (Qad (V:=I6 0) rfl (Qaf (Qah (Qab (Qaa (QaJ (cs:=((vc p.base.known)++[(.slice a1 p.base.ents.length c1:Value),(.slice a2 p.base.ticks.length c2:Value) ])++[(.slice a3 p.ops.length c3:Value) ]++(vc p.known)) QeH hs 0 rfl rfl rfl (Qaa (QaJ (cs:=vc a) QbB hs 1 rfl rfl rfl (Qaa (Qbo (α:=(Option Addr × Nat) × (Option Addr × Nat)) (vs:=[.agg (((vc p.base.known)++[(.slice a1 p.base.ents.length c1:Value),(.slice a2 p.base.ticks.length c2:Value) ])++[(.slice a3 p.ops.length c3:Value) ]++(vc p.known)).toArray,.agg (vc a).toArray]) (V:=fun x:(Option Addr × Nat) × (Option Addr × Nat)=>.tuple #[.agg (vc (Qag p a).known++[(.slice x.1.1 ((Qag p a).ents).length x.1.2:Value),(.slice x.2.1 ((Qag p a).ticks).length x.2.2:Value)]).toArray,I6 (Qbc p a)]) (Lo:=fun x=>[row (.slice x.1.1 ((Qag p a).ents).length x.1.2) (((Qag p a).ents).map cec) 106 7,row (.slice x.2.1 ((Qag p a).ticks).length x.2.2) (((Qag p a).ticks).map lsc) 102 2]) (F:=fun _ _=>True) Qmp rfl rfl ?hc hs fun x8 w7 hs _=>?_))))))))))))))))))))
 case hc=>exact (Qd4 _ p a1 c1 a2 c2 a3 c3 a ha hsortE hsortU hok hle hlt hlo (Rd.own' hr1 hs) (Rd.own' hr2 hs) (Rd.own' hr3 hs))
 replace hs:Own w no w7 [blk b1 (((vc p.base.known)++[(.slice a1 p.base.ents.length c1:Value),(.slice a2 p.base.ticks.length c2:Value) ])++[(.slice a3 p.ops.length c3:Value) ]++(vc p.known)) 43,blk b3 (vc a) 24,blk b5 (vc b) 24,row (.slice x8.1.1 (((Qag p a).ents).length) x8.1.2) (((Qag p a).ents).map cec) 106 7,row (.slice x8.2.1 (((Qag p a).ticks).length) x8.2.2) (((Qag p a).ticks).map lsc) 102 2]:=hs
 refine Qaa (Qac (V:=.tuple #[.agg ((vc ((Qag p a).known))++[(.slice x8.1.1 (((Qag p a).ents).length) x8.1.2:Value),(.slice x8.2.1 (((Qag p a).ticks).length) x8.2.2:Value) ]).toArray,I6 (Qbc p a)]) rfl (Qaa (Qay (V:=.agg ((vc ((Qag p a).known))++[(.slice x8.1.1 (((Qag p a).ents).length) x8.1.2:Value),(.slice x8.2.1 (((Qag p a).ticks).length) x8.2.2:Value) ]).toArray) rfl rfl (Qaa (Qay (V:=I6 (Qbc p a)) rfl rfl (Qaa (QaM (cs:=(vc vzero)++[(.slice none 0 0:Value),(.slice none 0 0:Value) ]) QhF rfl hs fun b9 w10 hs=>(Qaa (QcH (V:=.agg ((vc ((Qag p a).known))++[(.slice x8.1.1 (((Qag p a).ents).length) x8.1.2:Value),(.slice x8.2.1 (((Qag p a).ticks).length) x8.2.2:Value) ]).toArray) (vs:=(vc ((Qag p a).known))++[(.slice x8.1.1 (((Qag p a).ents).length) x8.1.2:Value),(.slice x8.2.1 (((Qag p a).ticks).length) x8.2.2:Value) ]) (cs':=(vc ((Qag p a).known))++[(.slice x8.1.1 (((Qag p a).ents).length) x8.1.2:Value),(.slice x8.2.1 (((Qag p a).ticks).length) x8.2.2:Value) ]) QcD.1 hs 5 rfl rfl rfl rfl rfl (QQ8 rfl) (QbQ (Qcv _) (Qaw rfl (Qaw rfl Qbg))) (QaC rfl) fun w11 hs=>(Qaa (Qad (V:=I6 (Qbc p a)) rfl (Qaf (Qah (Qah (Qab (Qaa (Qac (V:=I6 (Qbc p a)) rfl (Qaa (Qch rfl rfl (Qaf (Qao (t:=!decide (Qbc p a=0)) rfl (fun c12=>?_) (fun c12=>?_))))))))))))))))))))))
 ·
  replace c12:=Qbp c12
  replace c12:=QQ2 c12
  refine Qah (Qab (Qaa (Qac (V:=I6 (Qbc p a)) rfl (Qaa (Qad (V:=.slice none 0 0) rfl (Qaa (Qad (V:=I6 (Qbc p a)) rfl (Qaf (Qav ?_)))))))))
  refine ⟨_,Qbq (U:=.slice none 0 0) (V:=I6 (Qbc p a)) Tryz.results22 rfl rfl,?_⟩
  have hX:Qc7 p a b=Qbc p a:=QqX c12
  rw [Qjq (by rw [hX];exact c12),hX]
  exact ⟨(none,0),rfl,(hs.take 0).more _ (Qbk _ _ _ _),trivial⟩
 replace c12:=Qbf c12
 replace c12:=QQ1 c12
 refine Qaq (Qah (Qab (Qaa (QaJ (cs:=((vc p.base.known)++[(.slice a1 p.base.ents.length c1:Value),(.slice a2 p.base.ticks.length c2:Value) ])++[(.slice a3 p.ops.length c3:Value) ]++(vc p.known)) QeH hs 0 rfl rfl rfl (Qaa (QaJ (cs:=vc b) QbB hs 2 rfl rfl rfl (Qaa (Qbo (α:=(Option Addr × Nat) × (Option Addr × Nat)) (vs:=[.agg (((vc p.base.known)++[(.slice a1 p.base.ents.length c1:Value),(.slice a2 p.base.ticks.length c2:Value) ])++[(.slice a3 p.ops.length c3:Value) ]++(vc p.known)).toArray,.agg (vc b).toArray]) (V:=fun x:(Option Addr × Nat) × (Option Addr × Nat)=>.tuple #[.agg (vc (Qag p b).known++[(.slice x.1.1 ((Qag p b).ents).length x.1.2:Value),(.slice x.2.1 ((Qag p b).ticks).length x.2.2:Value)]).toArray,I6 (Qbc p b)]) (Lo:=fun x=>[row (.slice x.1.1 ((Qag p b).ents).length x.1.2) (((Qag p b).ents).map cec) 106 7,row (.slice x.2.1 ((Qag p b).ticks).length x.2.2) (((Qag p b).ticks).map lsc) 102 2]) (F:=fun _ _=>True) Qmp rfl rfl ?hc hs fun x14 w13 hs _=>?_))))))))
 case hc=>exact (Qd4 _ p a1 c1 a2 c2 a3 c3 b hb hsortE hsortU hok hle hlt hlo (Rd.own' hr1 hs) (Rd.own' hr2 hs) (Rd.own' hr3 hs))
 refine Qaa (Qac (V:=.tuple #[.agg ((vc ((Qag p b).known))++[(.slice x14.1.1 (((Qag p b).ents).length) x14.1.2:Value),(.slice x14.2.1 (((Qag p b).ticks).length) x14.2.2:Value) ]).toArray,I6 (Qbc p b)]) rfl (Qaa (Qay (V:=.agg ((vc ((Qag p b).known))++[(.slice x14.1.1 (((Qag p b).ents).length) x14.1.2:Value),(.slice x14.2.1 (((Qag p b).ticks).length) x14.2.2:Value) ]).toArray) rfl rfl (Qaa (Qay (V:=I6 (Qbc p b)) rfl rfl (Qaa (QaM (cs:=(vc vzero)++[(.slice none 0 0:Value),(.slice none 0 0:Value) ]) QhF rfl hs fun b15 w16 hs=>?_)))))))
 replace hs:Own w no w16 [blk b1 (((vc p.base.known)++[(.slice a1 p.base.ents.length c1:Value),(.slice a2 p.base.ticks.length c2:Value) ])++[(.slice a3 p.ops.length c3:Value) ]++(vc p.known)) 43,blk b3 (vc a) 24,blk b5 (vc b) 24,row (.slice x8.1.1 (((Qag p a).ents).length) x8.1.2) (((Qag p a).ents).map cec) 106 7,row (.slice x8.2.1 (((Qag p a).ticks).length) x8.2.2) (((Qag p a).ticks).map lsc) 102 2,blk b9 ((vc ((Qag p a).known))++[(.slice x8.1.1 (((Qag p a).ents).length) x8.1.2:Value),(.slice x8.2.1 (((Qag p a).ticks).length) x8.2.2:Value) ]) 38,row (.slice x14.1.1 (((Qag p b).ents).length) x14.1.2) (((Qag p b).ents).map cec) 106 7,row (.slice x14.2.1 (((Qag p b).ticks).length) x14.2.2) (((Qag p b).ticks).map lsc) 102 2,blk b15 ((vc vzero)++[(.slice none 0 0:Value),(.slice none 0 0:Value) ]) 38]:=hs
 refine Qaa (QcH (V:=.agg ((vc ((Qag p b).known))++[(.slice x14.1.1 (((Qag p b).ents).length) x14.1.2:Value),(.slice x14.2.1 (((Qag p b).ticks).length) x14.2.2:Value) ]).toArray) (vs:=(vc ((Qag p b).known))++[(.slice x14.1.1 (((Qag p b).ents).length) x14.1.2:Value),(.slice x14.2.1 (((Qag p b).ticks).length) x14.2.2:Value) ]) (cs':=(vc ((Qag p b).known))++[(.slice x14.1.1 (((Qag p b).ents).length) x14.1.2:Value),(.slice x14.2.1 (((Qag p b).ticks).length) x14.2.2:Value) ]) QcD.1 hs 8 rfl rfl rfl rfl rfl (QQ8 rfl) (QbQ (Qcv _) (Qaw rfl (Qaw rfl Qbg))) (QaC rfl) fun w17 hs=>(Qaa (Qad (V:=I6 (Qbc p b)) rfl (Qaf (Qah (Qan (Qah (Qab (Qaa (Qac (V:=I6 (Qbc p b)) rfl (Qaa (Qch rfl rfl (Qaa (Qad (V:=.bool (!decide (Qbc p b=0))) rfl (Qaf (Qao (t:=!decide (Qbc p b=0)) rfl (fun c18=>?_) (fun c18=>?_)))))))))))))))))
 ·
  replace c18:=Qbp c18
  replace c18:=QQ2 c18
  refine Qah (Qab (Qaa (Qac (V:=I6 (Qbc p b)) rfl (Qaa (Qad (V:=.slice none 0 0) rfl (Qaa (Qad (V:=I6 (Qbc p b)) rfl (Qaf (Qav ?_)))))))))
  refine ⟨_,Qbq (U:=.slice none 0 0) (V:=I6 (Qbc p b)) Tryz.results22 rfl rfl,?_⟩
  have hX:Qc7 p a b=Qbc p b:=Qri c12 c18
  rw [Qjq (by rw [hX];exact c18),hX]
  exact ⟨(none,0),rfl,(hs.take 0).more _ (Qbk _ _ _ _),trivial⟩
 replace c18:=Qbf c18
 replace c18:=QQ1 c18
 refine Qah (Qab (Qaa (QaJ (cs:=vc a) QbB hs 1 rfl rfl rfl (Qaa (QaJ (cs:=vc b) QbB hs 2 rfl rfl rfl (Qaa (Qat (vs:=[.agg (vc a).toArray,.agg (vc b).toArray]) (V:=.bool (vle a b)) Qrh rfl rfl ?hc hs fun w19 hs=>?_)))))))
 case hc=>exact (Qgb _ a b)
 refine Qaa (Qbw rfl (Qaa (Qad (V:=.bool (!(vle a b))) rfl (Qaf (Qao (t:=!(vle a b)) rfl (fun c20=>?_) (fun c20=>?_))))))
 ·
  replace c20:=Qbp c20
  refine Qah (Qab (Qaa (Qad (V:=.slice none 0 0) rfl (Qaa (Qad (V:=I6 14) rfl (Qaf (Qav ?_)))))))
  refine ⟨_,Qbq (U:=.slice none 0 0) (V:=I6 14) Tryz.results22 rfl rfl,?_⟩
  have hX:Qc7 p a b=14:=QqF c12 c18 c20
  rw [Qjq (by rw [hX];decide),hX]
  exact ⟨(none,0),rfl,(hs.take 0).more _ (Qbk _ _ _ _),trivial⟩
 replace c20:=Qbf c20
 refine Qaq (Qah (Qab (Qaa (QaM (cs:=[.slice none 0 0]) QuT rfl hs fun b21 w22 hs=>(Qaf (Qah (Qah (Qab (Qaa (QaJ (cs:=(vc ((Qag p b).known))++[(.slice x14.1.1 (((Qag p b).ents).length) x14.1.2:Value),(.slice x14.2.1 (((Qag p b).ticks).length) x14.2.2:Value) ]) QcD hs 8 rfl rfl rfl (Qaa (Qbo (vs:=[.agg ((vc ((Qag p b).known))++[(.slice x14.1.1 (((Qag p b).ents).length) x14.1.2:Value),(.slice x14.2.1 (((Qag p b).ticks).length) x14.2.2:Value) ]).toArray]) (V:=fun x:Option Addr × Nat=>.slice x.1 (Qaz (Qag p b)).length x.2) Qsq rfl rfl (Qh1 _ (Qag p b) x14.1.1 x14.1.2 x14.2.1 x14.2.2 hsob (by omega) (by omega) (hs.rd 6 rfl) (hs.rd 7 rfl)) hs fun x23 w24 hs _=>(Qaa (Qa4 (n:=(Qaz (Qag p b)).length) QaI (hs.rd 10 rfl) (by simp) rfl (Qaa (Qac (V:=I6 0) rfl (Qaf (Qan ?_))))))))))))))))))
 replace hs:=hs.more (row (.slice none 0 0) (List.map dfc []) 83 5) (Qbk _ _ _ _)
 have ho:=(hs.join 9 11 (by decide) rfl rfl).conv 9 (R':=Qer 60 83 b21 []) rfl fun _ h=>⟨(none,0),h⟩
 replace hs:=ho
 have hcl:=QiR (Qag p b)
 refine QaA (fun J μ J' w'=>∃ (Jo:Env) (k:Nat) (out:List Dif),J'=upd (mix ([13]++sq 41 13) Jo J) 41 (I6 (k:Int))/\(k<=(Qaz (Qag p b)).length)/\(out=((Qaz (Qag p b)).take k).flatMap (Qi5 p a b))/\(out.length<=k*2000)/\μ=(Qaz (Qag p b)).length-k/\Own w no w' [blk b1 (((vc p.base.known)++[(.slice a1 p.base.ents.length c1:Value),(.slice a2 p.base.ticks.length c2:Value) ])++[(.slice a3 p.ops.length c3:Value) ]++(vc p.known)) 43,blk b3 (vc a) 24,blk b5 (vc b) 24,row (.slice x8.1.1 (((Qag p a).ents).length) x8.1.2) (((Qag p a).ents).map cec) 106 7,row (.slice x8.2.1 (((Qag p a).ticks).length) x8.2.2) (((Qag p a).ticks).map lsc) 102 2,blk b9 ((vc ((Qag p a).known))++[(.slice x8.1.1 (((Qag p a).ents).length) x8.1.2:Value),(.slice x8.2.1 (((Qag p a).ticks).length) x8.2.2:Value) ]) 38,row (.slice x14.1.1 (((Qag p b).ents).length) x14.1.2) (((Qag p b).ents).map cec) 106 7,row (.slice x14.2.1 (((Qag p b).ticks).length) x14.2.2) (((Qag p b).ticks).map lsc) 102 2,blk b15 ((vc ((Qag p b).known))++[(.slice x14.1.1 (((Qag p b).ents).length) x14.1.2:Value),(.slice x14.2.1 (((Qag p b).ticks).length) x14.2.2:Value) ]) 38,Qer 60 83 b21 out,row (.slice x23.1 ((Qaz (Qag p b)).length) x23.2) ((Qaz (Qag p b)).map (ic .u16)) 32 1,emp]) ?_ ?_
 ·exact ⟨_,_,0,[],Qai (Qap (ds:=([13]++sq 41 13)) (Agr.refl _ _)) rfl,(by omega),rfl,(Nat.le_refl _),rfl,hs⟩
 rintro μ J' w25 ⟨Jo,k,out,rfl,hk,hout,hol,rfl,hs⟩
 have hvl1:(QaZ p a (gd (Qaz (Qag p b)) k)).lines.length<=800:=Nat.le_trans (Qe3 _ _ _) (by omega)
 have hvl2:(QaZ p b (gd (Qaz (Qag p b)) k)).lines.length<=800:=Nat.le_trans (Qe3 _ _ _) (by omega)
 refine Qah (Qab (Qaa (QaQ rfl rfl (Qaf (Qah (Qao (t:=decide ((k:Int)<(((Qaz (Qag p b)).length:Nat):Int))) rfl (fun c26=>?_) (fun c26=>?_)))))))
 ·
  replace c26:=QQ1 c26
  refine Qaq (Qah (Qan (Qah (Qab (Qaa (Qax QaI Qas.1 (hs.rd 10 rfl) rfl rfl (by omega) (by rw [QQ6];omega) (Qaa (QaP (j:=0) (V:=I7 (gd (Qaz (Qag p b)) k)) k Qas (hs.rd 10 rfl) (QaW (by omega)) rfl rfl (by omega) (Qaa (Qad (V:=I7 (gd (Qaz (Qag p b)) k)) rfl (Qaf ?_)))))))))))
  replace hs:=hs.more emp trivial
  replace hs:=hs.more emp trivial
  refine QaH HM [some 45,some 46,some 47,some 48,some 49,some 50,some 51,some 52] [[],[],[47],[],[],[50]] [0,0,3,0,0,31,0,127] [pv (.agg ((vc ((Qag p a).known))++[(.slice x8.1.1 (((Qag p a).ents).length) x8.1.2:Value),(.slice x8.2.1 (((Qag p a).ticks).length) x8.2.2:Value) ]).toArray),pv (I7 (gd (Qaz (Qag p b)) k)),(true,fun J=>.agg #[I7 ((QaZ p a (gd (Qaz (Qag p b)) k)).cart),.slice (aOf (Qbr (J 47) 1)) (((QaZ p a (gd (Qaz (Qag p b)) k)).lines).length) (cOf (Qbr (J 47) 1)),.bool ((QaZ p a (gd (Qaz (Qag p b)) k)).out),.int .u32 ((QaZ p a (gd (Qaz (Qag p b)) k)).tick)]),pv (.agg ((vc ((Qag p b).known))++[(.slice x14.1.1 (((Qag p b).ents).length) x14.1.2:Value),(.slice x14.2.1 (((Qag p b).ticks).length) x14.2.2:Value) ]).toArray),pv (I7 (gd (Qaz (Qag p b)) k)),(true,fun J=>.agg #[I7 ((QaZ p b (gd (Qaz (Qag p b)) k)).cart),.slice (aOf (Qbr (J 50) 1)) (((QaZ p b (gd (Qaz (Qag p b)) k)).lines).length) (cOf (Qbr (J 50) 1)),.bool ((QaZ p b (gd (Qaz (Qag p b)) k)).out),.int .u32 ((QaZ p b (gd (Qaz (Qag p b)) k)).tick)]),pv (.func (.func 65) #[] #[Pq b21 0]),pv (.tuple #[])] (fun D J=>[blk b1 (((vc p.base.known)++[(.slice a1 p.base.ents.length c1:Value),(.slice a2 p.base.ticks.length c2:Value) ])++[(.slice a3 p.ops.length c3:Value) ]++(vc p.known)) 43,blk b3 (vc a) 24,blk b5 (vc b) 24,row (.slice x8.1.1 (((Qag p a).ents).length) x8.1.2) (((Qag p a).ents).map cec) 106 7,row (.slice x8.2.1 (((Qag p a).ticks).length) x8.2.2) (((Qag p a).ticks).map lsc) 102 2,blk b9 ((vc ((Qag p a).known))++[(.slice x8.1.1 (((Qag p a).ents).length) x8.1.2:Value),(.slice x8.2.1 (((Qag p a).ticks).length) x8.2.2:Value) ]) 38,row (.slice x14.1.1 (((Qag p b).ents).length) x14.1.2) (((Qag p b).ents).map cec) 106 7,row (.slice x14.2.1 (((Qag p b).ticks).length) x14.2.2) (((Qag p b).ticks).map lsc) 102 2,blk b15 ((vc ((Qag p b).known))++[(.slice x14.1.1 (((Qag p b).ents).length) x14.1.2:Value),(.slice x14.2.1 (((Qag p b).ticks).length) x14.2.2:Value) ]) 38,cond (D 7) (Qer 60 83 b21 (out++QeA (QaZ p a (gd (Qaz (Qag p b)) k)) (QaZ p b (gd (Qaz (Qag p b)) k)))) (Qer 60 83 b21 out),row (.slice x23.1 ((Qaz (Qag p b)).length) x23.2) ((Qaz (Qag p b)).map (ic .u16)) 32 1,emp,cond (D 2) (row (.slice (aOf (Qbr (J 47) 1)) (((QaZ p a (gd (Qaz (Qag p b)) k)).lines).length) (cOf (Qbr (J 47) 1))) (((QaZ p a (gd (Qaz (Qag p b)) k)).lines).map lc) 127 2) (emp),cond (D 5) (row (.slice (aOf (Qbr (J 50) 1)) (((QaZ p b (gd (Qaz (Qag p b)) k)).lines).length) (cOf (Qbr (J 50) 1))) (((QaZ p b (gd (Qaz (Qag p b)) k)).lines).map lc) 127 2) (emp)]) [] (by kernel_rfl) hs ⟨?_,?_,?_,?_,?_,?_,?_,?_,trivial⟩ ?_
  ·exact oa [] fun D J w hs=>QaJ (cs:=(vc ((Qag p a).known))++[(.slice x8.1.1 (((Qag p a).ents).length) x8.1.2:Value),(.slice x8.2.1 (((Qag p a).ticks).length) x8.2.2:Value) ]) QcD hs 5 rfl rfl rfl (Zz hs)
  ·exact oa [] fun D J w hs=>Qac (V:=.int .u16 (gd (Qaz (Qag p b)) k)) rfl (Zz hs)
  ·exact oa [0,1] fun D J w hs=>Qbo (α:=Option Addr × Nat) (vs:=[.agg ((vc ((Qag p a).known))++[(.slice x8.1.1 (((Qag p a).ents).length) x8.1.2:Value),(.slice x8.2.1 (((Qag p a).ticks).length) x8.2.2:Value) ]).toArray,.int .u16 (gd (Qaz (Qag p b)) k)]) (V:=fun x=>.agg #[.int .u16 ((QaZ p a (gd (Qaz (Qag p b)) k)).cart),.slice x.1 (((QaZ p a (gd (Qaz (Qag p b)) k)).lines).length) x.2,.bool ((QaZ p a (gd (Qaz (Qag p b)) k)).out),.int .u32 ((QaZ p a (gd (Qaz (Qag p b)) k)).tick)]) (Lo:=fun x=>[row (.slice x.1 ((QaZ p a (gd (Qaz (Qag p b)) k)).lines).length x.2) (((QaZ p a (gd (Qaz (Qag p b)) k)).lines).map lc) 127 2]) (F:=fun _ _=>True) Qox rfl rfl (Qe8 _ (Qag p a) x8.1.1 x8.1.2 x8.2.1 x8.2.2 (gd (Qaz (Qag p b)) k) (QaZ p a (gd (Qaz (Qag p b)) k):Vw) (rfl) hsoa (by omega) (by omega) (hs.rd 3 rfl) (hs.rd 4 rfl)) hs fun _ _ hs _=>⟨rfl,hs.put 12 (QQ8 rfl)⟩
  ·exact oa [] fun D J w hs=>QaJ (cs:=(vc ((Qag p b).known))++[(.slice x14.1.1 (((Qag p b).ents).length) x14.1.2:Value),(.slice x14.2.1 (((Qag p b).ticks).length) x14.2.2:Value) ]) QcD hs 8 rfl rfl rfl (Zz hs)
  ·exact oa [] fun D J w hs=>Qac (V:=.int .u16 (gd (Qaz (Qag p b)) k)) rfl (Zz hs)
  ·exact oa [3,4] fun D J w hs=>Qbo (α:=Option Addr × Nat) (vs:=[.agg ((vc ((Qag p b).known))++[(.slice x14.1.1 (((Qag p b).ents).length) x14.1.2:Value),(.slice x14.2.1 (((Qag p b).ticks).length) x14.2.2:Value) ]).toArray,.int .u16 (gd (Qaz (Qag p b)) k)]) (V:=fun x=>.agg #[.int .u16 ((QaZ p b (gd (Qaz (Qag p b)) k)).cart),.slice x.1 (((QaZ p b (gd (Qaz (Qag p b)) k)).lines).length) x.2,.bool ((QaZ p b (gd (Qaz (Qag p b)) k)).out),.int .u32 ((QaZ p b (gd (Qaz (Qag p b)) k)).tick)]) (Lo:=fun x=>[row (.slice x.1 ((QaZ p b (gd (Qaz (Qag p b)) k)).lines).length x.2) (((QaZ p b (gd (Qaz (Qag p b)) k)).lines).map lc) 127 2]) (F:=fun _ _=>True) Qox rfl rfl (Qe8 _ (Qag p b) x14.1.1 x14.1.2 x14.2.1 x14.2.2 (gd (Qaz (Qag p b)) k) (QaZ p b (gd (Qaz (Qag p b)) k):Vw) (rfl) hsob (by omega) (by omega) (hs.rd 6 rfl) (hs.rd 7 rfl)) hs fun _ _ hs _=>⟨rfl,hs.put 13 (QQ8 rfl)⟩
  ·exact oa [] fun D J w hs=>Qdt (cs:=[.pointer (some ⟨b21,0,none⟩)]) rfl rfl (Zz hs)
  ·exact oa [2,5,6] fun D J w hs=>Qjl (α:=Unit) (vs:=[.agg #[.int .u16 ((QaZ p a (gd (Qaz (Qag p b)) k)).cart),.slice (aOf (Qbr (J 47) 1)) (((QaZ p a (gd (Qaz (Qag p b)) k)).lines).length) (cOf (Qbr (J 47) 1)),.bool ((QaZ p a (gd (Qaz (Qag p b)) k)).out),.int .u32 ((QaZ p a (gd (Qaz (Qag p b)) k)).tick)],.agg #[.int .u16 ((QaZ p b (gd (Qaz (Qag p b)) k)).cart),.slice (aOf (Qbr (J 50) 1)) (((QaZ p b (gd (Qaz (Qag p b)) k)).lines).length) (cOf (Qbr (J 50) 1)),.bool ((QaZ p b (gd (Qaz (Qag p b)) k)).out),.int .u32 ((QaZ p b (gd (Qaz (Qag p b)) k)).tick)],.func (.func 65) #[] #[.pointer (some ⟨b21,0,none⟩)]]) (V:=fun _=>.tuple #[]) (R:=Qer 60 83 b21 out) (R':=fun _=>Qer 60 83 b21 (out++QeA (QaZ p a (gd (Qaz (Qag p b)) k)) (QaZ p b (gd (Qaz (Qag p b)) k)))) (Lo:=fun _=>[]) (F:=fun _ _=>True) Qvq rfl rfl hs 9 rfl (fun S hS hlS hK=>Qmy _ S b21 out ((QaZ p a (gd (Qaz (Qag p b)) k)).cart) ((QaZ p a (gd (Qaz (Qag p b)) k)).lines) ((QaZ p a (gd (Qaz (Qag p b)) k)).out) ((QaZ p a (gd (Qaz (Qag p b)) k)).tick) (aOf (Qbr (J 47) 1)) (cOf (Qbr (J 47) 1)) ((QaZ p b (gd (Qaz (Qag p b)) k)).cart) ((QaZ p b (gd (Qaz (Qag p b)) k)).lines) ((QaZ p b (gd (Qaz (Qag p b)) k)).out) ((QaZ p b (gd (Qaz (Qag p b)) k)).tick) (aOf (Qbr (J 50) 1)) (cOf (Qbr (J 50) 1)) (Qkx _ _ _) (Qkx _ _ _) (Nat.le_trans (Qe3 _ _ _) (by omega)) (Nat.le_trans (Qe3 _ _ _) (by omega)) (fun w1 L1 h=>(hK 12 (by decide) _ rfl).rd h) (fun w1 L1 h=>(hK 13 (by decide) _ rfl).rd h) hS hlS (by omega)) fun _ _ hs _=>⟨rfl,hs⟩
  rintro J1 w30 J2 hJ hs
  replace hJ:J2=mix (sq 45 8) J1 _:=hJ
  replace hs:Own w no w30 [blk b1 (((vc p.base.known)++[(.slice a1 p.base.ents.length c1:Value),(.slice a2 p.base.ticks.length c2:Value) ])++[(.slice a3 p.ops.length c3:Value) ]++(vc p.known)) 43,blk b3 (vc a) 24,blk b5 (vc b) 24,row (.slice x8.1.1 (((Qag p a).ents).length) x8.1.2) (((Qag p a).ents).map cec) 106 7,row (.slice x8.2.1 (((Qag p a).ticks).length) x8.2.2) (((Qag p a).ticks).map lsc) 102 2,blk b9 ((vc ((Qag p a).known))++[(.slice x8.1.1 (((Qag p a).ents).length) x8.1.2:Value),(.slice x8.2.1 (((Qag p a).ticks).length) x8.2.2:Value) ]) 38,row (.slice x14.1.1 (((Qag p b).ents).length) x14.1.2) (((Qag p b).ents).map cec) 106 7,row (.slice x14.2.1 (((Qag p b).ticks).length) x14.2.2) (((Qag p b).ticks).map lsc) 102 2,blk b15 ((vc ((Qag p b).known))++[(.slice x14.1.1 (((Qag p b).ents).length) x14.1.2:Value),(.slice x14.2.1 (((Qag p b).ticks).length) x14.2.2:Value) ]) 38,Qer 60 83 b21 (out++QeA (QaZ p a (gd (Qaz (Qag p b)) k)) (QaZ p b (gd (Qaz (Qag p b)) k))),row (.slice x23.1 ((Qaz (Qag p b)).length) x23.2) ((Qaz (Qag p b)).map (ic .u16)) 32 1,emp,row (.slice (aOf (Qbr (J1 47) 1)) (((QaZ p a (gd (Qaz (Qag p b)) k)).lines).length) (cOf (Qbr (J1 47) 1))) (((QaZ p a (gd (Qaz (Qag p b)) k)).lines).map lc) 127 2,row (.slice (aOf (Qbr (J1 50) 1)) (((QaZ p b (gd (Qaz (Qag p b)) k)).lines).length) (cOf (Qbr (J1 50) 1))) (((QaZ p b (gd (Qaz (Qag p b)) k)).lines).map lc) 127 2]:=hs
  generalize (aOf (Qbr (J1 47) 1))=na31 at hs
  generalize (cOf (Qbr (J1 47) 1))=nc32 at hs
  generalize (aOf (Qbr (J1 50) 1))=na33 at hs
  generalize (cOf (Qbr (J1 50) 1))=nc34 at hs
  subst hJ
  refine Qab (Qaa (QaD (a:=(k:Int)) (b:=1) (c:=((k+1:Nat):Int)) rfl rfl (Qak (by omega) (by omega)) (Qaa (Qac (V:=I6 ((k+1:Nat):Int)) rfl (Qaf ?_)))))
  refine ⟨_,?_,_,k+1,(out++QeA (QaZ p a (gd (Qaz (Qag p b)) k)) (QaZ p b (gd (Qaz (Qag p b)) k))),Qai (Qap (ds:=([13]++sq 41 13)) (by repeat (first|exact Agr.refl _ _|refine Agr.upd ?_ rfl|refine Agr.mix ?_ rfl))) rfl,(by omega),(QmF hout (by omega)),(by have h9:=Qog (QaZ p a (gd (Qaz (Qag p b)) k)) (QaZ p b (gd (Qaz (Qag p b)) k));rw [QQ7];omega),rfl,hs.take 12⟩
  omega
 replace c26:=QQ2 c26
 refine QaG (Qah ?_)
 obtain ⟨⟨ao9,co9⟩,hs⟩:=hs.unpack 9 rfl
 replace hs:=hs.split 9 rfl
 refine Qab (Qaa (QaE (V:=.slice ao9 out.length co9) QrX hs 9 rfl rfl rfl (Qaa (Qad (V:=.slice ao9 out.length co9) rfl (Qaa (Qad (V:=I6 0) rfl (Qaf (Qav ?_))))))))
 refine ⟨_,Qbq (U:=.slice ao9 out.length co9) (V:=I6 0) Tryz.results22 rfl rfl,?_⟩
 have hX:Qc7 p a b=0:=Qly c12 c18 c20
 rw [Qpc hX hout (by omega),hX]
 exact ⟨(ao9,co9),rfl,hs.only 12 rfl,trivial⟩
end Tt
end Go.Proofs
namespace Go.Proofs
open Go Go.Vx Go.RowKit
namespace Tt
theorem QkO (w:World) (hsortE:QgQ Tryz.prog 48 49 cec 106 7 Qj2) (hsortU:QgI Tryz.prog 134 .u16 32):Calls Tryz.prog 10 #[] w (fun e w'=>e = .returned (.bool true)/\Own w no w' []):=by
 refine Qaj (n:=101) Tryz.func10 rfl Tryz.ntmps10 rfl ?_
 have hs:=Own.start w
 refine Qah (Qab (Qaa (Qad (V:=.bool false) rfl (Qaf (Qah (Qab (Qaa (Qbx (vs:=[(1,.int .u32 1)]) (cs:=dc (⟨0,1⟩:Dot)) QvS (rfl) rfl (Qaa (Qbm (V:=.agg (oc (⟨(⟨0,1⟩:Dot),1,3,4,2,5,vzero⟩:Opn)).toArray) (V':=.agg (oc Qqf).toArray) (Qcz (vs:=[(0,.agg (dc (⟨0,1⟩:Dot)).toArray),(1,.int .u8 1),(2,I7 3),(3,I7 4),(4,I7 2),(5,.int .u32 5)]) (cs:=oc (⟨(⟨0,1⟩:Dot),1,3,4,2,5,vzero⟩:Opn)) [dc (⟨0,0⟩:Dot),[(.int .u8 0:Value)],[(I7 0:Value)],[(I7 0:Value)],[(I7 0:Value)],[(.int .u32 0:Value)],vc vzero] [dc (⟨0,1⟩:Dot),[(.int .u8 1:Value)],[(I7 3:Value)],[(I7 4:Value)],[(I7 2:Value)],[(.int .u32 5:Value)],vc vzero] Qqt rfl (rfl) rfl rfl ⟨rfl,rfl⟩) rfl (Qaa (Qfb (vals:=[.agg (oc Qqf).toArray]) (ls:=List.map oc ([Qqf]:List Opn)) QlA rfl rfl rfl (Qbd (enc:=oc) (fun _=>rfl) _) (QaK Qep _) (QQ8 rfl) hs fun b1 w2 hs=>(Qaa (Qbm (V:=.agg (vc (vset vzero 0 1)).toArray) (V':=.agg (vc alK).toArray) (Qbx (vs:=[(0,.int .u32 1)]) (cs:=vc (vset vzero 0 1)) Qh9 (rfl) rfl ⟨rfl,rfl⟩) rfl (Qaa (Qcz (vs:=[(1,.slice (some ⟨b1,0,none⟩) 1 1),(2,.agg (vc alK).toArray)]) (cs:=((vc vzero)++[(.slice none 0 0:Value),(.slice none 0 0:Value) ])++[(.slice (some ⟨b1,0,none⟩) 1 1:Value) ]++(vc alK)) [(vc vzero)++[(.slice none 0 0:Value),(.slice none 0 0:Value) ],[(.slice none 0 0:Value)],vc vzero] [(vc vzero)++[(.slice none 0 0:Value),(.slice none 0 0:Value) ],[(.slice (some ⟨b1,0,none⟩) 1 1:Value)],vc alK] QtJ rfl (rfl) rfl rfl (Qaa (QaM (cs:=((vc vzero)++[(.slice none 0 0:Value),(.slice none 0 0:Value) ])++[(.slice none 0 0:Value) ]++(vc vzero)) Qtq rfl hs fun b3 w4 hs=>(Qaa (QcH (V:=.agg (((vc vzero)++[(.slice none 0 0:Value),(.slice none 0 0:Value) ])++[(.slice (some ⟨b1,0,none⟩) 1 1:Value) ]++(vc alK)).toArray) (vs:=((vc vzero)++[(.slice none 0 0:Value),(.slice none 0 0:Value) ])++[(.slice (some ⟨b1,0,none⟩) 1 1:Value) ]++(vc alK)) (cs':=((vc vzero)++[(.slice none 0 0:Value),(.slice none 0 0:Value) ])++[(.slice (some ⟨b1,0,none⟩) 1 1:Value) ]++(vc alK)) QeH.1 hs 1 rfl rfl rfl rfl rfl (QQ8 rfl) (QbQ (QbQ (QbQ (Qcv _) (Qaw rfl (Qaw rfl Qbg))) (Qaw rfl Qbg)) (Qcv _)) (QaC rfl) fun w5 hs=>(Qaf (Qah (Qab (Qaa (QaJ (cs:=((vc vzero)++[(.slice none 0 0:Value),(.slice none 0 0:Value) ])++[(.slice (some ⟨b1,0,none⟩) 1 1:Value) ]++(vc alK)) QeH hs 1 rfl rfl rfl (Qaa (Qbm (V:=.agg (vc (vset vzero 0 1)).toArray) (V':=.agg (vc alK).toArray) (Qbx (vs:=[(0,.int .u32 1)]) (cs:=vc (vset vzero 0 1)) Qh9 (rfl) rfl ⟨rfl,rfl⟩) rfl (Qaa (Qbo (α:=Option Addr × Nat) (vs:=[.agg (((vc vzero)++[(.slice none 0 0:Value),(.slice none 0 0:Value) ])++[(.slice (some ⟨b1,0,none⟩) 1 1:Value) ]++(vc alK)).toArray,.agg (vc alK).toArray,I7 3]) (V:=fun x=>.tuple #[.agg #[I7 ((Qa1 alP alK 3).cart),.slice x.1 (((Qa1 alP alK 3).lines).length) x.2,.bool ((Qa1 alP alK 3).out),.int .u32 ((Qa1 alP alK 3).tick)],I6 (Qbc alP alK)]) (Lo:=fun x=>[row (.slice x.1 ((Qa1 alP alK 3).lines).length x.2) (((Qa1 alP alK 3).lines).map lc) 127 2]) (F:=fun _ _=>True) Qsg rfl rfl ?hc hs fun x7 w6 hs _=>?_)))))))))))))))))))))))))))))
 case hc=>exact (Qkp _ alP none 0 none 0 (some ⟨b1,0,none⟩) 1 alK Qib 3 hsortE hsortU Qg8 (by decide) (by decide) (by decide) (Rd.nil _ 7) (Rd.nil _ 2) (hs.rd 0 rfl))
 replace hs:Own w no w6 [row (.slice (some ⟨b1,0,none⟩) 1 1) ([Qqf].map oc) 98 23,blk b3 (((vc vzero)++[(.slice none 0 0:Value),(.slice none 0 0:Value) ])++[(.slice (some ⟨b1,0,none⟩) 1 1:Value) ]++(vc alK)) 43,row (.slice x7.1 (((Qa1 alP alK 3).lines).length) x7.2) (((Qa1 alP alK 3).lines).map lc) 127 2]:=hs
 refine Qaa (Qac (V:=.tuple #[.agg #[I7 ((Qa1 alP alK 3).cart),.slice x7.1 (((Qa1 alP alK 3).lines).length) x7.2,.bool ((Qa1 alP alK 3).out),.int .u32 ((Qa1 alP alK 3).tick)],I6 (Qbc alP alK)]) rfl (Qaa (Qay (V:=.agg #[I7 ((Qa1 alP alK 3).cart),.slice x7.1 (((Qa1 alP alK 3).lines).length) x7.2,.bool ((Qa1 alP alK 3).out),.int .u32 ((Qa1 alP alK 3).tick)]) rfl rfl (Qaa (Qay (V:=I6 (Qbc alP alK)) rfl rfl (Qaa (QaM (cs:=[I7 0,.slice none 0 0,.bool false,.int .u32 0]) QhJ rfl hs fun b8 w9 hs=>(Qaa (QcH (V:=.agg #[I7 ((Qa1 alP alK 3).cart),.slice x7.1 (((Qa1 alP alK 3).lines).length) x7.2,.bool ((Qa1 alP alK 3).out),.int .u32 ((Qa1 alP alK 3).tick)]) (vs:=[I7 ((Qa1 alP alK 3).cart),.slice x7.1 (((Qa1 alP alK 3).lines).length) x7.2,.bool ((Qa1 alP alK 3).out),.int .u32 ((Qa1 alP alK 3).tick)]) (cs':=[I7 ((Qa1 alP alK 3).cart),.slice x7.1 (((Qa1 alP alK 3).lines).length) x7.2,.bool ((Qa1 alP alK 3).out),.int .u32 ((Qa1 alP alK 3).tick)]) Qc3.1 hs 3 rfl rfl rfl rfl rfl (QQ8 rfl) (Qaw rfl (Qaw rfl (Qaw rfl (Qaw rfl Qbg)))) (QaC rfl) fun w10 hs=>(Qaa (Qad (V:=I6 (Qbc alP alK)) rfl (Qaf (Qah (Qab (Qaa (QaJ (cs:=((vc vzero)++[(.slice none 0 0:Value),(.slice none 0 0:Value) ])++[(.slice (some ⟨b1,0,none⟩) 1 1:Value) ]++(vc alK)) QeH hs 1 rfl rfl rfl (Qaa (Qbx (vs:=[]) (cs:=vc vzero) Qh9 (rfl) rfl (Qaa (Qbm (V:=.agg (vc (vset vzero 0 1)).toArray) (V':=.agg (vc alK).toArray) (Qbx (vs:=[(0,.int .u32 1)]) (cs:=vc (vset vzero 0 1)) Qh9 (rfl) rfl ⟨rfl,rfl⟩) rfl (Qaa (Qbo (vs:=[.agg (((vc vzero)++[(.slice none 0 0:Value),(.slice none 0 0:Value) ])++[(.slice (some ⟨b1,0,none⟩) 1 1:Value) ]++(vc alK)).toArray,.agg (vc vzero).toArray,.agg (vc alK).toArray]) (V:=fun x:Option Addr × Nat=>.tuple #[.slice x.1 (QcP alP vzero alK).length x.2,I6 (Qc7 alP vzero alK)]) Quu rfl rfl (Qof _ alP none 0 none 0 (some ⟨b1,0,none⟩) 1 vzero alK Qb1 Qib hsortE hsortU Qg8 (by decide) (by decide) (by decide) (Rd.nil _ 7) (Rd.nil _ 2) (hs.rd 0 rfl)) hs fun x12 w11 hs _=>(Qaa (Qac (V:=.tuple #[.slice x12.1 ((QcP alP vzero alK).length) x12.2,I6 (Qc7 alP vzero alK)]) rfl (Qaa (Qay (V:=.slice x12.1 ((QcP alP vzero alK).length) x12.2) rfl rfl (Qaa (Qay (V:=I6 (Qc7 alP vzero alK)) rfl rfl (Qaa (Qad (V:=.slice x12.1 ((QcP alP vzero alK).length) x12.2) rfl (Qaa (Qad (V:=I6 (Qc7 alP vzero alK)) rfl (Qaf (Qah (Qab (Qaa (QaJ (cs:=((vc vzero)++[(.slice none 0 0:Value),(.slice none 0 0:Value) ])++[(.slice (some ⟨b1,0,none⟩) 1 1:Value) ]++(vc alK)) QeH hs 1 rfl rfl rfl (Qaa (Qbm (V:=.agg (vc (vset vzero 0 1)).toArray) (V':=.agg (vc alK).toArray) (Qbx (vs:=[(0,.int .u32 1)]) (cs:=vc (vset vzero 0 1)) Qh9 (rfl) rfl ⟨rfl,rfl⟩) rfl (Qaa (Qbo (vs:=[.agg (((vc vzero)++[(.slice none 0 0:Value),(.slice none 0 0:Value) ])++[(.slice (some ⟨b1,0,none⟩) 1 1:Value) ]++(vc alK)).toArray,.agg (vc alK).toArray,.int .u32 9,.int .u32 4]) (V:=fun x:Option Addr × Nat=>.tuple #[.slice x.1 (abR alP alK 9 4).length x.2,I6 (abI alP alK 9 4)]) Qtz rfl rfl (Qpz _ alP none 0 none 0 (some ⟨b1,0,none⟩) 1 alK Qib 9 4 ⟨⟨by decide,by decide⟩,by decide⟩ hsortE hsortU Qg8 (by decide) (by decide) (by decide) (Rd.nil _ 7) (Rd.nil _ 2) (hs.rd 0 rfl)) hs fun x14 w13 hs _=>?_)))))))))))))))))))))))))))))))))))))))))
 replace hs:Own w no w13 [row (.slice (some ⟨b1,0,none⟩) 1 1) ([Qqf].map oc) 98 23,blk b3 (((vc vzero)++[(.slice none 0 0:Value),(.slice none 0 0:Value) ])++[(.slice (some ⟨b1,0,none⟩) 1 1:Value) ]++(vc alK)) 43,row (.slice x7.1 (((Qa1 alP alK 3).lines).length) x7.2) (((Qa1 alP alK 3).lines).map lc) 127 2,blk b8 [I7 ((Qa1 alP alK 3).cart),.slice x7.1 (((Qa1 alP alK 3).lines).length) x7.2,.bool ((Qa1 alP alK 3).out),.int .u32 ((Qa1 alP alK 3).tick)] 49,row (.slice x12.1 ((QcP alP vzero alK).length) x12.2) ((QcP alP vzero alK).map dfc) 83 5,row (.slice x14.1 ((abR alP alK 9 4).length) x14.2) ((abR alP alK 9 4).map (ic .u16)) 32 1]:=hs
 refine Qaa (Qac (V:=.tuple #[.slice x14.1 ((abR alP alK 9 4).length) x14.2,I6 (abI alP alK 9 4)]) rfl (Qaa (Qay (V:=.slice x14.1 ((abR alP alK 9 4).length) x14.2) rfl rfl (Qaa (Qay (V:=I6 (abI alP alK 9 4)) rfl rfl (Qaa (Qad (V:=.slice x14.1 ((abR alP alK 9 4).length) x14.2) rfl (Qaa (Qad (V:=I6 (abI alP alK 9 4)) rfl (Qaf (Qah (Qab (Qaa (QaJ (cs:=((vc vzero)++[(.slice none 0 0:Value),(.slice none 0 0:Value) ])++[(.slice (some ⟨b1,0,none⟩) 1 1:Value) ]++(vc alK)) QeH hs 1 rfl rfl rfl (Qaa (Qbm (V:=.agg (vc (vset vzero 0 2)).toArray) (V':=.agg (vc Qdj).toArray) (Qbx (vs:=[(0,.int .u32 2)]) (cs:=vc (vset vzero 0 2)) Qh9 (rfl) rfl ⟨rfl,rfl⟩) rfl (Qaa (Qbo (α:=Option Addr × Nat) (vs:=[.agg (((vc vzero)++[(.slice none 0 0:Value),(.slice none 0 0:Value) ])++[(.slice (some ⟨b1,0,none⟩) 1 1:Value) ]++(vc alK)).toArray,.agg (vc Qdj).toArray,I7 3]) (V:=fun x=>.tuple #[.agg #[I7 ((Qa1 alP Qdj 3).cart),.slice x.1 (((Qa1 alP Qdj 3).lines).length) x.2,.bool ((Qa1 alP Qdj 3).out),.int .u32 ((Qa1 alP Qdj 3).tick)],I6 (Qbc alP Qdj)]) (Lo:=fun x=>[row (.slice x.1 ((Qa1 alP Qdj 3).lines).length x.2) (((Qa1 alP Qdj 3).lines).map lc) 127 2]) (F:=fun _ _=>True) Qsg rfl rfl ?hc hs fun x16 w15 hs _=>?_))))))))))))))))))
 case hc=>exact (Qkp _ alP none 0 none 0 (some ⟨b1,0,none⟩) 1 Qdj QrE 3 hsortE hsortU Qg8 (by decide) (by decide) (by decide) (Rd.nil _ 7) (Rd.nil _ 2) (hs.rd 0 rfl))
 refine Qaa (Qac (V:=.tuple #[.agg #[I7 ((Qa1 alP Qdj 3).cart),.slice x16.1 (((Qa1 alP Qdj 3).lines).length) x16.2,.bool ((Qa1 alP Qdj 3).out),.int .u32 ((Qa1 alP Qdj 3).tick)],I6 (Qbc alP Qdj)]) rfl (Qaa (Qay (V:=.agg #[I7 ((Qa1 alP Qdj 3).cart),.slice x16.1 (((Qa1 alP Qdj 3).lines).length) x16.2,.bool ((Qa1 alP Qdj 3).out),.int .u32 ((Qa1 alP Qdj 3).tick)]) rfl rfl (Qaa (Qay (V:=I6 (Qbc alP Qdj)) rfl rfl (Qaa (QaM (cs:=[I7 0,.slice none 0 0,.bool false,.int .u32 0]) QhJ rfl hs fun b17 w18 hs=>(Qaa (QcH (V:=.agg #[I7 ((Qa1 alP Qdj 3).cart),.slice x16.1 (((Qa1 alP Qdj 3).lines).length) x16.2,.bool ((Qa1 alP Qdj 3).out),.int .u32 ((Qa1 alP Qdj 3).tick)]) (vs:=[I7 ((Qa1 alP Qdj 3).cart),.slice x16.1 (((Qa1 alP Qdj 3).lines).length) x16.2,.bool ((Qa1 alP Qdj 3).out),.int .u32 ((Qa1 alP Qdj 3).tick)]) (cs':=[I7 ((Qa1 alP Qdj 3).cart),.slice x16.1 (((Qa1 alP Qdj 3).lines).length) x16.2,.bool ((Qa1 alP Qdj 3).out),.int .u32 ((Qa1 alP Qdj 3).tick)]) Qc3.1 hs 7 rfl rfl rfl rfl rfl (QQ8 rfl) (Qaw rfl (Qaw rfl (Qaw rfl (Qaw rfl Qbg)))) (QaC rfl) fun w19 hs=>(Qaa (Qad (V:=I6 (Qbc alP Qdj)) rfl (Qaf (Qah (Qab (Qaa (QaJ (cs:=((vc vzero)++[(.slice none 0 0:Value),(.slice none 0 0:Value) ])++[(.slice (some ⟨b1,0,none⟩) 1 1:Value) ]++(vc alK)) QeH hs 1 rfl rfl rfl (Qaa (Qbm (V:=.agg (vc (vset vzero 0 1)).toArray) (V':=.agg (vc alK).toArray) (Qbx (vs:=[(0,.int .u32 1)]) (cs:=vc (vset vzero 0 1)) Qh9 (rfl) rfl ⟨rfl,rfl⟩) rfl (Qaa (Qbo (α:=(Option Addr × Nat) × (Option Addr × Nat)) (vs:=[.agg (((vc vzero)++[(.slice none 0 0:Value),(.slice none 0 0:Value) ])++[(.slice (some ⟨b1,0,none⟩) 1 1:Value) ]++(vc alK)).toArray,.agg (vc alK).toArray]) (V:=fun x:(Option Addr × Nat) × (Option Addr × Nat)=>.tuple #[.agg (vc (Qag alP alK).known++[(.slice x.1.1 ((Qag alP alK).ents).length x.1.2:Value),(.slice x.2.1 ((Qag alP alK).ticks).length x.2.2:Value)]).toArray,I6 (Qbc alP alK)]) (Lo:=fun x=>[row (.slice x.1.1 ((Qag alP alK).ents).length x.1.2) (((Qag alP alK).ents).map cec) 106 7,row (.slice x.2.1 ((Qag alP alK).ticks).length x.2.2) (((Qag alP alK).ticks).map lsc) 102 2]) (F:=fun _ _=>True) Qmp rfl rfl ?hc hs fun x21 w20 hs _=>?_))))))))))))))))))))
 case hc=>exact (Qd4 _ alP none 0 none 0 (some ⟨b1,0,none⟩) 1 alK Qib hsortE hsortU Qg8 (by decide) (by decide) (by decide) (Rd.nil _ 7) (Rd.nil _ 2) (hs.rd 0 rfl))
 replace hs:Own w no w20 [row (.slice (some ⟨b1,0,none⟩) 1 1) ([Qqf].map oc) 98 23,blk b3 (((vc vzero)++[(.slice none 0 0:Value),(.slice none 0 0:Value) ])++[(.slice (some ⟨b1,0,none⟩) 1 1:Value) ]++(vc alK)) 43,row (.slice x7.1 (((Qa1 alP alK 3).lines).length) x7.2) (((Qa1 alP alK 3).lines).map lc) 127 2,blk b8 [I7 ((Qa1 alP alK 3).cart),.slice x7.1 (((Qa1 alP alK 3).lines).length) x7.2,.bool ((Qa1 alP alK 3).out),.int .u32 ((Qa1 alP alK 3).tick)] 49,row (.slice x12.1 ((QcP alP vzero alK).length) x12.2) ((QcP alP vzero alK).map dfc) 83 5,row (.slice x14.1 ((abR alP alK 9 4).length) x14.2) ((abR alP alK 9 4).map (ic .u16)) 32 1,row (.slice x16.1 (((Qa1 alP Qdj 3).lines).length) x16.2) (((Qa1 alP Qdj 3).lines).map lc) 127 2,blk b17 [I7 ((Qa1 alP Qdj 3).cart),.slice x16.1 (((Qa1 alP Qdj 3).lines).length) x16.2,.bool ((Qa1 alP Qdj 3).out),.int .u32 ((Qa1 alP Qdj 3).tick)] 49,row (.slice x21.1.1 (((Qag alP alK).ents).length) x21.1.2) (((Qag alP alK).ents).map cec) 106 7,row (.slice x21.2.1 (((Qag alP alK).ticks).length) x21.2.2) (((Qag alP alK).ticks).map lsc) 102 2]:=hs
 refine Qaa (Qac (V:=.tuple #[.agg ((vc ((Qag alP alK).known))++[(.slice x21.1.1 (((Qag alP alK).ents).length) x21.1.2:Value),(.slice x21.2.1 (((Qag alP alK).ticks).length) x21.2.2:Value) ]).toArray,I6 (Qbc alP alK)]) rfl (Qaa (Qay (V:=.agg ((vc ((Qag alP alK).known))++[(.slice x21.1.1 (((Qag alP alK).ents).length) x21.1.2:Value),(.slice x21.2.1 (((Qag alP alK).ticks).length) x21.2.2:Value) ]).toArray) rfl rfl (Qaa (Qay (V:=I6 (Qbc alP alK)) rfl rfl (Qaa (QaM (cs:=(vc vzero)++[(.slice none 0 0:Value),(.slice none 0 0:Value) ]) QhF rfl hs fun b22 w23 hs=>(Qaa (QcH (V:=.agg ((vc ((Qag alP alK).known))++[(.slice x21.1.1 (((Qag alP alK).ents).length) x21.1.2:Value),(.slice x21.2.1 (((Qag alP alK).ticks).length) x21.2.2:Value) ]).toArray) (vs:=(vc ((Qag alP alK).known))++[(.slice x21.1.1 (((Qag alP alK).ents).length) x21.1.2:Value),(.slice x21.2.1 (((Qag alP alK).ticks).length) x21.2.2:Value) ]) (cs':=(vc ((Qag alP alK).known))++[(.slice x21.1.1 (((Qag alP alK).ents).length) x21.1.2:Value),(.slice x21.2.1 (((Qag alP alK).ticks).length) x21.2.2:Value) ]) QcD.1 hs 10 rfl rfl rfl rfl rfl (QQ8 rfl) (QbQ (Qcv _) (Qaw rfl (Qaw rfl Qbg))) (QaC rfl) fun w24 hs=>(Qaa (Qad (V:=I6 (Qbc alP alK)) rfl (Qaf (Qah ?_)))))))))))))
 have hdl:(QcP alP vzero alK).length=1:=by rw [QrH];rfl
 refine Qab (Qaa (Qac (V:=I6 (Qbc alP alK)) rfl (Qaa (Qbm (V:=.bool (decide (Qbc alP alK=0))) (V':=.bool true) (QaS rfl rfl ⟨rfl,rfl⟩) (congrArg Value.bool (QQ3 Qfd)) (Qaa (Qac (V:=.bool true) rfl (Qck rfl (Qae QdV rfl (Qck rfl (QaE (V:=.slice x7.1 (((Qa1 alP alK 3).lines).length) x7.2) QiG hs 3 rfl rfl rfl (Qck rfl (Qa4 (n:=((Qa1 alP alK 3).lines).length) QdD (hs.rd 2 rfl) (by simp) rfl (Qck rfl (Qbm (V:=.bool (decide (((((Qa1 alP alK 3).lines).length:Nat):Int)=1))) (V':=.bool true) (QaS rfl rfl ⟨rfl,rfl⟩) (congrArg Value.bool (by rw [Qq6];rfl)) (Qaa (QcS (V:=.bool true) rfl rfl (Qaa (Qac (V:=.bool true) rfl (Qck rfl (Qac (V:=I6 (Qc7 alP vzero alK)) rfl (Qck rfl (Qbm (V:=.bool (decide (Qc7 alP vzero alK=0))) (V':=.bool true) (QaS rfl rfl ⟨rfl,rfl⟩) (congrArg Value.bool (QQ3 Qud)) (Qaa (QcS (V:=.bool true) rfl rfl (Qaa (Qac (V:=.bool true) rfl (Qck rfl (Qac (V:=.slice x12.1 ((QcP alP vzero alK).length) x12.2) rfl (Qck rfl (Qa4 (n:=(QcP alP vzero alK).length) QsZ (hs.rd 4 rfl) (by simp) rfl (Qck rfl (Qbm (V:=.bool (decide ((((QcP alP vzero alK).length:Nat):Int)=1))) (V':=.bool true) (QaS rfl rfl ⟨rfl,rfl⟩) (congrArg Value.bool (by rw [QrH];rfl)) (Qaa (QcS (V:=.bool true) rfl rfl (Qaa (Qac (V:=.bool true) rfl (Qck rfl (Qac (V:=.slice x12.1 ((QcP alP vzero alK).length) x12.2) rfl (Qck rfl (Qax QsZ QiU.1 (hs.rd 4 rfl) rfl rfl (by decide) (by rw [QQ6];omega) (Qck rfl (Qa5 (j:=0) (vs:=dfc (gd (QcP alP vzero alK) 0)) 0 QiU (hs.rd 4 rfl) (QaW (by omega)) rfl rfl rfl (by omega) (Qck rfl (Qbx (vs:=[(0,I7 3),(1,I7 4),(4,.int .u32 2)]) (cs:=dfc (⟨3,4,false,0,2⟩:Dif)) Qrc (rfl) rfl (Qck rfl (Qbm (V:=.bool (decide (gd (QcP alP vzero alK) 0=(⟨3,4,false,0,2⟩:Dif)))) (V':=.bool true) (Qpd (xs:=dfc (gd (QcP alP vzero alK) 0)) (ys:=dfc (⟨3,4,false,0,2⟩:Dif)) Tryz.eqGuardType83 (Quy (gd (QcP alP vzero alK) 0) (⟨3,4,false,0,2⟩:Dif)) rfl rfl rfl ⟨rfl,rfl⟩) (congrArg Value.bool (by rw [QrH];rfl)) (Qaa (QcS (V:=.bool true) rfl rfl (Qaa (Qac (V:=.bool true) rfl (Qck rfl (Qac (V:=I6 (abI alP alK 9 4)) rfl (Qck rfl (Qbm (V:=.bool (decide (abI alP alK 9 4=0))) (V':=.bool true) (QaS rfl rfl ⟨rfl,rfl⟩) (congrArg Value.bool (QQ3 QtQ)) (Qaa (QcS (V:=.bool true) rfl rfl (Qaa (Qac (V:=.bool true) rfl (Qck rfl (Qac (V:=.slice x14.1 ((abR alP alK 9 4).length) x14.2) rfl (Qck rfl (Qa4 (n:=(abR alP alK 9 4).length) QaI (hs.rd 5 rfl) (by simp) rfl (Qck rfl (Qbm (V:=.bool (decide ((((abR alP alK 9 4).length:Nat):Int)=1))) (V':=.bool true) (QaS rfl rfl ⟨rfl,rfl⟩) (congrArg Value.bool (by rw [Qur];rfl)) (Qaa (QcS (V:=.bool true) rfl rfl (Qaa (Qac (V:=.bool true) rfl (Qck rfl (Qac (V:=I6 (Qbc alP Qdj)) rfl (Qck rfl (Qbm (V:=.bool (decide (Qbc alP Qdj=11))) (V':=.bool true) (QaS rfl rfl ⟨rfl,rfl⟩) (congrArg Value.bool (QQ3 QqM)) (Qaa (QcS (V:=.bool true) rfl rfl (Qaa (Qac (V:=.bool true) rfl (Qck rfl (Qac (V:=I6 (Qbc alP alK)) rfl (Qck rfl (Qbm (V:=.bool (decide (Qbc alP alK=0))) (V':=.bool true) (QaS rfl rfl ⟨rfl,rfl⟩) (congrArg Value.bool (QQ3 Qfd)) ?_))))))))))))))))))))))))))))))))))))))))))))))))))))))))))))))))))))))))))))))))
 refine Qaa (QcS (V:=.bool true) rfl rfl (Qaa (Qac (V:=.bool true) rfl (Qck rfl (Qae Qex rfl (Qck rfl (QaE (V:=.slice x21.1.1 (((Qag alP alK).ents).length) x21.1.2) Qjf hs 10 rfl rfl rfl (Qck rfl (Qa4 (n:=((Qag alP alK).ents).length) QbG (hs.rd 8 rfl) (by simp) rfl (Qck rfl (Qbm (V:=.bool (decide (((((Qag alP alK).ents).length:Nat):Int)=1))) (V':=.bool true) (QaS rfl rfl ⟨rfl,rfl⟩) (congrArg Value.bool (by rw [QqS];rfl)) (Qaa (QcS (V:=.bool true) rfl rfl (Qaa (Qac (V:=.bool true) rfl (Qck rfl (QaJ (cs:=((vc vzero)++[(.slice none 0 0:Value),(.slice none 0 0:Value) ])++[(.slice (some ⟨b1,0,none⟩) 1 1:Value) ]++(vc alK)) QeH hs 1 rfl rfl rfl (Qck rfl (Qbm (V:=.agg (vc (vset (vset vzero 0 0) 1 1)).toArray) (V':=.agg (vc QqO).toArray) (Qbx (vs:=[(0,.int .u32 0),(1,.int .u32 1)]) (cs:=vc (vset (vset vzero 0 0) 1 1)) Qh9 (rfl) rfl ⟨rfl,rfl⟩) rfl (Qck rfl (Qat (vs:=[.agg (((vc vzero)++[(.slice none 0 0:Value),(.slice none 0 0:Value) ])++[(.slice (some ⟨b1,0,none⟩) 1 1:Value) ]++(vc alK)).toArray,.agg (vc QqO).toArray]) (V:=I6 (Qbc alP QqO)) QsT rfl rfl ?hc hs fun w25 hs=>?_)))))))))))))))))))))
 case hc=>exact (Qmq _ alP none 0 none 0 (some ⟨b1,0,none⟩) 1 QqO QrT Qg8 (by decide) (by decide) (by decide) (Rd.nil _ 7) (Rd.nil _ 2) (hs.rd 0 rfl))
 refine Qck rfl (Qbm (V:=.bool (decide (Qbc alP QqO=11))) (V':=.bool true) (QaS rfl rfl ⟨rfl,rfl⟩) (congrArg Value.bool (QQ3 Qq5)) (Qaa (QcS (V:=.bool true) rfl rfl (Qaa (Qad (V:=.bool true) rfl (Qaf (Qav ?_)))))))
 refine ⟨_,Qar (V:=.bool true) Tryz.results10 rfl,(Zr hs ?_)⟩
 rfl
end Tt
end Go.Proofs
namespace Go.Proofs
open Go Go.Vx Go.RowKit
namespace Tt
theorem Qte (w:World) (a b:Option Addr) (c e:Nat) (l l2:List Int) (hr:Rd w (.slice a l.length c) 1 (l.map (ic .u16))) (hq:Rd w (.slice b l2.length e) 1 (l2.map (ic .u16))):Calls Tryz.prog 27 #[.slice a l.length c,.slice b l2.length e] w (fun e w'=>e = .returned (.bool (decide (l=l2)))/\Own w no w' []):=by
 refine Qaj (n:=26) Tryz.func27 rfl Tryz.ntmps27 rfl ?_
 have hs:=Own.start w
 have hn:=hr.sml
 refine Qah (Qab (Qaa (Qad (V:=.bool false) rfl (Qaf (Qah (Qah (Qab (Qaa (Qac (V:=.slice a l.length c) rfl (Qaa (Qa4 (n:=l.length) QaI (Rd.own' hr hs) (by simp) rfl (Qaa (Qac (V:=.slice b l2.length e) rfl (Qaa (Qa4 (n:=l2.length) QaI (Rd.own' hq hs) (by simp) rfl (Qaa (Qch rfl rfl (Qaf (Qao (t:=!decide (((l.length:Nat):Int)=((l2.length:Nat):Int))) rfl (fun c1=>?_) (fun c1=>?_))))))))))))))))))))
 ·
  replace c1:=Qbp c1
  replace c1:=QQ2 c1
  refine Qah (Qab (Qaa (Qad (V:=.bool false) rfl (Qaf (Qav ?_)))))
  refine ⟨_,Qar (V:=.bool false) Tryz.results27 rfl,(Zr hs (congrArg Value.bool (QQ4 fun e=>?_).symm))⟩
  subst e
  omega
 replace c1:=Qbf c1
 replace c1:=QQ1 c1
 refine Qaq (Qah (Qah (Qab (Qaa (Qac (V:=.slice a l.length c) rfl (Qaa (Qa4 (n:=l.length) QaI (Rd.own' hr hs) (by simp) rfl (Qaa (Qac (V:=I6 0) rfl (Qaf (Qan (QaA (fun J μ J' w'=>∃ (Jo:Env) (k:Nat),J'=upd (mix ([4,5]++sq 13 13) Jo J) 13 (I6 (k:Int))/\(k<=l.length)/\(∀ j:Nat,j<k->gd l j=gd l2 j)/\μ=l.length-k/\Own w no w' []) ?_ ?_))))))))))))
 ·exact ⟨_,_,0,Qai (Qap (ds:=([4,5]++sq 13 13)) (Agr.refl _ _)) rfl,(by omega),(fun j hj=>absurd hj (Nat.not_lt_zero j)),rfl,hs⟩
 rintro μ J' w2 ⟨Jo,k,rfl,hk,heq,rfl,hs⟩
 refine Qah (Qab (Qaa (QaQ rfl rfl (Qaf (Qah (Qao (t:=decide ((k:Int)<((l.length:Nat):Int))) rfl (fun c3=>?_) (fun c3=>?_)))))))
 ·
  replace c3:=QQ1 c3
  refine Qaq (Qah (Qan (Qah (Qab (Qaa (Qac (V:=I6 (k:Int)) rfl (Qaa (Qad (V:=I6 (k:Int)) rfl (Qaf (Qah (QaH HM [some 16,some 17,some 18,some 19,some 20,some 21,some 22,some 23,some 24] [] [0,0,3,7,0,0,48,112,255] [pv (.slice a l.length c),pv (I6 (k:Int)),pv (.pointer (some ⟨bkS (.slice a l.length c),ofS (.slice a l.length c)+(k:Int).toNat*1,none⟩)),pv (I7 (gd l k)),pv (.slice b l2.length e),pv (I6 (k:Int)),pv (.pointer (some ⟨bkS (.slice b l2.length e),ofS (.slice b l2.length e)+(k:Int).toNat*1,none⟩)),pv (I7 (gd l2 k)),pv (.bool (!decide (gd l k=gd l2 k)))] (fun _ _=>_) [8] (by kernel_rfl) hs ⟨?_,?_,?_,?_,?_,?_,?_,?_,?_,trivial⟩ ?_)))))))))))
  ·exact oa [] fun D J w hs=>Qac (V:=.slice a l.length c) rfl (Zz hs)
  ·exact oa [] fun D J w hs=>Qac (V:=.int .i64 (k:Int)) rfl (Zz hs)
  ·exact oa [0,1] fun D J w hs=>Qax QaI Qas.1 (Rd.own' hr hs) rfl rfl (by omega) (by rw [QQ6];omega) (Zz hs)
  ·exact oa [2] fun D J w hs=>QaP (j:=0) (V:=.int .u16 (gd l k)) k Qas (Rd.own' hr hs) (QaW (by omega)) rfl rfl (by omega) (Zz hs)
  ·exact oa [] fun D J w hs=>Qac (V:=.slice b l2.length e) rfl (Zz hs)
  ·exact oa [] fun D J w hs=>Qac (V:=.int .i64 (k:Int)) rfl (Zz hs)
  ·exact oa [4,5] fun D J w hs=>Qax QaI Qas.1 (Rd.own' hq hs) rfl rfl (by omega) (by rw [QQ6];omega) (Zz hs)
  ·exact oa [6] fun D J w hs=>QaP (j:=0) (V:=.int .u16 (gd l2 k)) k Qas (Rd.own' hq hs) (QaW (by omega)) rfl rfl (by omega) (Zz hs)
  ·exact oa [3,7] fun D J w hs=>Qch rfl rfl (Zz hs)
  rintro J1 w4 J2 hJ hs
  replace hJ:J2=upd (mix (sq 16 9) J1 _) 24 (.bool (!decide (gd l k=gd l2 k))):=hJ
  subst hJ
  refine Qao (t:=!decide (gd l k=gd l2 k)) rfl (fun c5=>?_) (fun c5=>?_)
  ·
   replace c5:=Qbp c5
   replace c5:=QQ2 c5
   refine Qah (Qab (Qaa (Qad (V:=.bool false) rfl (Qaf (Qav ?_)))))
   refine ⟨_,Qar (V:=.bool false) Tryz.results27 rfl,(Zr hs (congrArg Value.bool (QQ4 fun e=>?_).symm))⟩
   subst e
   exact c5 rfl
  replace c5:=Qbf c5
  replace c5:=QQ1 c5
  refine Qaq (Qab (Qaa (QaD (a:=(k:Int)) (b:=1) (c:=(k:Int)+1) rfl rfl (QbH (by omega) (by omega)) (Qaa (Qac (V:=I6 ((k:Int)+1)) rfl (Qaf ?_))))))
  refine ⟨_,?_,_,k+1,Qai (Qap (ds:=([4,5]++sq 13 13)) (by repeat (first|exact Agr.refl _ _|refine Agr.upd ?_ rfl|refine Agr.mix ?_ rfl))) rfl,(by omega),(QnF heq c5),rfl,hs.take 0⟩
  omega
 replace c3:=QQ2 c3
 refine QaG (Qah (Qab (Qaa (Qad (V:=.bool true) rfl (Qaf (Qav ?_))))))
 refine ⟨_,Qar (V:=.bool true) Tryz.results27 rfl,(Zr hs ?_)⟩
 exact congrArg Value.bool (QQ3 (Qmk (by omega) fun j hj=>heq j (by omega))).symm
end Tt
end Go.Proofs
namespace Go.Proofs
open Go Go.Vx Go.RowKit
namespace Tt
theorem cutsAbandoned_ok (w:World) (p:Pst) (a1:Option Addr) (c1:Nat) (a2:Option Addr) (c2:Nat) (a3:Option Addr) (c3:Nat) (cut:Vec) (now idle:Int) (hb2:(0<=now/\now<4294967296)/\0<=idle) (hsortE:QgQ Tryz.prog 48 49 cec 106 7 Qj2) (hsortU:QgI Tryz.prog 134 .u16 32) (hok:QcW p) (hcut:QbW cut) (hr1:Rd w (.slice a1 p.base.ents.length c1) 7 (p.base.ents.map cec)) (hr2:Rd w (.slice a2 p.base.ticks.length c2) 2 (p.base.ticks.map lsc)) (hr3:Rd w (.slice a3 p.ops.length c3) 23 (p.ops.map oc)):Calls Tryz.prog 5 #[.agg (((vc p.base.known)++[(.slice a1 p.base.ents.length c1:Value),(.slice a2 p.base.ticks.length c2:Value) ])++[(.slice a3 p.ops.length c3:Value) ]++(vc p.known)).toArray,.agg (vc cut).toArray,.agg #[.int .u32 now,.int .u32 idle]] w (fun e w'=>e = .returned (.bool true)/\Own w no w' []):=by
 refine Qaj (n:=45) Tryz.func5 rfl Tryz.ntmps5 rfl ?_
 have hs:=Own.start w
 refine Qah (Qab (Qaa (QaR (V:=.agg (((vc p.base.known)++[(.slice a1 p.base.ents.length c1:Value),(.slice a2 p.base.ticks.length c2:Value) ])++[(.slice a3 p.ops.length c3:Value) ]++(vc p.known)).toArray) (cs:=((vc p.base.known)++[(.slice a1 p.base.ents.length c1:Value),(.slice a2 p.base.ticks.length c2:Value) ])++[(.slice a3 p.ops.length c3:Value) ]++(vc p.known)) rfl rfl hs fun b1 w2 hs=>(Qaa (QaR (V:=.agg (vc cut).toArray) (cs:=vc cut) rfl rfl hs fun b3 w4 hs=>(Qaa (QaR (V:=.agg #[.int .u32 now,.int .u32 idle]) (cs:=[.int .u32 now,.int .u32 idle]) rfl rfl hs fun b5 w6 hs=>(Qaa (Qad (V:=.bool false) rfl (Qaf (Qah (Qah (Qab (Qaa (Qat (vs:=[]) (V:=.bool true) QvC rfl rfl ?hc hs fun w7 hs=>?_)))))))))))))))
 case hc=>exact (QkO _ hsortE hsortU)
 refine Qaa (Qbw rfl (Qaf (Qcr rfl ?_)))
 refine Qaq (Qah (Qah (Qab (Qaa (QaJ (cs:=((vc p.base.known)++[(.slice a1 p.base.ents.length c1:Value),(.slice a2 p.base.ticks.length c2:Value) ])++[(.slice a3 p.ops.length c3:Value) ]++(vc p.known)) QkB hs 0 rfl rfl rfl (Qaa (Qat (vs:=[.agg (((vc p.base.known)++[(.slice a1 p.base.ents.length c1:Value),(.slice a2 p.base.ticks.length c2:Value) ])++[(.slice a3 p.ops.length c3:Value) ]++(vc p.known)).toArray]) (V:=.bool (Qhq p.base&&decide (((p.ops.length:Nat):Int)<=30))) Qvx rfl rfl ?hc hs fun w8 hs=>?_)))))))
 case hc=>exact (Qqx _ p a1 c1 a2 c2 a3 c3 (Rd.own' hr1 hs) (Rd.own' hr2 hs) (Rd.own' hr3 hs))
 refine Qaa (Qbw rfl (Qaf (Qao (t:=!(Qhq p.base&&decide (((p.ops.length:Nat):Int)<=30))) rfl (fun c9=>?_) (fun c9=>?_))))
 ·
  replace c9:=Qbp c9
  refine Qah (Qab (Qaa (Qad (V:=.bool true) rfl (Qaf (Qav ?_)))))
  refine ⟨_,Qar (V:=.bool true) Tryz.results5 rfl,(Zr hs ?_)⟩
  rfl
 replace c9:=Qbf c9
 have c9r:=QbC c9
 replace c9:=QbA c9
 replace c9r:=QQ1 c9r
 refine Qaq (Qah ?_)
 have ⟨hf1,hf2⟩:=Qtb c9
 replace hs:=hs.more emp trivial
 replace hs:=hs.more emp trivial
 replace hs:=hs.more emp trivial
 refine QaH HM [some 17,some 18,some 19,some 20,some 21,some 22,some 23,some 24,some 16,some 25,some 26,some 7,some 8] [[],[18],[],[],[],[],[],[24],[24],[24],[],[24]] [0,1,0,0,8,0,32,127,255,511,511,1023,4095] [pv (.agg (((vc p.base.known)++[(.slice a1 p.base.ents.length c1:Value),(.slice a2 p.base.ticks.length c2:Value) ])++[(.slice a3 p.ops.length c3:Value) ]++(vc p.known)).toArray),(true,fun J=>.agg (((vc p.base.known)++[(.slice (aOf (Qbr (J 18) 16)) p.base.ents.length (cOf (Qbr (J 18) 16)):Value),(.slice (aOf (Qbr (J 18) 17)) p.base.ticks.length (cOf (Qbr (J 18) 17)):Value) ])++[(.slice a3 p.ops.length c3:Value) ]++(vc p.known)).toArray),pv (.agg (vc cut).toArray),pv (.pointer (some ⟨b5,0+(0:Int).toNat,none⟩)),pv (.int .u32 now),pv (.pointer (some ⟨b5,0+(1:Int).toNat,none⟩)),pv (.int .u32 idle),(true,fun J=>.tuple #[.slice (aOf (QgF (J 24) 0)) ((abR p cut now idle).length) (cOf (QgF (J 24) 0)),I6 (abI p cut now idle)]),(true,fun J=>.tuple #[.slice (aOf (QgF (J 24) 0)) ((abR p cut now idle).length) (cOf (QgF (J 24) 0)),I6 (abI p cut now idle)]),(true,fun J=>.slice (aOf (QgF (J 24) 0)) ((abR p cut now idle).length) (cOf (QgF (J 24) 0))),pv (I6 (abI p cut now idle)),(true,fun J=>.slice (aOf (QgF (J 24) 0)) ((abR p cut now idle).length) (cOf (QgF (J 24) 0))),pv (I6 (abI p cut now idle))] (fun D J=>[blk b1 (((vc p.base.known)++[(.slice a1 p.base.ents.length c1:Value),(.slice a2 p.base.ticks.length c2:Value) ])++[(.slice a3 p.ops.length c3:Value) ]++(vc p.known)) 31,blk b3 (vc cut) 24,blk b5 [.int .u32 now,.int .u32 idle] 68,cond (D 1) (row (.slice (aOf (Qbr (J 18) 16)) p.base.ents.length (cOf (Qbr (J 18) 16))) (p.base.ents.map cec) 106 7) (emp),cond (D 1) (row (.slice (aOf (Qbr (J 18) 17)) p.base.ticks.length (cOf (Qbr (J 18) 17))) (p.base.ticks.map lsc) 102 2) (emp),cond (D 7) (row (.slice (aOf (QgF (J 24) 0)) ((abR p cut now idle).length) (cOf (QgF (J 24) 0))) ((abR p cut now idle).map (ic .u16)) 32 1) (emp)]) [12,11] (by kernel_rfl) hs ⟨?_,?_,?_,?_,?_,?_,?_,?_,?_,?_,?_,?_,?_,trivial⟩ ?_
 ·exact oa [] fun D J w hs=>QaJ (cs:=((vc p.base.known)++[(.slice a1 p.base.ents.length c1:Value),(.slice a2 p.base.ticks.length c2:Value) ])++[(.slice a3 p.ops.length c3:Value) ]++(vc p.known)) QkB hs 0 rfl rfl rfl (Zz hs)
 ·exact oa [0] fun D J w hs=>Qbo (α:=(Option Addr × Nat) × (Option Addr × Nat)) (vs:=[.agg (((vc p.base.known)++[(.slice a1 p.base.ents.length c1:Value),(.slice a2 p.base.ticks.length c2:Value) ])++[(.slice a3 p.ops.length c3:Value) ]++(vc p.known)).toArray]) (V:=fun y=>.agg (((vc p.base.known)++[(.slice y.1.1 p.base.ents.length y.1.2:Value),(.slice y.2.1 p.base.ticks.length y.2.2:Value) ])++[(.slice a3 p.ops.length c3:Value) ]++(vc p.known)).toArray) (Lo:=fun y=>[row (.slice y.1.1 p.base.ents.length y.1.2) (p.base.ents.map cec) 106 7,row (.slice y.2.1 p.base.ticks.length y.2.2) (p.base.ticks.map lsc) 102 2]) (F:=fun _ _=>True) QuH rfl rfl (QkQ _ p a1 c1 a2 c2 a3 c3 hok (by omega) (by omega) (by omega) (Rd.own' hr1 hs) (Rd.own' hr2 hs) (Rd.own' hr3 hs)) hs fun _ _ hs _=>⟨rfl,hs.put2 3 4 (QQ8 rfl) (QQ8 rfl)⟩
 ·exact oa [] fun D J w hs=>QaJ (cs:=vc cut) QbB hs 1 rfl rfl rfl (Zz hs)
 ·exact oa [] fun D J w hs=>QbT Qpl QaY.1 rfl rfl (by decide) (by decide) (Zz hs)
 ·exact oa [3] fun D J w hs=>QaE (V:=.int .u32 now) QaY hs 2 rfl rfl rfl (Zz hs)
 ·exact oa [] fun D J w hs=>QbT Qpl QaY.1 rfl rfl (by decide) (by decide) (Zz hs)
 ·exact oa [5] fun D J w hs=>QaE (V:=.int .u32 idle) QaY hs 2 rfl rfl rfl (Zz hs)
 ·exact oa [1,2,4,6] fun D J w hs=>Qbo (vs:=[.agg (((vc p.base.known)++[(.slice (aOf (Qbr (J 18) 16)) p.base.ents.length (cOf (Qbr (J 18) 16)):Value),(.slice (aOf (Qbr (J 18) 17)) p.base.ticks.length (cOf (Qbr (J 18) 17)):Value) ])++[(.slice a3 p.ops.length c3:Value) ]++(vc p.known)).toArray,.agg (vc cut).toArray,.int .u32 now,.int .u32 idle]) (V:=fun x:Option Addr × Nat=>.tuple #[.slice x.1 (abR p cut now idle).length x.2,.int .i64 (abI p cut now idle)]) Qtz rfl rfl (Qpz _ p (aOf (Qbr (J 18) 16)) (cOf (Qbr (J 18) 16)) (aOf (Qbr (J 18) 17)) (cOf (Qbr (J 18) 17)) a3 c3 cut hcut now idle hb2 hsortE hsortU hok (by omega) (by omega) (by omega) (hs.rd 3 rfl) (hs.rd 4 rfl) (Rd.own' hr3 hs)) hs fun _ _ hs _=>⟨rfl,hs.put 5 (QQ8 rfl)⟩
 ·exact oa [7] fun D J w hs=>Qac (V:=.tuple #[.slice (aOf (QgF (J 24) 0)) ((abR p cut now idle).length) (cOf (QgF (J 24) 0)),.int .i64 (abI p cut now idle)]) rfl (Zz hs)
 ·exact oa [8] fun D J w hs=>Qay (V:=.slice (aOf (QgF (J 24) 0)) ((abR p cut now idle).length) (cOf (QgF (J 24) 0))) rfl rfl (Zz hs)
 ·exact oa [8] fun D J w hs=>Qay (V:=.int .i64 (abI p cut now idle)) rfl rfl (Zz hs)
 ·exact oa [9] fun D J w hs=>Qad (V:=.slice (aOf (QgF (J 24) 0)) ((abR p cut now idle).length) (cOf (QgF (J 24) 0))) rfl (Zz hs)
 ·exact oa [10] fun D J w hs=>Qad (V:=.int .i64 (abI p cut now idle)) rfl (Zz hs)
 rintro J1 w12 J2 hJ hs
 replace hJ:J2=upd (upd (mix (sq 17 8++[16,25,26,7,8]) J1 _) 7 (.slice (aOf (QgF (J1 24) 0)) ((abR p cut now idle).length) (cOf (QgF (J1 24) 0)))) 8 (I6 (abI p cut now idle)):=hJ
 replace hs:Own w no w12 [blk b1 (((vc p.base.known)++[(.slice a1 p.base.ents.length c1:Value),(.slice a2 p.base.ticks.length c2:Value) ])++[(.slice a3 p.ops.length c3:Value) ]++(vc p.known)) 31,blk b3 (vc cut) 24,blk b5 [.int .u32 now,.int .u32 idle] 68,row (.slice (aOf (Qbr (J1 18) 16)) p.base.ents.length (cOf (Qbr (J1 18) 16))) (p.base.ents.map cec) 106 7,row (.slice (aOf (Qbr (J1 18) 17)) p.base.ticks.length (cOf (Qbr (J1 18) 17))) (p.base.ticks.map lsc) 102 2,row (.slice (aOf (QgF (J1 24) 0)) ((abR p cut now idle).length) (cOf (QgF (J1 24) 0))) ((abR p cut now idle).map (ic .u16)) 32 1]:=hs
 generalize (aOf (Qbr (J1 18) 16))=na13 at hs
 generalize (cOf (Qbr (J1 18) 16))=nc14 at hs
 generalize (aOf (Qbr (J1 18) 17))=na15 at hs
 generalize (cOf (Qbr (J1 18) 17))=nc16 at hs
 generalize (aOf (QgF (J1 24) 0))=a17 at hJ hs
 generalize (cOf (QgF (J1 24) 0))=c18 at hJ hs
 subst hJ
 refine Qah (Qab (Qaa (QaJ (cs:=((vc p.base.known)++[(.slice a1 p.base.ents.length c1:Value),(.slice a2 p.base.ticks.length c2:Value) ])++[(.slice a3 p.ops.length c3:Value) ]++(vc p.known)) QkB hs 0 rfl rfl rfl (Qaa (QaJ (cs:=vc cut) QbB hs 1 rfl rfl rfl (Qaa (QbT Qpl QaY.1 rfl rfl (by decide) (by decide) (Qaa (QaE (V:=.int .u32 now) QaY hs 2 rfl rfl rfl (Qaa (QbT Qpl QaY.1 rfl rfl (by decide) (by decide) (Qaa (QaE (V:=.int .u32 idle) QaY hs 2 rfl rfl rfl (Qaa (Qbo (vs:=[.agg (((vc p.base.known)++[(.slice a1 p.base.ents.length c1:Value),(.slice a2 p.base.ticks.length c2:Value) ])++[(.slice a3 p.ops.length c3:Value) ]++(vc p.known)).toArray,.agg (vc cut).toArray,.int .u32 now,.int .u32 idle]) (V:=fun x:Option Addr × Nat=>.tuple #[.slice x.1 (abR p cut now idle).length x.2,I6 (abI p cut now idle)]) QuZ rfl rfl (Qtu _ p a1 c1 a2 c2 a3 c3 cut hcut now idle hb2  hok (by omega) (by omega) (by omega) (Rd.own' hr1 hs) (Rd.own' hr2 hs) (Rd.own' hr3 hs)) hs fun x20 w19 hs _=>?_)))))))))))))))
 replace hs:Own w no w19 [blk b1 (((vc p.base.known)++[(.slice a1 p.base.ents.length c1:Value),(.slice a2 p.base.ticks.length c2:Value) ])++[(.slice a3 p.ops.length c3:Value) ]++(vc p.known)) 31,blk b3 (vc cut) 24,blk b5 [.int .u32 now,.int .u32 idle] 68,row (.slice na13 p.base.ents.length nc14) (p.base.ents.map cec) 106 7,row (.slice na15 p.base.ticks.length nc16) (p.base.ticks.map lsc) 102 2,row (.slice a17 ((abR p cut now idle).length) c18) ((abR p cut now idle).map (ic .u16)) 32 1,row (.slice x20.1 ((abR p cut now idle).length) x20.2) ((abR p cut now idle).map (ic .u16)) 32 1]:=hs
 refine Qaa (Qac (V:=.tuple #[.slice x20.1 ((abR p cut now idle).length) x20.2,I6 (abI p cut now idle)]) rfl (Qaa (Qay (V:=.slice x20.1 ((abR p cut now idle).length) x20.2) rfl rfl (Qaa (Qay (V:=I6 (abI p cut now idle)) rfl rfl (Qaa (Qad (V:=.slice x20.1 ((abR p cut now idle).length) x20.2) rfl (Qaa (Qad (V:=I6 (abI p cut now idle)) rfl (Qaf (Qah (Qbh [some 37,some 38,some 39,some 40,some 41,some 42,some 43,some 44,some 6] [] [0,0,3,7,15,15,63,127,255] [pv (.slice a17 ((abR p cut now idle).length) c18),pv (.slice x20.1 ((abR p cut now idle).length) x20.2),pv (.bool true),pv (.bool true),pv (I6 (abI p cut now idle)),pv (I6 (abI p cut now idle)),pv (.bool true),pv (.bool true),pv (.bool true)] (fun _ _=>_) [8] (by kernel_rfl) hs ⟨?_,?_,?_,?_,?_,?_,?_,?_,?_,trivial⟩ ?_))))))))))))
 ·exact oa [] fun D J w hs=>Qac (V:=.slice a17 ((abR p cut now idle).length) c18) rfl (Zz hs)
 ·exact oa [] fun D J w hs=>Qac (V:=.slice x20.1 ((abR p cut now idle).length) x20.2) rfl (Zz hs)
 ·exact oa [0,1] fun D J w hs=>Qki (V':=.bool true) (congrArg Value.bool (by simp)) (vs:=[.slice a17 ((abR p cut now idle).length) c18,.slice x20.1 ((abR p cut now idle).length) x20.2]) (V:=.bool (decide (abR p cut now idle=abR p cut now idle))) Qvp rfl rfl (Qte _ a17 x20.1 c18 x20.2 (abR p cut now idle) (abR p cut now idle) (hs.rd 5 rfl) (hs.rd 6 rfl)) hs fun _ hs=>Zz hs
 ·exact oa [2] fun D J w hs=>Qac (V:=.bool true) rfl (Zz hs)
 ·exact obg [3] [] true rfl (fun _=>rfl) rfl (fun _ _ _ h=>nomatch h) fun D J w _ hs=>Qac (V:=I6 (abI p cut now idle)) rfl (Zz hs)
 ·exact obg [3] [] true rfl (fun _=>rfl) rfl (fun _ _ _ h=>nomatch h) fun D J w _ hs=>Qac (V:=I6 (abI p cut now idle)) rfl (Zz hs)
 ·exact obg [3,4,5] [] true rfl (fun _=>rfl) rfl (fun _ _ _ h=>nomatch h) fun D J w _ hs=>Qbm (V:=.bool (decide (abI p cut now idle=abI p cut now idle))) (V':=.bool true) (QaS rfl rfl ⟨rfl,rfl⟩) (congrArg Value.bool (by simp)) (Zz hs)
 ·exact oa [3,6] fun D J w hs=>QcS (V:=.bool true) rfl rfl (Zz hs)
 ·exact oa [7] fun D J w hs=>Qad (V:=.bool true) rfl (Zz hs)
 rintro J1 w22 J2 hJ hs
 replace hJ:J2=upd (mix (sq 37 8++[6]) J1 _) 6 (.bool true):=hJ
 subst hJ
 refine Qav ?_
 refine ⟨_,Qar (V:=.bool true) Tryz.results5 rfl,(Zr hs ?_)⟩
 rfl
end Tt
end Go.Proofs
namespace Go.Vx
open Go.RowKit Go.ChangeShapes Go.WideShapes Go.ChangeAt
theorem Qoj {P:Program} {t tS tv s1 s2 s3 e1 e2 e3:TypeId} {f0 f1 f2 q0 q1 q2:Field} (ht:P.underlying t=some (.struct #[f0,f1,f2])) (hoff:[f0.offset,f1.offset,f2.offset]=[0,18,19]) (hty:[f0.type,f1.type,f2.type]=[tS,s3,tv])
  (hS:P.underlying tS=some (.struct #[q0,q1,q2])) (hoffS:[q0.offset,q1.offset,q2.offset]=[0,16,17]) (htyS:[q0.type,q1.type,q2.type]=[tv,s1,s2])
  (hV:Qc4 P tv vc QbW) (u1:P.underlying s1=some (.slice e1)) (hE:Qc4 P e1 cec Qe5) (u2:P.underlying s2=some (.slice e2)) (hL:Qc4 P e2 lsc Qgd) (u3:P.underlying s3=some (.slice e3)) (hO:Qc4 P e3 oc Qdg)
  (hc:[P.cellsOf tv,P.cellsOf s1,P.cellsOf s2,P.cellsOf s3,P.cellsOf e1,P.cellsOf e2,P.cellsOf e3,P.cellsOf tS,P.cellsOf t]=[16,1,1,1,7,2,23,18,35]) (hts:(P.cellTypes P.depth t).map (fun ts=>(ts.length,ts[16]?,ts[17]?,ts[18]?))=some (35,some s1,some s2,some s3))
  {H:Type} {enc:TypeId × Value->H} {w:World} {r:Reach} {b0 base:Nat} {spare:Nat->Bool} {held:Bool} {v:Value} {d:DataW H} {ps:List MemPlace}
  (hv:Value.okWide P w r b0 t v) (h:DataW.Trod enc P w base spare held t v d ps) :
  ∃ (x:Pst) (a:Option Addr) (c:Nat) (b:Option Addr) (e:Nat) (a3:Option Addr) (c3:Nat),v = .agg ((vc x.base.known++[(.slice a x.base.ents.length c:Value),(.slice b x.base.ticks.length e:Value)])++[(.slice a3 x.ops.length c3:Value)]++vc x.known).toArray/\QcW x /\
   Rd w (.slice a x.base.ents.length c) 7 (x.base.ents.map cec)/\Rd w (.slice b x.base.ticks.length e) 2 (x.base.ticks.map lsc)/\Rd w (.slice a3 x.ops.length c3) 23 (x.ops.map oc):=by
 unfold Value.okWide at hv
 rw [ht] at hv
 obtain ⟨cs,rfl,hsz,ts,hts',_,hcell⟩:=hv
 obtain ⟨fuel,h⟩:=h
 have h':DataW.trod enc P w base spare held fuel t cs.toList=some (d,ps):=h
 obtain ⟨xs,n,_,_,hl,hxl,hx⟩:=DataW.trod_struct ht h'
 simp only [List.cons.injEq,and_true] at hoff hty hc hoffS htyS
 obtain ⟨o0,o1,o2⟩:=hoff
 obtain ⟨t0,t1,t2⟩:=hty
 obtain ⟨p0,p1,p2⟩:=hoffS
 obtain ⟨y0,y1,y2⟩:=htyS
 obtain ⟨cv,k1,k2,k3,k4,k5,k6,k7,k8⟩:=hc
 rw [k8] at hl
 rw [hts'] at hts
 simp only [Option.map_some,Option.some.injEq,Prod.mk.injEq] at hts
 obtain ⟨hlen,hs1,hs2,hs3⟩:=hts
 have g0:=hx 0 f0 rfl
 have g1:=hx 1 f1 rfl
 have g2:=hx 2 f2 rfl
 have hx2:xs.length=3:=by simpa using hxl
 rw [List.getElem?_eq_getElem (by omega)] at g0 g1 g2
 rw [o0,t0,k7] at g0
 rw [o1,t1,k3] at g1
 rw [o2,t2,cv] at g2
 obtain ⟨ys,m,_,_,hl2,hyl,hy⟩:=DataW.trod_struct hS g0
 have j0:=hy 0 q0 rfl
 have j1:=hy 1 q1 rfl
 have j2:=hy 2 q2 rfl
 have hy2:ys.length=3:=by simpa using hyl
 rw [List.getElem?_eq_getElem (by omega)] at j0 j1 j2
 rw [p0,y0,cv,List.drop_zero,List.drop_zero,List.take_take,Nat.min_eq_left (by decide)] at j0
 rw [p1,y1,k1,List.drop_zero,List.drop_take,List.take_take,Nat.min_eq_left (by decide)] at j1
 rw [p2,y2,k2,List.drop_zero,List.drop_take,List.take_take,Nat.min_eq_left (by decide)] at j2
 obtain ⟨kn,hkn,e0⟩:=hV _ _ _ _ _ _ _ _ _ j0
 obtain ⟨kn2,hkn2,e4⟩:=hV _ _ _ _ _ _ _ _ _ g2
 have a1:(cs.toList.drop 16).take 1=[cs.toList[16]'(by omega)]:=by rw [List.drop_eq_getElem_cons (by omega)];rfl
 have a2:(cs.toList.drop 17).take 1=[cs.toList[17]'(by omega)]:=by rw [List.drop_eq_getElem_cons (by omega)];rfl
 have a3:(cs.toList.drop 18).take 1=[cs.toList[18]'(by omega)]:=by rw [List.drop_eq_getElem_cons (by omega)];rfl
 have hsp:cs.toList=cs.toList.take 16++[cs.toList[16]'(by omega),cs.toList[17]'(by omega)]++[cs.toList[18]'(by omega)]++(cs.toList.drop 19).take 16:=by
  have hd:(cs.toList.drop 19).take 16=cs.toList.drop 19:=List.take_of_length_le (by rw [List.length_drop];omega)
  rw [hd]
  simp only [List.append_assoc,List.cons_append,List.nil_append]
  rw [← List.drop_eq_getElem_cons (by omega),← List.drop_eq_getElem_cons (by omega),← List.drop_eq_getElem_cons (by omega),List.take_append_drop]
 generalize hz1:cs.toList[16]'(by omega)=z1 at a1 hsp
 generalize hz2:cs.toList[17]'(by omega)=z2 at a2 hsp
 generalize hz3:cs.toList[18]'(by omega)=z3 at a3 hsp
 rw [a1] at j1
 rw [a2] at j2
 rw [a3] at g1
 have i1:cs[16]?=some z1:=by rw [← hz1,← Array.getElem?_toList];exact List.getElem?_eq_getElem _
 have i2:cs[17]?=some z2:=by rw [← hz2,← Array.getElem?_toList];exact List.getElem?_eq_getElem _
 have i3:cs[18]?=some z3:=by rw [← hz3,← Array.getElem?_toList];exact List.getElem?_eq_getElem _
 obtain ⟨yy1,hy1,w1⟩:=hcell 16 z1 i1
 obtain ⟨yy2,hyy2,w2⟩:=hcell 17 z2 i2
 obtain ⟨yy3,hy3,w3⟩:=hcell 18 z3 i3
 rw [hlen,show 16%35=16 by rfl,hs1] at hy1
 rw [hlen,show 17%35=17 by rfl,hs2] at hyy2
 rw [hlen,show 18%35=18 by rfl,hs3] at hy3
 cases hy1
 cases hyy2
 cases hy3
 have v1:Value.okWide P w r b0 s1 z1:=by unfold Value.okWide;rw [u1];exact w1
 have v2:Value.okWide P w r b0 s2 z2:=by unfold Value.okWide;rw [u2];exact w2
 have v3:Value.okWide P w r b0 s3 z3:=by unfold Value.okWide;rw [u3];exact w3
 obtain ⟨_,_,_,hw1⟩:=okWide_slice u1 v1
 obtain ⟨_,_,_,hw2⟩:=okWide_slice u2 v2
 obtain ⟨_,_,_,hw3⟩:=okWide_slice u3 v3
 have tr1:DataW.Trod enc P w base spare held s1 z1 (ys[1].1) (ys[1].2):=⟨m,by subst hw1;exact j1⟩
 have tr2:DataW.Trod enc P w base spare held s2 z2 (ys[2].1) (ys[2].2):=⟨m,by subst hw2;exact j2⟩
 have tr3:DataW.Trod enc P w base spare held s3 z3 (xs[1].1) (xs[1].2):=⟨n,by subst hw3;exact g1⟩
 obtain ⟨a,c,l1,hv1,hok1,hr1⟩:=Qgi u1 hE (fun _=>rfl) k4 v1 tr1
 obtain ⟨b,e,l2,hv2,hok2,hr2⟩:=Qgi u2 hL (fun _=>rfl) k5 v2 tr2
 obtain ⟨a',c',l3,hv3,hok3,hr3⟩:=Qgi u3 hO (fun _=>rfl) k6 v3 tr3
 refine ⟨⟨⟨kn,l1,l2⟩,l3,kn2⟩,a,c,b,e,a',c',?_,⟨⟨hkn,hok1,hok2⟩,hok3,hkn2⟩,hr1,hr2,hr3⟩
 rw [e0,e4,hv1,hv2,hv3] at hsp
 congr 1
 rw [← hsp]
end Go.Vx
namespace Go.Vx
open Go.RowKit Go.ChangeShapes Go.WideShapes Go.ChangeAt
def pn2 (p:Int × Int):List Value:=[.int .u32 p.1,.int .u32 p.2]
theorem Qun {P:Program} {t el:TypeId} (ht:P.underlying t=some (.array 2 el)) (he:P.underlying el=some (.int .u32)) (hc:P.cellsOf el=1) (hct:P.cellsOf t=2):Qc4 P t pn2 (fun p=>(0<=p.1/\p.1<4294967296)/\(0<=p.2/\p.2<4294967296)):=by
 intro H enc w base spare held fuel cs x h
 obtain ⟨xs,m,_,_,hl,hxl,hx⟩:=DataW.trod_array ht h
 rw [hct] at hl
 have each:∀ i,i<2->∃ a,inK .u32 a/\cs[i]?=some (.int .u32 a):=by
  intro i hi
  have h1:=hx i hi
  rw [hc,List.getElem?_eq_getElem (by omega)] at h1
  obtain ⟨a,ha,he⟩:=Qen he _ _ _ _ _ _ _ _ _ h1
  refine ⟨a,ha,?_⟩
  have h2:((cs.drop (i*1)).take 1)[0]?=some (.int .u32 a):=by rw [he];rfl
  simpa [List.getElem?_take,List.getElem?_drop] using h2
 obtain ⟨a,ha,e0⟩:=each 0 (by omega)
 obtain ⟨b,hb,e1⟩:=each 1 (by omega)
 refine ⟨(a,b),⟨Qfp ha,Qfp hb⟩,?_⟩
 match cs,hl,e0,e1 with
 | [x,y],_,e0,e1 =>
  cases e0
  cases e1
  rfl
end Go.Vx
namespace Go.Proofs.YtbjbjboehjdcaaaGreat
open Go.RowKit Go.Vx
theorem Tryz.own:ownKnob Tryz.prog.godebug=none:=by kernel_rfl
theorem Tryz.laidOut:laidOutB Tryz.prog=true:=by kernel_rfl
theorem O24:Qc4 Tryz.prog 24 vc QbW:=QuS Tryz.underlying24 Tryz.underlying22 (by kernel_rfl) (by kernel_rfl)
theorem O96:Qc4 Tryz.prog 96 dc QcU:=Qvo Tryz.underlying96 rfl rfl Tryz.underlying5 Tryz.underlying22 (by kernel_rfl) (by kernel_rfl) (by kernel_rfl)
theorem O98:Qc4 Tryz.prog 98 oc Qdg:=Quo Tryz.underlying98 rfl rfl O96 O24 Tryz.underlying5 Tryz.underlying32 Tryz.underlying32 Tryz.underlying32 Tryz.underlying22 (by kernel_rfl) (by kernel_rfl)
theorem O119:Qc4 Tryz.prog 119 cec Qe5:=QvV Tryz.underlying119 rfl rfl O96 Tryz.underlying32 Tryz.underlying32 Tryz.underlying32 Tryz.underlying5 Tryz.underlying104 (by kernel_rfl) (by kernel_rfl)
theorem O125:Qc4 Tryz.prog 125 lsc Qgd:=Qu5 Tryz.underlying125 rfl Tryz.underlying32 Tryz.underlying22 (by kernel_rfl) (by kernel_rfl)
theorem O68:Qc4 Tryz.prog 68 pn2 (fun p=>(0<=p.1/\p.1<4294967296)/\(0<=p.2/\p.2<4294967296)):=Qun (P:=Tryz.prog) Tryz.underlying68 Tryz.underlying22 (by kernel_rfl) (by kernel_rfl)
end Go.Proofs.YtbjbjboehjdcaaaGreat
namespace Go.Vx
open Go.RowKit Go.Shelf Go.Sort Go.Proofs
theorem Qor {w w':World} {L:List Res} (h:Own w no w' L):∃ q os,w'=grow (w.drewN q) os:=by
 refine ⟨w'.drawn-w.drawn,w'.heap.extract w.heap.size w'.heap.size,?_⟩
 have hd:w.drawn+(w'.drawn-w.drawn)=w'.drawn:=by have:=h.tape.2;omega
 have hh:w.heap++w'.heap.extract w.heap.size w'.heap.size=w'.heap:=by
  apply Array.ext_getElem?
  intro i
  by_cases hi:i<w.heap.size
  ·rw [Array.getElem?_append_left hi,h.old i hi (fun h=>h)]
  rw [Array.getElem?_append_right (by omega)]
  have:=h.size
  simp only [Array.getElem?_extract]
  split
  ·congr 1;omega
  rw [Array.getElem?_eq_none (by omega)]
 have h1:=h.os
 have h2:=h.tape.1
 have h3:=h.output
 cases w' with
 | mk heap tape drawn os output =>
  cases w with
  | mk heap0 tape0 drawn0 os0 output0 =>
   simp only at h1 h2 h3 hd hh
   subst h1;subst h2;subst h3
   simp [grow,World.drewN,hh,hd]
section
variable {P:Program} {J:Ren} {α:Type} [Inhabited α]
theorem Qkr {enc:α->List Value} {k:Nat} {l:List α} (hk:∀ x,(enc x).length=k) {j:Nat} (hj:j<l.length*k):(l.map enc).flatten[j]?=some (flatK enc k l.toArray)[j]!:=by
 have hk0:0<k:=by
  rcases Nat.eq_zero_or_pos k with h|h
  ·subst h;simp at hj
  exact h
 have hi:j/k<l.length:=Nat.div_lt_of_lt_mul (by rw [Nat.mul_comm];exact hj)
 have hm:j%k<k:=Nat.mod_lt _ hk0
 have e1:(l.map enc)[j/k]?=some (enc l[j/k]):=by simp [hi]
 have e2:(enc l[j/k])[j%k]?=some (enc l[j/k])[j%k]!:=by
  rw [List.getElem?_eq_getElem (by rw [hk];exact hm),List.getElem!_eq_getElem?_getD,List.getElem?_eq_getElem (by rw [hk];exact hm)]
  rfl
 have h:=Qhu (l.map enc) k (Qbd hk l) (j/k) (j%k) _ _ e1 e2
 rw [Nat.mul_comm,Nat.div_add_mod] at h
 rw [h,get_flatK enc k l.toArray j (by simpa using hj)]
 simp [hi]
theorem Qkz {enc:α->List Value} {k:Nat} {w:World} {S:Nat->Prop} {g cap T n:Nat} {l m:List α} {os:Array Obj} (hk:∀ x,(enc x).length=k) (h1:∀ x,∀ v∈enc x,v.oneCell'=true)
  (hR:(row (.slice (some ⟨g,0,none⟩) l.length cap) (l.map enc) T k).holds w S) (hlt:∀ b,S b->b<w.heap.size) (hlen:m.length=l.length) :
  Own w S (sortWorldK enc k w g 0 n m.toArray os) [row (.slice (some ⟨g,0,none⟩) l.length cap) (m.map enc) T k]:=by
 obtain ⟨_,hown,hS⟩:=hR
 have hSg:=hS g rfl
 have hgl:=hlt g hSg
 rcases hown.2 with ⟨hv,_⟩|⟨g',cap',cur,hv,_,hg,hnc,hcm,hcs,htake⟩
 ·cases hv
 simp only [Value.slice.injEq,Option.some.injEq,Addr.mk.injEq,and_true] at hv
 obtain ⟨rfl,hn,rfl⟩:=hv
 simp only [QQ6] at hnc htake hn
 have hX:∀ c,c<w.heap.size->(sortWorldK enc k w g 0 n m.toArray os).heap[c]?=(w.heap.modify g (onCells (putCells id 0 (flatK enc k m.toArray))))[c]?:=by
  intro c hc
  show ((w.heap.modify g (onCells (putCells id 0 (flatK enc k m.toArray))))++os)[c]?=_
  rw [Array.getElem?_append_left (by simpa using hc)]
 have hXg:(sortWorldK enc k w g 0 n m.toArray os).heap[g]?=some (.cells (putCells id 0 (flatK enc k m.toArray) cur) T (0,0)):=by
  rw [hX g hgl,Array.getElem?_modify,if_pos rfl,hg];rfl
 have hXo:∀ c,c<w.heap.size->c≠g->(sortWorldK enc k w g 0 n m.toArray os).heap[c]?=w.heap[c]?:=by
  intro c hc hne
  rw [hX c hc,Array.getElem?_modify,if_neg (fun e=>hne e.symm)]
 have hsz:(sortWorldK enc k w g 0 n m.toArray os).heap.size=w.heap.size+os.size:=by
  show ((w.heap.modify g (onCells (putCells id 0 (flatK enc k m.toArray))))++os).size=_
  simp
 refine ⟨rfl,⟨rfl,Nat.le_add_right _ _⟩,rfl,by omega,fun b hb hm=>hXo b hb (fun e=>hm (e ▸ hSg)),fun j b=>j=0/\b=g,fun j R hj=>?_,fun j b hb=>by rw [hb.2];omega,fun j j' b hb hb'=>hb.1.trans hb'.1.symm,fun j b hb _=>by rw [hb.2];exact hSg⟩
 cases j with
 | succ j=>simp at hj
 | zero =>
  simp only [List.getElem?_cons_zero,Option.some.injEq] at hj
  subst hj
  refine ⟨⟨Qbd hk m,QaK h1 m⟩,⟨?_,.inr ⟨g,cap,_,by rw [QQ6,hlen],Nat.zero_le _,hXg,by rw [QQ6];omega,hcm,by unfold putCells;simpa using hcs,?_⟩⟩,fun g' hg'=>by cases hg';exact ⟨rfl,rfl⟩⟩
  ·rw [QdF _ (Qbd hk m)]
  apply List.ext_getElem?
  intro j
  rw [List.getElem?_take,QQ6]
  by_cases hj:j<m.length*k
  ·have hjc:j<cur.size:=by
    rw [hcs]
    exact Nat.lt_of_lt_of_le hj (Nat.mul_le_mul_right _ (by omega))
   rw [if_pos hj,Qkr hk hj,Array.getElem?_toList]
   unfold putCells
   rw [Array.getElem?_mapIdx,Array.getElem?_eq_getElem hjc]
   simp [hj]
  rw [if_neg hj,List.getElem?_eq_none (by rw [QdF _ (Qbd hk m),QQ6];omega)]
theorem Qpb (L:SlLaysF0.n6 P J) {k T g:Nat} {enc:α->List Value} {cf:α->α->Int} (aE:∀ w,(isAgg (J.t 24)).run P w = .ok true w) (zE:∀ w,(Go.sizeOf (J.t 24)).run P w = .ok k w) (hk:∀ x,(enc x).length=k) (h1:∀ x,∀ v∈enc x,v.oneCell'=true)
  (hO:SWO (ltOf cf)) (hg:En P g) (hc:∀ w x y,Calls P g #[.agg (enc x).toArray,.agg (enc y).toArray] w fun e w'=>e = .returned (.int .i64 (cf x y))/\Own w no w' [])
  (hnil:∀ w,Calls P (J.f 6) #[.slice none 0 0,.func (.func g) #[] #[]] w fun e w'=>e = .returned (.tuple #[])/\w'=w) :
  QgQ P (J.f 6) g enc T k (fun l m=>m.Perm l/\m.Pairwise fun x y=>¬cf y x<0):=by
 intro w S a c l hR hlt hsz
 have hR':=hR
 obtain ⟨_,hown,hS⟩:=hR
 rcases hown.2 with ⟨hv,hn⟩|⟨b,cap,cur,hv,_,hb,hnc,hcm,hcs,htake⟩
 ·have hl:l=[]:=by simpa using hn
  subst hl
  simp only [List.length_nil,Value.slice.injEq] at hv
  obtain ⟨rfl,_,rfl⟩:=hv
  exact (hnil w).mono fun e w' ⟨he,hw⟩=>⟨⟨[],List.Perm.refl _,List.Pairwise.nil⟩,he,by subst hw;exact Own.lent hR' hlt,trivial⟩
 simp only [Value.slice.injEq,QQ6] at hv
 obtain ⟨rfl,_,rfl⟩:=hv
 have hbl:=hlt b (hS b rfl)
 have hH:HoldsK enc k w b 0 l.toArray:=by
  intro j hj
  have hj':j<l.length*k:=by simpa using hj
  rw [Nat.zero_add]
  refine ⟨?_,frozen_of_row w b _ _ _ hb⟩
  rw [cell_of_row w b j _ _ _ hb]
  have h2:=Qkr (l:=l) hk hj'
  rw [← htake,List.getElem?_take,QQ6,if_pos hj'] at h2
  simpa using h2
 have hcmp:CmpLays P g #[] enc k cf b 0 l.toArray.size w:=fun m os dk _ x y =>
  (hc _ x y).mono fun e w' ⟨he,ho⟩=>⟨he,Qor ho⟩
 refine (AnyQ.slices_SortFunc L k aE zE enc hk h1 cf hO g #[] b 0 c l.toArray w hg hcmp hH hbl (by simpa using hsz)).mono ?_
 rintro e w' ⟨he,d',n,os,hp,hs,rfl⟩
 obtain ⟨hp1,_,hp2⟩:=hp
 have hsz':d'.toList.length=l.length:=by simpa using hp1
 refine ⟨⟨d'.toList,?_,?_⟩,he,?_,trivial⟩
 ·have e1:d'.extract 0 l.toArray.size=d':=by rw [← hp1];simp
  have e2:l.toArray.extract 0 l.toArray.size=l.toArray:=by simp
  rw [e1,e2] at hp2
  simpa using hp2
 ·rw [List.pairwise_iff_getElem]
  intro i j hi hj hij
  have h3:=hs i j (Nat.zero_le _) hij (by rw [← hp1];simpa using hj)
  unfold ltOf at h3
  have e1:d'[i]! = d'.toList[i]:=by simp at hi;simp [hi]
  have e2:d'[j]! = d'.toList[j]:=by simp at hj;simp [hj]
  rw [e1,e2] at h3
  simpa using h3
 have:=Qkz (n:=n) (os:=os) hk h1 hR' hlt hsz'
 simpa using this
end
end Go.Vx
namespace Go.Proofs
open Go.Shelf
def Tryz.sortE_ren:Go.Shelf.Ren:=⟨fun|6=>48|15=>92|14=>91|28=>144|29=>145|20=>136|21=>137|22=>138|23=>139|24=>140|25=>141|26=>142|27=>143|46=>161|47=>162|48=>163|49=>164|50=>165|57=>181|n=>n,fun|22=>35|24=>106|25=>116|3=>3|39=>159|0=>0|53=>22|55=>104|4=>4|46=>192|45=>191|50=>138|5=>5|9=>9|66=>211|70=>215|76=>227|77=>228|n=>n,fun|n=>n⟩
theorem Tryz.sortE:Go.Proofs.SlLaysF0.n6 Tryz.prog Tryz.sortE_ren:={
 mixed:=by kernel_rfl
 f6:=⟨Tryz.f48.name,by decide,Tryz.func48.trans (congrArg some (by kernel_rfl))⟩
 f14:=⟨Tryz.f91.name,by decide,Tryz.func91.trans (congrArg some (by kernel_rfl))⟩
 f15:=Tryz.func92.trans (congrArg some (by kernel_rfl))
 f20:=⟨Tryz.f136.name,by decide,Tryz.func136.trans (congrArg some (by kernel_rfl))⟩
 f21:=⟨Tryz.f137.name,by decide,Tryz.func137.trans (congrArg some (by kernel_rfl))⟩
 f22:=⟨Tryz.f138.name,by decide,Tryz.func138.trans (congrArg some (by kernel_rfl))⟩
 f23:=⟨Tryz.f139.name,by decide,Tryz.func139.trans (congrArg some (by kernel_rfl))⟩
 f24:=⟨Tryz.f140.name,by decide,Tryz.func140.trans (congrArg some (by kernel_rfl))⟩
 f25:=⟨Tryz.f141.name,by decide,Tryz.func141.trans (congrArg some (by kernel_rfl))⟩
 f26:=⟨Tryz.f142.name,by decide,Tryz.func142.trans (congrArg some (by kernel_rfl))⟩
 f27:=⟨Tryz.f143.name,by decide,Tryz.func143.trans (congrArg some (by kernel_rfl))⟩
 f28:=Tryz.func144.trans (congrArg some (by kernel_rfl))
 f29:=Tryz.func145.trans (congrArg some (by kernel_rfl))
 f46:=⟨Tryz.f161.name,by decide,Tryz.func161.trans (congrArg some (by kernel_rfl))⟩
 f47:=Tryz.func162.trans (congrArg some (by kernel_rfl))
 f48:=Tryz.func163.trans (congrArg some (by kernel_rfl))
 f49:=⟨Tryz.f164.name,by decide,Tryz.func164.trans (congrArg some (by kernel_rfl))⟩
 f50:=⟨Tryz.f165.name,by decide,Tryz.func165.trans (congrArg some (by kernel_rfl))⟩
 f57:=⟨Tryz.f181.name,by decide,Tryz.func181.trans (congrArg some (by kernel_rfl))⟩
 t0:=Tryz.underlying0
 a0:=Tryz.isAgg0
 z0:=Tryz.sizeOf0
 v0:=Tryz.zeroValue0
 t3:=Tryz.underlying3
 a3:=Tryz.isAgg3
 z3:=Tryz.sizeOf3
 v3:=Tryz.zeroValue3
 t4:=Tryz.underlying4
 a4:=Tryz.isAgg4
 z4:=Tryz.sizeOf4
 v4:=Tryz.zeroValue4
 t5:=Tryz.underlying5
 a5:=Tryz.isAgg5
 z5:=Tryz.sizeOf5
 v5:=Tryz.zeroValue5
 t9:=Tryz.underlying9
 a9:=Tryz.isAgg9
 z9:=Tryz.sizeOf9
 v9:=Tryz.zeroValue9
 t22:=Tryz.underlying35
 a22:=Tryz.isAgg35
 z22:=Tryz.sizeOf35
 v22:=Tryz.zeroValue35
 t25:=Tryz.underlying116
 a25:=Tryz.isAgg116
 z25:=Tryz.sizeOf116
 v25:=Tryz.zeroValue116
 t39:=Tryz.underlying159
 a39:=Tryz.isAgg159
 z39:=Tryz.sizeOf159
 v39:=Tryz.zeroValue159
 t45:=Tryz.underlying191
 a45:=Tryz.isAgg191
 z45:=Tryz.sizeOf191
 v45:=Tryz.zeroValue191
 t46:=Tryz.underlying192
 a46:=Tryz.isAgg192
 z46:=Tryz.sizeOf192
 v46:=Tryz.zeroValue192
 t50:=Tryz.underlying138
 a50:=Tryz.isAgg138
 z50:=Tryz.sizeOf138
 v50:=Tryz.zeroValue138
 t53:=Tryz.underlying22
 a53:=Tryz.isAgg22
 z53:=Tryz.sizeOf22
 v53:=Tryz.zeroValue22
 t55:=Tryz.underlying104
 a55:=Tryz.isAgg104
 z55:=Tryz.sizeOf104
 v55:=Tryz.zeroValue104
 t66:=Tryz.underlying211
 a66:=Tryz.isAgg211
 z66:=Tryz.sizeOf211
 v66:=Tryz.zeroValue211
 t70:=Tryz.underlying215
 a70:=Tryz.isAgg215
 z70:=Tryz.sizeOf215
 v70:=Tryz.zeroValue215
 t76:=Tryz.underlying227
 a76:=Tryz.isAgg227
 z76:=Tryz.sizeOf227
 v76:=Tryz.zeroValue227
 t77:=Tryz.underlying228
 a77:=Tryz.isAgg228
 z77:=Tryz.sizeOf228
 v77:=Tryz.zeroValue228 }
end Go.Proofs
namespace Go.Proofs.YtbjbjboehjdcaaaGreat
open Go.Vx Go.Sort Go.Proofs
theorem Qwc:SWO (ltOf Qcu) where
 irrefl x:=by unfold ltOf;rw [decide_eq_false_iff_not,Qei,Qcn];decide
 trans x y z h1 h2:=by unfold ltOf at *;rw [decide_eq_true_iff,Qei] at *;exact Qdx h1 h2
 ntrans x y z h1 h2:=by unfold ltOf at *;rw [decide_eq_false_iff_not,Qei,Qdu] at *;omega
theorem Qt8:QgQ Tryz.prog 48 49 cec 106 7 Qj2 :=
 Qpb (J:=Tryz.sortE_ren) (k:=7) (T:=106) Tryz.sortE Tryz.isAgg106 Tryz.sizeOf106 (fun _=>rfl) Qa7 Qwc Tryz.call49 (fun w x y=>Tt.order_ok w x y) (fun w=>AnyF.slices_SortFunc_none Tryz.sortE none 0 _ w)
end Go.Proofs.YtbjbjboehjdcaaaGreat
namespace Go.Proofs
open Go Go.Vx Go.RowKit
open Go.Sort (ltInt medianAdjacent order2 partition)
namespace Tt
theorem QnL (w:World) (x:Int):Calls Tryz.prog 127 #[.int .u16 x] w (fun e w'=>e = .returned (.bool false)/\Own w no w' []):=by
 refine Qaj (n:=6) Tryz.func127 rfl Tryz.ntmps127 rfl ?_
 have hs:=Own.start w
 refine Qah (Qab (Qaa (Qad (V:=.bool false) rfl (Qaf (Qah (Qab (Qaa (Qac (V:=I7 x) rfl (Qaa (Qac (V:=I7 x) rfl (Qaa (Qch rfl rfl (Qaa (Qad (V:=.bool (!decide (x=x))) rfl (Qaf (Qav ?_))))))))))))))))
 refine ⟨_,Qar (V:=.bool (!decide (x=x))) Tryz.results127 rfl,(Zr hs ?_)⟩
 simp
theorem Qcj (w:World) (x y:Int):Calls Tryz.prog 178 #[.int .u16 x,.int .u16 y] w (fun e w'=>e = .returned (.bool (decide (x<y)))/\Own w no w' []):=by
 refine Qaj (n:=17) Tryz.func178 rfl Tryz.ntmps178 rfl ?_
 have hs:=Own.start w
 refine Qah (Qab (Qaa (Qad (V:=.bool false) rfl (Qaf (Qah (Qbh [some 5,some 6,some 7,some 8,some 9,some 10,some 11,some 12,some 13,some 14,some 15,some 16,some 4] [] [0,1,3,7,15,31,63,127,255,255,1023,2047,4095] [pv (I7 x),pv (.bool false),pv (.bool false),pg false (.bool true),pg false (.bool true),pg false (.bool true),pv (.bool false),pv (.bool false),pv (I7 x),pv (I7 y),pv (.bool (decide (x<y))),pv (.bool (decide (x<y))),pv (.bool (decide (x<y)))] (fun _ _=>_) [12] (by kernel_rfl) hs ⟨?_,?_,?_,?_,?_,?_,?_,?_,?_,?_,?_,?_,?_,trivial⟩ ?_))))))
 ·exact oa [] fun D J w hs=>Qac (V:=.int .u16 x) rfl (Zz hs)
 ·exact oa [0] fun D J w hs=>Qat (vs:=[.int .u16 x]) (V:=.bool false) QlK rfl rfl (QnL _ x) hs fun _ hs=>Zz hs
 ·exact oa [1] fun D J w hs=>Qac (V:=.bool false) rfl (Zz hs)
 ·exact obg [] [] false rfl (fun _=>rfl) rfl (fun _ _ _ _ h=>h) (fun _ _ _ h=>nomatch h)
 ·exact obg [] [] false rfl (fun _=>rfl) rfl (fun _ _ _ _ h=>h) (fun _ _ _ h=>nomatch h)
 ·exact obg [] [] false rfl (fun _=>rfl) rfl (fun _ _ _ _ h=>h) (fun _ _ _ h=>nomatch h)
 ·exact oa [2] fun D J w hs=>QcS (V:=.bool false) rfl rfl (Zz hs)
 ·exact oa [6] fun D J w hs=>Qac (V:=.bool false) rfl (Zz hs)
 ·exact obg [7] [] false rfl (fun _=>rfl) rfl (fun _ _ _ h=>nomatch h) fun D J w _ hs=>Qac (V:=I7 x) rfl (Zz hs)
 ·exact obg [7] [] false rfl (fun _=>rfl) rfl (fun _ _ _ h=>nomatch h) fun D J w _ hs=>Qac (V:=I7 y) rfl (Zz hs)
 ·exact obg [7,8,9] [] false rfl (fun _=>rfl) rfl (fun _ _ _ h=>nomatch h) fun D J w _ hs=>QaQ rfl rfl (Zz hs)
 ·exact oa [7,10] fun D J w hs=>QcS (V:=.bool (decide (x<y))) rfl rfl (Zz hs)
 ·exact oa [11] fun D J w hs=>Qad (V:=.bool (decide (x<y))) rfl (Zz hs)
 rintro J1 w2 J2 hJ hs
 replace hJ:J2=upd (mix (sq 5 12++[4]) J1 _) 4 (.bool (decide (x<y))):=hJ
 subst hJ
 refine Qav ?_
 refine ⟨_,Qar (V:=.bool (decide (x<y))) Tryz.results178 rfl,(Zr hs ?_)⟩
 first|rfl|simp
theorem Qrn {lo j:Nat} {d:Array Int} (h1:(lo:Int)<(j:Int)) (h2:d[j]!<d[j-1]!):Sort.insInner ltInt lo j d=Sort.insInner ltInt lo (j-1) (Sort.swp d j (j-1)):=by
 obtain ⟨i,rfl⟩:∃ i,j=i+1:=⟨j-1,by omega⟩
 rw [Nat.add_sub_cancel] at *
 rw [Sort.insInner,if_pos]
 simp [ltInt,h2];omega
theorem Qt3 {lo j:Nat} {d:Array Int} (h:(decide ((lo:Int)<(j:Int))&&decide (d[j]!<d[j-1]!))=false):Sort.insInner ltInt lo j d=d:=by
 cases j with
 | zero=>rfl
 | succ i =>
  rw [Sort.insInner,if_neg]
  intro h2
  simp [ltInt] at h2 h
  have:=h (by omega)
  omega
theorem QrK {lo hi k:Nat} {d:Array Int} (h:(k:Int)<(hi:Int)):Sort.insOuter ltInt lo hi k d=Sort.insOuter ltInt lo hi (k+1) (Sort.insInner ltInt lo k d):=by
 rw [Sort.insOuter,if_pos (by omega)]
theorem QtL {lo hi k:Nat} {d:Array Int} (h:¬(k:Int)<(hi:Int)):Sort.insOuter ltInt lo hi k d=d:=by
 rw [Sort.insOuter,if_neg (by omega)]
theorem QtN (w:World) (S:Nat->Prop) (a:Option Addr) (N c:Nat) (d:Array Int) (hsz:d.size=N) (hN:N<=2305843009213693951) (lo hi:Nat) (h1:lo<=hi) (h2:hi<=N) (hR:(row (.slice a N c) (d.toList.map (ic .u16)) 32 1).holds w S) (hlt:∀ x,S x->x<w.heap.size):Calls Tryz.prog 172 #[.slice a N c,.int .i64 (lo:Int),.int .i64 (hi:Int)] w (fun e w'=>∃ x:Unit,e = .returned (.tuple #[])/\Own w S w' [row (.slice a N c) ((Sort.insertionSort ltInt d lo hi).toList.map (ic .u16)) 32 1]/\(Sort.insertionSort ltInt d lo hi).size=N):=by
 refine Qaj (n:=49) Tryz.func172 rfl Tryz.ntmps172 rfl ?_
 have hs:=Own.lent hR hlt
 refine Qah (Qab (Qaa (Qac (V:=I6 (lo:Int)) rfl (Qaa (QaD (a:=(lo:Int)) (b:=1) (c:=((lo+1:Nat):Int)) rfl rfl (Qak (by omega) (by omega)) (Qaa (Qad (V:=I6 ((lo+1:Nat):Int)) rfl (Qaf (Qan (QaA (fun J μ J' w'=>∃ (Jo:Env) (k:Nat) (d1:Array Int),J'=upd (mix ([6,7]++sq 10 39) Jo J) 6 (I6 (k:Int))/\(lo+1<=k)/\(k<=hi∨k=lo+1)/\(d1.size=N)/\(Sort.insOuter ltInt lo hi k d1=Sort.insertionSort ltInt d lo hi)/\μ=hi-k/\Own w S w' [row (.slice a N c) (d1.toList.map (ic .u16)) 32 1]) ?_ ?_))))))))))
 ·exact ⟨_,_,lo+1,d,Qai (Qap (ds:=([6,7]++sq 10 39)) (Agr.refl _ _)) rfl,(Nat.le_refl _),(Or.inr rfl),hsz,rfl,rfl,hs⟩
 rintro μ J' w1 ⟨Jo,k,d1,rfl,hk0,hk,hz1,hev,rfl,hs⟩
 refine Qah (Qah (Qab (Qaa (Qac (V:=I6 (k:Int)) rfl (Qaa (Qac (V:=I6 (hi:Int)) rfl (Qaa (QaQ rfl rfl (Qaf (Qao (t:=decide ((k:Int)<(hi:Int))) rfl (fun c2=>?_) (fun c2=>?_)))))))))))
 ·
  replace c2:=QQ1 c2
  refine Qaq (Qah (Qan (Qah (Qab (Qaa (Qac (V:=I6 (k:Int)) rfl (Qaa (Qad (V:=I6 (k:Int)) rfl (Qaf (Qan (QaA (fun J μ J' w'=>∃ (Jo:Env) (j:Nat) (d2:Array Int),J'=upd (mix ([7]++sq 16 33) Jo J) 7 (I6 (j:Int))/\(lo<=j)/\(j<=k)/\(d2.size=N)/\(Sort.insInner ltInt lo j d2=Sort.insInner ltInt lo k d1)/\μ=2*j/\Own w S w' [row (.slice a N c) (d2.toList.map (ic .u16)) 32 1]) ?_ ?_)))))))))))
  ·exact ⟨_,_,k,d1,Qai (Qap (ds:=([7]++sq 16 33)) (Agr.refl _ _)) rfl,(by omega),(Nat.le_refl _),hz1,rfl,rfl,hs⟩
  rintro μ J' w3 ⟨Jo,j,d2,rfl,hj0,hj,hz2,hin,rfl,hs⟩
  refine Qah (Qah (QaH HM [some 16,some 17,some 18,some 19,some 20,some 21,some 22,some 23,some 24,some 25,some 26,some 27,some 28,some 29,some 30] [] [0,0,3,7,15,15,63,127,15,15,527,1807,3855,8191,16383] [pv (I6 (j:Int)),pv (I6 (lo:Int)),pv (.bool (decide ((lo:Int)<(j:Int)))),pv (.bool (decide ((lo:Int)<(j:Int)))),pg ((decide ((lo:Int)<(j:Int))) == true) (.slice a N c),pg ((decide ((lo:Int)<(j:Int))) == true) (I6 (j:Int)),pg ((decide ((lo:Int)<(j:Int))) == true) (.pointer (some ⟨bkS (.slice a N c),ofS (.slice a N c)+(j:Int).toNat*1,none⟩)),pg ((decide ((lo:Int)<(j:Int))) == true) (I7 (d2[j]!)),pg ((decide ((lo:Int)<(j:Int))) == true) (.slice a N c),pg ((decide ((lo:Int)<(j:Int))) == true) (I6 (j:Int)),pg ((decide ((lo:Int)<(j:Int))) == true) (I6 ((j-1:Nat):Int)),pg ((decide ((lo:Int)<(j:Int))) == true) (.pointer (some ⟨bkS (.slice a N c),ofS (.slice a N c)+((j-1:Nat):Int).toNat*1,none⟩)),pg ((decide ((lo:Int)<(j:Int))) == true) (I7 (d2[j-1]!)),pg ((decide ((lo:Int)<(j:Int))) == true) (.bool (decide (d2[j]!<d2[j-1]!))),pv (.bool ((decide ((lo:Int)<(j:Int)))&&(decide (d2[j]!<d2[j-1]!))))] (fun _ _=>_) [14] (by kernel_rfl) hs ⟨?_,?_,?_,?_,?_,?_,?_,?_,?_,?_,?_,?_,?_,?_,?_,trivial⟩ ?_))
  ·exact oa [] fun D J w hs=>Qac (V:=.int .i64 (j:Int)) rfl (Zz hs)
  ·exact oa [] fun D J w hs=>Qac (V:=.int .i64 (lo:Int)) rfl (Zz hs)
  ·exact oa [0,1] fun D J w hs=>QbP rfl rfl (Zz hs)
  ·exact oa [2] fun D J w hs=>Qac (V:=.bool (decide ((lo:Int)<(j:Int)))) rfl (Zz hs)
  ·refine og [3] fun D J w hG hs=>?_
   have hgd:=QQ1 (eq_of_beq hG)
   exact Qac (V:=.slice a N c) rfl (Zz hs)
  ·refine og [3] fun D J w hG hs=>?_
   have hgd:=QQ1 (eq_of_beq hG)
   exact Qac (V:=.int .i64 (j:Int)) rfl (Zz hs)
  ·refine oy [3,4,5] [4,5] fun D J w hG hs=>?_
   have hgd:=QQ1 (eq_of_beq hG)
   exact Qax QaI Qas.1 (hs.rd 0 rfl) rfl rfl (by omega) (by simp only [QQ6,QQ9,QQ5,Go.Sort.size_swp];omega) (Zz hs)
  ·refine oy [3,6] [6] fun D J w hG hs=>?_
   have hgd:=QQ1 (eq_of_beq hG)
   exact QaP (j:=0) (V:=.int .u16 (d2[j]!)) j Qas (hs.rd 0 rfl) (Qbl (by omega)) rfl rfl (by omega) (Zz hs)
  ·refine og [3] fun D J w hG hs=>?_
   have hgd:=QQ1 (eq_of_beq hG)
   exact Qac (V:=.slice a N c) rfl (Zz hs)
  ·refine og [3] fun D J w hG hs=>?_
   have hgd:=QQ1 (eq_of_beq hG)
   exact Qac (V:=.int .i64 (j:Int)) rfl (Zz hs)
  ·refine oy [3,9] [9] fun D J w hG hs=>?_
   have hgd:=QQ1 (eq_of_beq hG)
   exact Qa6 (a:=(j:Int)) (b:=1) (c:=((j-1:Nat):Int)) rfl rfl (Qak (by omega) (by omega)) (Zz hs)
  ·refine oy [3,8,10] [8,10] fun D J w hG hs=>?_
   have hgd:=QQ1 (eq_of_beq hG)
   exact Qax QaI Qas.1 (hs.rd 0 rfl) rfl rfl (by omega) (by simp only [QQ6,QQ9,QQ5,Go.Sort.size_swp];omega) (Zz hs)
  ·refine oy [3,11] [11] fun D J w hG hs=>?_
   have hgd:=QQ1 (eq_of_beq hG)
   exact QaP (j:=0) (V:=.int .u16 (d2[j-1]!)) (j-1) Qas (hs.rd 0 rfl) (Qbl (by omega)) rfl rfl (by omega) (Zz hs)
  ·refine oy [3,7,12] [7,12] fun D J w hG hs=>?_
   have hgd:=QQ1 (eq_of_beq hG)
   exact Qat (vs:=[.int .u16 (d2[j]!),.int .u16 (d2[j-1]!)]) (V:=.bool (decide (d2[j]!<d2[j-1]!))) Qc0 rfl rfl (Qcj _ (d2[j]!) (d2[j-1]!)) hs fun _ hs=>Zz hs
  ·exact oa [3,13] fun D J w hs=>Qa2 (h':=decide (d2[j]!<d2[j-1]!)) rfl rfl rfl (Zz hs)
  rintro J1 w5 J2 hJ hs
  replace hJ:J2=upd (mix (sq 16 15) J1 _) 30 (.bool ((decide ((lo:Int)<(j:Int)))&&(decide (d2[j]!<d2[j-1]!)))):=hJ
  subst hJ
  refine Qao (t:=(decide ((lo:Int)<(j:Int)))&&(decide (d2[j]!<d2[j-1]!))) rfl (fun c6=>?_) (fun c6=>?_)
  ·
   have c6r:=QbC c6
   replace c6:=QbA c6
   replace c6:=QQ1 c6
   replace c6r:=QQ1 c6r
   refine Qaq (Qah (Qan (QaH HM [some 33,some 34,some 35,some 36,some 37,some 38,some 39,some 40,some 41,some 42,some 43,some 44,some 45,some 46,some 47,none,some 48,none] [] [0,0,0,0,8,0,0,64,224,480,0,0,3072,7168,16355,32739,65535,131071] [pv (.slice a N c),pv (I6 (j:Int)),pv (.slice a N c),pv (I6 (j:Int)),pv (I6 ((j-1:Nat):Int)),pv (.slice a N c),pv (I6 (j:Int)),pv (I6 ((j-1:Nat):Int)),pv (.pointer (some ⟨bkS (.slice a N c),ofS (.slice a N c)+((j-1:Nat):Int).toNat*1,none⟩)),pv (I7 (d2[j-1]!)),pv (.slice a N c),pv (I6 (j:Int)),pv (.pointer (some ⟨bkS (.slice a N c),ofS (.slice a N c)+(j:Int).toNat*1,none⟩)),pv (I7 (d2[j]!)),pv (.pointer (some ⟨bkS (.slice a N c),ofS (.slice a N c)+(j:Int).toNat*1,none⟩)),pn,pv (.pointer (some ⟨bkS (.slice a N c),ofS (.slice a N c)+((j-1:Nat):Int).toNat*1,none⟩)),pn] (fun D J=>[cond (D 17) (row (.slice a N c) ((((d2.setIfInBounds j (d2[j-1]!)).setIfInBounds (j-1) (d2[j]!)).toList).map (ic .u16)) 32 1) (cond (D 15) (row (.slice a N c) (((d2.setIfInBounds j (d2[j-1]!)).toList).map (ic .u16)) 32 1) (row (.slice a N c) (d2.toList.map (ic .u16)) 32 1))]) [] (by kernel_rfl) hs ⟨?_,?_,?_,?_,?_,?_,?_,?_,?_,?_,?_,?_,?_,?_,?_,?_,?_,?_,trivial⟩ ?_)))
   ·exact oa [] fun D J w hs=>Qac (V:=.slice a N c) rfl (Zz hs)
   ·exact oa [] fun D J w hs=>Qac (V:=.int .i64 (j:Int)) rfl (Zz hs)
   ·exact oa [] fun D J w hs=>Qac (V:=.slice a N c) rfl (Zz hs)
   ·exact oa [] fun D J w hs=>Qac (V:=.int .i64 (j:Int)) rfl (Zz hs)
   ·exact oa [3] fun D J w hs=>Qa6 (a:=(j:Int)) (b:=1) (c:=((j-1:Nat):Int)) rfl rfl (Qak (by omega) (by omega)) (Zz hs)
   ·exact oa [] fun D J w hs=>Qac (V:=.slice a N c) rfl (Zz hs)
   ·exact oa [] fun D J w hs=>Qac (V:=.int .i64 (j:Int)) rfl (Zz hs)
   ·exact oa [6] fun D J w hs=>Qa6 (a:=(j:Int)) (b:=1) (c:=((j-1:Nat):Int)) rfl rfl (Qak (by omega) (by omega)) (Zz hs)
   ·exact ob [5,7] [15,17] rfl rfl fun D J w hs=>Qax QaI Qas.1 (hs.rd 0 rfl) rfl rfl (by omega) (by simp only [QQ6,QQ9,QQ5,Go.Sort.size_swp];omega) (Zz hs)
   ·exact ob [8] [15,17] rfl rfl fun D J w hs=>QaP (j:=0) (V:=I7 (d2[j-1]!)) (j-1) Qas (hs.rd 0 rfl) (Qbl (by omega)) rfl rfl (by omega) (Zz hs)
   ·exact oa [] fun D J w hs=>Qac (V:=.slice a N c) rfl (Zz hs)
   ·exact oa [] fun D J w hs=>Qac (V:=.int .i64 (j:Int)) rfl (Zz hs)
   ·exact ob [10,11] [15,17] rfl rfl fun D J w hs=>Qax QaI Qas.1 (hs.rd 0 rfl) rfl rfl (by omega) (by simp only [QQ6,QQ9,QQ5,Go.Sort.size_swp];omega) (Zz hs)
   ·exact ob [12] [15,17] rfl rfl fun D J w hs=>QaP (j:=0) (V:=I7 (d2[j]!)) j Qas (hs.rd 0 rfl) (Qbl (by omega)) rfl rfl (by omega) (Zz hs)
   ·exact ob [0,1] [15,17] rfl rfl fun D J w hs=>Qax QaI Qas.1 (hs.rd 0 rfl) rfl rfl (by omega) (by simp only [QQ6,QQ9,QQ5,Go.Sort.size_swp];omega) (Zz hs)
   ·exact ob [9,14] [17] rfl rfl fun D J w hs=>Qce (z:=d2[j-1]!) j Qas hs 0 rfl rfl (by omega) (by first|omega|(simp only [QQ5,Go.Sort.size_swp];omega)) rfl rfl rfl fun _ hs=>⟨trivial,hs⟩
   ·exact ob [2,4,15] [17] rfl rfl fun D J w hs=>Qax QaI Qas.1 (hs.rd 0 rfl) rfl rfl (by omega) (by simp only [QQ6,QQ9,QQ5,Go.Sort.size_swp];omega) (Zz hs)
   ·exact oa [13,15,16] fun D J w hs=>Qce (z:=d2[j]!) (j-1) Qas hs 0 rfl rfl (by omega) (by first|omega|(simp only [QQ5,Go.Sort.size_swp];omega)) rfl rfl rfl fun _ hs=>⟨trivial,hs⟩
   rintro J1 w9 J2 hJ hs
   replace hJ:J2=mix (sq 33 16) J1 _:=hJ
   replace hs:Own w S w9 [row (.slice a N c) ((((d2.setIfInBounds j (d2[j-1]!)).setIfInBounds (j-1) (d2[j]!)).toList).map (ic .u16)) 32 1]:=hs
   subst hJ
   refine Qab (Qaa (Qac (V:=I6 (j:Int)) rfl (Qaa (Qa6 (a:=(j:Int)) (b:=1) (c:=((j-1:Nat):Int)) rfl rfl (Qak (by omega) (by omega)) (Qaa (Qad (V:=I6 ((j-1:Nat):Int)) rfl (Qaf ?_)))))))
   refine ⟨_,?_,_,j-1,((d2.setIfInBounds j (d2[j-1]!)).setIfInBounds (j-1) (d2[j]!)),Qai (Qap (ds:=([7]++sq 16 33)) (by repeat (first|exact Agr.refl _ _|refine Agr.upd ?_ rfl|refine Agr.mix ?_ rfl))) rfl,(by omega),(by omega),(by simp only [QQ5];exact hz2),(by rw [← hin];exact (Qrn c6 c6r).symm),rfl,hs.take 1⟩
   omega
  refine QaG (Qab (Qaa (Qac (V:=I6 (k:Int)) rfl (Qaa (QaD (a:=(k:Int)) (b:=1) (c:=((k+1:Nat):Int)) rfl rfl (Qak (by omega) (by omega)) (Qaa (Qad (V:=I6 ((k+1:Nat):Int)) rfl (Qaf ?_))))))))
  refine ⟨_,?_,_,k+1,d2,Qai (Qap (ds:=([6,7]++sq 10 39)) (by repeat (first|exact Agr.refl _ _|refine Agr.upd ?_ rfl|refine Agr.mix ?_ rfl))) rfl,(by omega),(by omega),hz2,(by rw [← hev,QrK (d:=d1) c2,← hin,Qt3 c6]),rfl,hs.take 1⟩
  omega
 replace c2:=QQ2 c2
 refine QaG ?_
 refine ⟨_,Qbn Tryz.results172,?_⟩
 have hX:d1=Sort.insertionSort ltInt d lo hi:=by rw [← hev,QtL c2]
 exact ⟨(),rfl,hX ▸ hs.take 1,hX ▸ (by first|assumption|(simp only [QQ5,Go.Sort.size_swp];omega))⟩
end Tt
end Go.Proofs
