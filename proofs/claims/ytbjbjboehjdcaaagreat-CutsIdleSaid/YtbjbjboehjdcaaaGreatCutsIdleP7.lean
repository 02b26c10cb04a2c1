/- A part of a proof: what functions of the program compute, and plain facts on that. -/
import Derived.Test.YtbjbjboehjdcaaaGreatCutsIdleP6
import Derived.KernelRfl
import Derived.Test.YtbjbjboehjdcaaaGreatProg
import Derived.Shelf.SlSortCmp.WholeK
import Derived.Shelf.SlLaysF0
import Derived.Ground.SlsfProg
import Derived.Shelf.SlSortCmp.NoneTotal
set_option linter.unusedVariables false
set_option linter.unusedSimpArgs false
set_option maxHeartbeats 4000000
set_option maxRecDepth 100000
namespace Go.Proofs
open Go Go.Vx Go.RowKit
namespace Tt
theorem QqE (w:World) (a:Option Addr) (ca:Nat) (l:List Opn) (v:Vec) (hl:∀ o∈l,Qb8 o) (hr:Rd w (.slice a l.length ca) 23 (l.map oc)):Calls Tryz.prog 28 #[.slice a l.length ca,.agg (vc v).toArray] w (fun e w'=>∃ x:((Option Addr × Nat) × (Option Addr × Nat)) × (Option Addr × Nat),e = .returned (.tuple #[.agg ((vc (Qal l v).base.known++[(.slice x.1.1.1 (Qal l v).base.ents.length x.1.1.2:Value),(.slice x.1.2.1 (Qal l v).base.ticks.length x.1.2.2:Value)])++[(.slice x.2.1 (Qal l v).ops.length x.2.2:Value)]++vc (Qal l v).known).toArray,.bool (Qcv l v)])/\Own w no w' [row (.slice x.1.1.1 (Qal l v).base.ents.length x.1.1.2) ((Qal l v).base.ents.map cec) 106 7,row (.slice x.1.2.1 (Qal l v).base.ticks.length x.1.2.2) ((Qal l v).base.ticks.map lsc) 102 2,row (.slice x.2.1 (Qal l v).ops.length x.2.2) ((Qal l v).ops.map oc) 98 23]/\True):=by
 refine Qai (n:=74) Tryz.func28 rfl Tryz.ntmps28 rfl ?_
 have hs:=Own.start w
 have hn:=hr.sml
 refine Qag (Qab (Qaa (Qa4 (V:=.agg (vc v).toArray) (cs:=vc v) rfl rfl hs fun b1 w2 hs=>(Qaa (QaL (cs:=((vc vzero)++[(.slice none 0 0:Value),(.slice none 0 0:Value) ])++[(.slice none 0 0:Value) ]++(vc vzero)) Qpd rfl hs fun b3 w4 hs=>(Qaa (Qad (V:=.bool false) rfl (Qae (Qag (Qag ?_))))))))))
 rcases Decidable.em (QbO l=true/\l.length<=30) with hk1|hk1
 ·
  replace hs:=hs.more emp trivial
  refine Qbq [some 12,some 13,some 14,some 15,some 16,some 17,some 18,some 19,some 20,some 21,some 22,some 23,some 24,some 25,some 26] [[],[],[],[],[],[],[],[],[],[],[],[23]] [0,1,3,7,15,31,63,127,255,511,511,2047,4095,8191,16383] [pv (.slice a l.length ca),pv (.bool (QbO l)),pv (.bool (!(QbO l))),pv (.bool (!(QbO l))),pg ((!(QbO l)) == false) (.slice a l.length ca),pg ((!(QbO l)) == false) (I6 ((l.length:Nat):Int)),pg ((!(QbO l)) == false) (.bool (decide (30<((l.length:Nat):Int)))),pv (.bool false),pv (.bool false),pv (.slice a l.length ca),pv (.agg (vc v).toArray),(true,fun J=>.slice (aOf (J 23)) ((QaF l v).length) (cOf (J 23))),pv (.bool (Qbb (QaF l v))),pv (.bool (!(Qbb (QaF l v)))),pv (.bool (!(Qbb (QaF l v))))] (fun D J=>[blk b1 (vc v) 24,blk b3 (((vc vzero)++[(.slice none 0 0:Value),(.slice none 0 0:Value) ])++[(.slice none 0 0:Value) ]++(vc vzero)) 43,cond (D 11) (row (.slice (aOf (J 23)) ((QaF l v).length) (cOf (J 23))) ((QaF l v).map oc) 98 23) (emp)]) [14] (by kernel_rfl) hs ⟨?_,?_,?_,?_,?_,?_,?_,?_,?_,?_,?_,?_,?_,?_,?_,trivial⟩ ?_
  ·exact oa [] fun D J w hs=>Qac (V:=.slice a l.length ca) rfl (Zz hs)
  ·exact oa [0] fun D J w hs=>Qas (vs:=[.slice a l.length ca]) (V:=.bool (QbO l)) Qr0 rfl rfl (Qm4 _ a ca l hl (Rd.own' hr hs)) hs fun _ hs=>Zz hs
  ·exact oa [1] fun D J w hs=>Qbx rfl (Zz hs)
  ·exact oa [2] fun D J w hs=>Qac (V:=.bool (!(QbO l))) rfl (Zz hs)
  ·exact og [3] fun D J w hG hs=>Qac (V:=.slice a l.length ca) rfl (Zz hs)
  ·exact oy [3,4] [4] fun D J w hG hs=>Qa0 (n:=l.length) Qco (Rd.own' hr hs) (by simp) rfl (Zz hs)
  ·exact oy [3,5] [5] fun D J w hG hs=>QbU rfl rfl (Zz hs)
  ·exact oa [3,6] fun D J w hs=>QaX (V:=.bool ((!(QbO l))||(decide (30<((l.length:Nat):Int))))) (V':=.bool false) (Qb2 (h':=decide (30<((l.length:Nat):Int))) rfl rfl rfl ⟨rfl,rfl⟩) (congrArg Value.bool (Qs3 hk1)) (Zz hs)
  ·exact oa [7] fun D J w hs=>Qac (V:=.bool false) rfl (Zz hs)
  ·exact obg [8] [] false rfl (fun _=>rfl) rfl (fun _ _ _ h=>nomatch h) fun D J w _ hs=>Qac (V:=.slice a l.length ca) rfl (Zz hs)
  ·exact obg [8] [] false rfl (fun _=>rfl) rfl (fun _ _ _ h=>nomatch h) fun D J w _ hs=>QaO (cs:=vc v) Qbu hs 0 rfl rfl rfl (Zz hs)
  ·exact obg [8,9,10] [] false rfl (fun _=>rfl) rfl (fun _ _ _ h=>nomatch h) fun D J w _ hs=>Qbm (vs:=[.slice a l.length ca,.agg (vc v).toArray]) (V:=fun x:Option Addr × Nat=>.slice x.1 (QaF l v).length x.2) Qvn rfl rfl (QmO _ v a ca l hl (by omega) (Rd.own' hr hs)) hs fun _ _ hs _=>⟨rfl,hs.put 2 (QQ8 rfl)⟩
  ·exact obg [8,11] [] false rfl (fun _=>rfl) rfl (fun _ _ _ h=>nomatch h) fun D J w _ hs=>Qas (vs:=[.slice (aOf (J 23)) ((QaF l v).length) (cOf (J 23))]) (V:=.bool (Qbb (QaF l v))) Qtf rfl rfl (QfN _ (aOf (J 23)) (cOf (J 23)) (QaF l v) (fun o ho=>hl o (Qc3 ho)) (Nat.le_trans (QeG l v) (by omega)) (hs.rd 2 rfl)) hs fun _ hs=>Zz hs
  ·exact obg [8,12] [] false rfl (fun _=>rfl) rfl (fun _ _ _ h=>nomatch h) fun D J w _ hs=>Qbx rfl (Zz hs)
  ·exact oa [8,13] fun D J w hs=>Qcp (V:=.bool (!(Qbb (QaF l v)))) rfl rfl (Zz hs)
  rintro J1 w8 J2 hJ hs
  replace hJ:J2=upd (mix (sq 12 15) J1 _) 26 (.bool (!(Qbb (QaF l v)))):=hJ
  replace hs:Own w no w8 [blk b1 (vc v) 24,blk b3 (((vc vzero)++[(.slice none 0 0:Value),(.slice none 0 0:Value) ])++[(.slice none 0 0:Value) ]++(vc vzero)) 43,row (.slice (aOf (J1 23)) ((QaF l v).length) (cOf (J1 23))) ((QaF l v).map oc) 98 23]:=hs
  generalize (aOf (J1 23))=a9 at hs
  generalize (cOf (J1 23))=c10 at hs
  subst hJ
  refine Qam (t:=!(Qbb (QaF l v))) rfl (fun c11=>?_) (fun c11=>?_)
  ·
   replace c11:=Qby c11
   refine Qag (Qab (Qaa (Qcr (vs:=[]) (cs:=((vc vzero)++[(.slice none 0 0:Value),(.slice none 0 0:Value) ])++[(.slice none 0 0:Value) ]++(vc vzero)) [(vc vzero)++[(.slice none 0 0:Value),(.slice none 0 0:Value) ],[(.slice none 0 0:Value)],vc vzero] [(vc vzero)++[(.slice none 0 0:Value),(.slice none 0 0:Value) ],[(.slice none 0 0:Value)],vc vzero] QrB rfl (rfl) rfl rfl (Qaa (QcG (V:=.agg (((vc vzero)++[(.slice none 0 0:Value),(.slice none 0 0:Value) ])++[(.slice none 0 0:Value) ]++(vc vzero)).toArray) (vs:=((vc vzero)++[(.slice none 0 0:Value),(.slice none 0 0:Value) ])++[(.slice none 0 0:Value) ]++(vc vzero)) (cs':=((vc vzero)++[(.slice none 0 0:Value),(.slice none 0 0:Value) ])++[(.slice none 0 0:Value) ]++(vc vzero)) QcV.1 hs 1 rfl rfl rfl rfl rfl (QQ8 rfl) (Qbh (Qbh (Qbh (QbQ _) (Qat rfl (Qat rfl Qa1))) (Qat rfl Qa1)) (QbQ _)) (Qaz rfl) fun w12 hs=>(Qaa (Qad (V:=.bool false) rfl (Qae (Qav ?_)))))))))
   refine ⟨_,Qci (cs:=((vc vzero)++[(.slice none 0 0:Value),(.slice none 0 0:Value) ])++[(.slice none 0 0:Value) ]++(vc vzero)) (V:=.bool false) Tryz.results28 QcV hs 1 rfl rfl rfl rfl,?_⟩
   obtain ⟨hX,hY⟩:=QoO (v:=v) c11
   rw [hX,hY]
   exact ⟨(((none,0),(none,0)),(none,0)),rfl,(((hs.take 0).more _ (Qba _ _ 106 7)).more _ (Qba _ _ 102 2)).more _ (Qba _ _ 98 23),trivial⟩
  replace c11:=Qbr c11
  refine Qap (Qag (Qab (Qaa (QaL (cs:=(vc vzero)++[(.slice none 0 0:Value),(.slice none 0 0:Value) ]) Qfr rfl hs fun b13 w14 hs=>(Qae (Qag (Qab (Qaa (QaL (cs:=((vc vzero)++[(.slice none 0 0:Value),(.slice none 0 0:Value) ])++[(.slice none 0 0:Value) ]++(vc vzero)) Qpd rfl hs fun b15 w16 hs=>?_)))))))))
  replace hs:Own w no w16 [blk b1 (vc v) 24,blk b3 (((vc vzero)++[(.slice none 0 0:Value),(.slice none 0 0:Value) ])++[(.slice none 0 0:Value) ]++(vc vzero)) 43,row (.slice a9 ((QaF l v).length) c10) ((QaF l v).map oc) 98 23,blk b13 ((vc vzero)++[(.slice none 0 0:Value),(.slice none 0 0:Value) ]) 38,blk b15 (((vc vzero)++[(.slice none 0 0:Value),(.slice none 0 0:Value) ])++[(.slice none 0 0:Value) ]++(vc vzero)) 43]:=hs
  refine Qae (Qag (Qag (Qab (Qaa (Qac (V:=.slice a l.length ca) rfl (Qaa (Qa0 (n:=l.length) Qco (Rd.own' hr hs) (by simp) rfl (Qaa (Qac (V:=I6 0) rfl (Qae (Qan ?_)))))))))))
  replace hs:=hs.more (row (.slice none 0 0) (List.map cec []) 106 7) (Qba _ _ _ _)
  replace hs:=hs.more (row (.slice none 0 0) (List.map lsc []) 102 2) (Qba _ _ _ _)
  replace hs:=hs.more (row (.slice none 0 0) (List.map oc []) 98 23) (Qba _ _ _ _)
  obtain ⟨hq,hu0,hcl0⟩:=QjZ hl hk1.1 c11
  refine QaC (fun J μ J' w'=>∃ (Jo:Env) (k:Nat) (s:Sta) (ae:Option Addr) (ce:Nat) (at_:Option Addr) (ct:Nat) (ao:Option Addr) (co:Nat) (O9:List Opn) (u:Vec),J'=upd (mix ([5,9,10,11]++sq 30 41) Jo J) 30 (I6 (k:Int))/\(k<=l.length)/\(s=QcT (QaF (l.take k) v))/\(O9=Qgq (l.take k) v)/\(u=Qbn (l.take k))/\(O9.length<=k)/\μ=l.length-k/\Own w no w' [blk b1 (vc v) 24,blk b3 (((vc vzero)++[(.slice none 0 0:Value),(.slice none 0 0:Value) ])++[(.slice none 0 0:Value) ]++(vc vzero)) 43,row (.slice a9 ((QaF l v).length) c10) ((QaF l v).map oc) 98 23,blk b13 ((vc s.known)++[(.slice ae s.ents.length ce:Value),(.slice at_ s.ticks.length ct:Value) ]) 38,blk b15 (((vc vzero)++[(.slice none 0 0:Value),(.slice none 0 0:Value) ])++[(.slice ao O9.length co:Value) ]++(vc u)) 43,row (.slice ae s.ents.length ce) (s.ents.map cec) 106 7,row (.slice at_ s.ticks.length ct) (s.ticks.map lsc) 102 2,row (.slice ao O9.length co) (O9.map oc) 98 23]) ?_ ?_
  ·exact ⟨_,_,0,szero,none,0,none,0,none,0,[],vzero,Qak (Qao (ds:=([5,9,10,11]++sq 30 41)) (Agr.refl _ _)) rfl,(by omega),rfl,rfl,rfl,(Nat.le_refl _),rfl,hs⟩
  rintro μ J' w17 ⟨Jo,k,s,ae,ce,at_,ct,ao,co,O9,u,rfl,hk,hsk,hO9,hku,hn9,rfl,hs⟩
  have hao:=QrN hu0 hsk hk
  refine Qag (Qab (Qaa (Qa2 rfl rfl (Qae (Qag (Qam (t:=decide ((k:Int)<((l.length:Nat):Int))) rfl (fun c18=>?_) (fun c18=>?_)))))))
  ·
   replace c18:=QQ1 c18
   refine Qap (Qag (Qan (Qag (Qab (Qaa (Qaw Qco QbB.1 (Rd.own' hr hs) rfl rfl (by omega) (by rw [QQ6];omega) (Qaa (Qbc (j:=0) (vs:=oc (gd l k)) k QbB (Rd.own' hr hs) (Qa9 (by omega)) rfl rfl rfl (by omega) (Qaa (QaL (cs:=oc (⟨(⟨0,0⟩:Dot),0,0,0,0,0,vzero⟩:Opn)) Qin rfl hs fun b19 w20 hs=>(Qaa (QcG (V:=.agg (oc (gd l k)).toArray) (vs:=oc (gd l k)) (cs':=oc (gd l k)) QbB.1 hs 8 rfl rfl rfl rfl rfl (QQ8 rfl) (Qc1 _) (Qaz rfl) fun w21 hs=>(Qae (Qag ?_))))))))))))))
   have ⟨⟨hp1,hp2⟩,hp3,hp4⟩:=(hl _ (Qbz (l:=l) (i:=k) (by omega))).1
   have hp5:(gd l k).dot.rep<16:=((hq.dots _ (Qbz (l:=l) (i:=k) (by omega))).1).r1
   refine QaH HM [some 34,some 35,some 36,some 37,some 38,some 39,some 40,some 41,some 42,some 43,some 44,some 45,some 46,some 47,some 48,none] [] [0,1,3,0,8,24,0,120,248,0,512,1536,4088,0,16383,32767] [pv (Pq b19 (0+0)),pv (Pq b19 (0+0+0)),pv (.int .u8 (((gd l k).dot).rep)),pv (Pq b19 (0+0)),pv (Pq b19 (0+0+0)),pv (.int .u8 (((gd l k).dot).rep)),pv (Pq b15 (0+19)),pv (.pointer (some ⟨b15,0+19+(((gd l k).dot).rep).toNat,none⟩)),pv (.int .u32 (vat u (((gd l k).dot).rep).toNat)),pv (Pq b19 (0+0)),pv (Pq b19 (0+0+1)),pv (.int .u32 (((gd l k).dot).seq)),pv (.int .u32 (max (vat u (((gd l k).dot).rep).toNat) (((gd l k).dot).seq))),pv (Pq b15 (0+19)),pv (.pointer (some ⟨b15,0+19+(((gd l k).dot).rep).toNat,none⟩)),pn] (fun D J=>[blk b1 (vc v) 24,blk b3 (((vc vzero)++[(.slice none 0 0:Value),(.slice none 0 0:Value) ])++[(.slice none 0 0:Value) ]++(vc vzero)) 43,row (.slice a9 ((QaF l v).length) c10) ((QaF l v).map oc) 98 23,blk b13 ((vc s.known)++[(.slice ae s.ents.length ce:Value),(.slice at_ s.ticks.length ct:Value) ]) 38,cond (D 15) (blk b15 (((vc vzero)++[(.slice none 0 0:Value),(.slice none 0 0:Value) ])++[(.slice ao O9.length co:Value) ]++(vc (vset u (((gd l k).dot).rep).toNat (max (vat u (((gd l k).dot).rep).toNat) (((gd l k).dot).seq))))) 43) (blk b15 (((vc vzero)++[(.slice none 0 0:Value),(.slice none 0 0:Value) ])++[(.slice ao O9.length co:Value) ]++(vc u)) 43),row (.slice ae s.ents.length ce) (s.ents.map cec) 106 7,row (.slice at_ s.ticks.length ct) (s.ticks.map lsc) 102 2,row (.slice ao O9.length co) (O9.map oc) 98 23,blk b19 (oc (gd l k)) 98]) [] (by kernel_rfl) hs ⟨?_,?_,?_,?_,?_,?_,?_,?_,?_,?_,?_,?_,?_,?_,?_,?_,trivial⟩ ?_
   ·exact oa [] fun D J w hs=>Qaf Qbl rfl (Zz hs)
   ·exact oa [0] fun D J w hs=>Qaf QbV rfl (Zz hs)
   ·exact oa [1] fun D J w hs=>QaP (V:=.int .u8 (((gd l k).dot).rep)) Qds hs 8 rfl rfl rfl (Zz hs)
   ·exact oa [] fun D J w hs=>Qaf Qbl rfl (Zz hs)
   ·exact oa [3] fun D J w hs=>Qaf QbV rfl (Zz hs)
   ·exact oa [4] fun D J w hs=>QaP (V:=.int .u8 (((gd l k).dot).rep)) Qds hs 8 rfl rfl rfl (Zz hs)
   ·exact oa [] fun D J w hs=>Qaf QiJ rfl (Zz hs)
   ·exact oa [5,6] fun D J w hs=>Qbo QdH QaN.1 rfl rfl (by omega) (by omega) (Zz hs)
   ·exact ob [7] [15] rfl rfl fun D J w hs=>QaP (V:=.int .u32 (vat u (((gd l k).dot).rep).toNat)) QaN hs 4 rfl rfl (QrZ (n:=19) rfl (by omega) (by omega)) (Zz hs)
   ·exact oa [] fun D J w hs=>Qaf Qbl rfl (Zz hs)
   ·exact oa [9] fun D J w hs=>Qaf QbX rfl (Zz hs)
   ·exact oa [10] fun D J w hs=>QaP (V:=.int .u32 (((gd l k).dot).seq)) QaN hs 8 rfl rfl rfl (Zz hs)
   ·exact oa [8,11] fun D J w hs=>QoA rfl rfl (Zz hs)
   ·exact oa [] fun D J w hs=>Qaf QiJ rfl (Zz hs)
   ·exact oa [2,13] fun D J w hs=>Qbo QdH QaN.1 rfl rfl (by omega) (by omega) (Zz hs)
   ·exact oa [12,14] fun D J w hs=>QcQ (V:=.int .u32 (max (vat u (((gd l k).dot).rep).toNat) (((gd l k).dot).seq))) (cs':=((vc vzero)++[(.slice none 0 0:Value),(.slice none 0 0:Value) ])++[(.slice ao O9.length co:Value) ]++(vc (vset u (((gd l k).dot).rep).toNat (max (vat u (((gd l k).dot).rep).toNat) (((gd l k).dot).seq))))) QaN hs 4 rfl rfl rfl rfl (Qs0 (n:=19) rfl (i:=(((gd l k).dot).rep).toNat) (by omega) (by omega)) (QrI (n:=19) rfl (by omega) (by omega)) fun _ hs=>⟨trivial,hs⟩
   rintro J1 w23 J2 hJ hs
   replace hJ:J2=mix (sq 34 15) J1 _:=hJ
   replace hs:Own w no w23 [blk b1 (vc v) 24,blk b3 (((vc vzero)++[(.slice none 0 0:Value),(.slice none 0 0:Value) ])++[(.slice none 0 0:Value) ]++(vc vzero)) 43,row (.slice a9 ((QaF l v).length) c10) ((QaF l v).map oc) 98 23,blk b13 ((vc s.known)++[(.slice ae s.ents.length ce:Value),(.slice at_ s.ticks.length ct:Value) ]) 38,blk b15 (((vc vzero)++[(.slice none 0 0:Value),(.slice none 0 0:Value) ])++[(.slice ao O9.length co:Value) ]++(vc (vset u (((gd l k).dot).rep).toNat (max (vat u (((gd l k).dot).rep).toNat) (((gd l k).dot).seq))))) 43,row (.slice ae s.ents.length ce) (s.ents.map cec) 106 7,row (.slice at_ s.ticks.length ct) (s.ticks.map lsc) 102 2,row (.slice ao O9.length co) (O9.map oc) 98 23,blk b19 (oc (gd l k)) 98]:=hs
   subst hJ
   refine Qag (Qag (Qab (Qaa (QaO (cs:=vc v) Qbu hs 0 rfl rfl rfl (Qaa (Qaf Qbl rfl (Qaa (QbT (vs:=dc ((gd l k).dot)) QcE hs 8 rfl rfl rfl rfl (Qaa (Qas (vs:=[.agg (vc v).toArray,.agg (dc ((gd l k).dot)).toArray]) (V:=.bool (Qbv v ((gd l k).dot))) QlT rfl rfl ?hc hs fun w24 hs=>?_))))))))))
   case hc=>exact (QfZ _ v ((gd l k).dot) (by first|assumption|exact QcF (by omega) (by omega) (by omega) (by omega)))
   refine Qaa (Qbx rfl (Qae (Qam (t:=!(Qbv v ((gd l k).dot))) rfl (fun c25=>?_) (fun c25=>?_))))
   ·
    replace c25:=Qby c25
    refine Qag (Qab (Qaa (Qaf Qhk rfl (Qaa (QaP (V:=.slice ao O9.length co) QiM hs 4 rfl rfl rfl (Qaa (QaO (cs:=oc (gd l k)) QbB hs 8 rfl rfl rfl (Qaa (QhI (vals:=[.agg (oc (gd l k)).toArray]) (ls:=List.map oc ([gd l k]:List Opn)) Qi3 rfl rfl rfl (Qbj (enc:=oc) (fun _=>rfl) _) (QaV Qc1 _) (QQ8 rfl) hs fun b26 w27 hs=>(Qaa (Qdb (ls':=(O9++[gd l k]).map oc) (n:=(O9++[gd l k]).length) Qi3 hs 7 rfl rfl rfl (hs.rd 9 rfl) (QaV Qc1 _) (by simp only [QQ6,QQ7,List.length_cons,List.length_nil];omega) (by simp) (by simp) fun a28 c28 w29 hs=>?_)))))))))))
    replace hs:Own w no w29 [blk b1 (vc v) 24,blk b3 (((vc vzero)++[(.slice none 0 0:Value),(.slice none 0 0:Value) ])++[(.slice none 0 0:Value) ]++(vc vzero)) 43,row (.slice a9 ((QaF l v).length) c10) ((QaF l v).map oc) 98 23,blk b13 ((vc s.known)++[(.slice ae s.ents.length ce:Value),(.slice at_ s.ticks.length ct:Value) ]) 38,blk b15 (((vc vzero)++[(.slice none 0 0:Value),(.slice none 0 0:Value) ])++[(.slice ao O9.length co:Value) ]++(vc (vset u (((gd l k).dot).rep).toNat (max (vat u (((gd l k).dot).rep).toNat) (((gd l k).dot).seq))))) 43,row (.slice ae s.ents.length ce) (s.ents.map cec) 106 7,row (.slice at_ s.ticks.length ct) (s.ticks.map lsc) 102 2,row (.slice a28 ((O9++[gd l k]).length) c28) ((O9++[gd l k]).map oc) 98 23,blk b19 (oc (gd l k)) 98,row (.slice (some ⟨b26,0,none⟩) 1 1) ([gd l k].map oc) 98 23]:=hs
    refine Qaa (Qaf Qhk rfl (Qaa (QcQ (V:=.slice a28 ((O9++[gd l k]).length) c28) (cs':=((vc vzero)++[(.slice none 0 0:Value),(.slice none 0 0:Value) ])++[(.slice a28 ((O9++[gd l k]).length) c28:Value) ]++(vc (vset u (((gd l k).dot).rep).toNat (max (vat u (((gd l k).dot).rep).toNat) (((gd l k).dot).seq))))) QiM hs 4 rfl rfl rfl rfl (QQ8 rfl) rfl fun w30 hs=>(Qae (QaJ (Qab (Qaa (QaD (a:=(k:Int)) (b:=1) (c:=((k+1:Nat):Int)) rfl rfl (Qaj (by omega) (by omega)) (Qaa (Qac (V:=I6 ((k+1:Nat):Int)) rfl (Qae ?_)))))))))))
    refine ⟨_,?_,_,k+1,s,ae,ce,at_,ct,a28,c28,O9++[gd l k],vset u (((gd l k).dot).rep).toNat (max (vat u (((gd l k).dot).rep).toNat) (((gd l k).dot).seq)),Qak (Qao (ds:=([5,9,10,11]++sq 30 41)) (by repeat (first|exact Agr.refl _ _|refine Agr.upd ?_ rfl|refine Agr.mix ?_ rfl))) rfl,(by omega),(QmD hsk (by omega) c25),(Qpo hO9 (by omega) c25),(Qh1 hq hku (by omega)),(by simp only [QQ7,List.length_singleton];omega),rfl,hs.take 8⟩
    omega
   replace c25:=Qbr c25
   refine Qap (Qag ?_)
   have hst9:=Qmq hu0 hsk (by omega) c25
   refine Qab (Qaa (QaO (cs:=(vc s.known)++[(.slice ae s.ents.length ce:Value),(.slice at_ s.ticks.length ct:Value) ]) QbS hs 3 rfl rfl rfl (Qaa (QaO (cs:=oc (gd l k)) QbB hs 8 rfl rfl rfl (Qaa (Qbm (α:=(Option Addr × Nat) × (Option Addr × Nat)) (vs:=[.agg ((vc s.known)++[(.slice ae s.ents.length ce:Value),(.slice at_ s.ticks.length ct:Value) ]).toArray,.agg (oc (gd l k)).toArray]) (V:=fun x:(Option Addr × Nat) × (Option Addr × Nat)=>.tuple #[.agg (vc (QaT s (gd l k)).known++[(.slice x.1.1 ((QaT s (gd l k)).ents).length x.1.2:Value),(.slice x.2.1 ((QaT s (gd l k)).ticks).length x.2.2:Value)]).toArray,I6 (QcH s (gd l k))]) (Lo:=fun x=>[row (.slice x.1.1 ((QaT s (gd l k)).ents).length x.1.2) (((QaT s (gd l k)).ents).map cec) 106 7,row (.slice x.2.1 ((QaT s (gd l k)).ticks).length x.2.2) (((QaT s (gd l k)).ticks).map lsc) 102 2]) (F:=fun _ _=>True) QuE rfl rfl ?hc hs fun x32 w31 hs _=>?_))))))
   case hc=>exact (Qmw _ s ae ce at_ ct (gd l k) (hl _ (Qbz (by omega))) hao.1 (by omega) (by omega) (hs.rd 5 rfl) (hs.rd 6 rfl))
   refine Qaa (Qac (V:=.tuple #[.agg ((vc ((QaT s (gd l k)).known))++[(.slice x32.1.1 (((QaT s (gd l k)).ents).length) x32.1.2:Value),(.slice x32.2.1 (((QaT s (gd l k)).ticks).length) x32.2.2:Value) ]).toArray,I6 (QcH s (gd l k))]) rfl (Qaa (Qax (V:=.agg ((vc ((QaT s (gd l k)).known))++[(.slice x32.1.1 (((QaT s (gd l k)).ents).length) x32.1.2:Value),(.slice x32.2.1 (((QaT s (gd l k)).ticks).length) x32.2.2:Value) ]).toArray) rfl rfl (Qaa (Qax (V:=I6 (QcH s (gd l k))) rfl rfl (Qaa (QaL (cs:=(vc vzero)++[(.slice none 0 0:Value),(.slice none 0 0:Value) ]) Qfr rfl hs fun b33 w34 hs=>?_)))))))
   replace hs:Own w no w34 [blk b1 (vc v) 24,blk b3 (((vc vzero)++[(.slice none 0 0:Value),(.slice none 0 0:Value) ])++[(.slice none 0 0:Value) ]++(vc vzero)) 43,row (.slice a9 ((QaF l v).length) c10) ((QaF l v).map oc) 98 23,blk b13 ((vc s.known)++[(.slice ae s.ents.length ce:Value),(.slice at_ s.ticks.length ct:Value) ]) 38,blk b15 (((vc vzero)++[(.slice none 0 0:Value),(.slice none 0 0:Value) ])++[(.slice ao O9.length co:Value) ]++(vc (vset u (((gd l k).dot).rep).toNat (max (vat u (((gd l k).dot).rep).toNat) (((gd l k).dot).seq))))) 43,row (.slice ae s.ents.length ce) (s.ents.map cec) 106 7,row (.slice at_ s.ticks.length ct) (s.ticks.map lsc) 102 2,row (.slice ao O9.length co) (O9.map oc) 98 23,blk b19 (oc (gd l k)) 98,row (.slice x32.1.1 (((QaT s (gd l k)).ents).length) x32.1.2) (((QaT s (gd l k)).ents).map cec) 106 7,row (.slice x32.2.1 (((QaT s (gd l k)).ticks).length) x32.2.2) (((QaT s (gd l k)).ticks).map lsc) 102 2,blk b33 ((vc vzero)++[(.slice none 0 0:Value),(.slice none 0 0:Value) ]) 38]:=hs
   refine Qaa (QcG (V:=.agg ((vc ((QaT s (gd l k)).known))++[(.slice x32.1.1 (((QaT s (gd l k)).ents).length) x32.1.2:Value),(.slice x32.2.1 (((QaT s (gd l k)).ticks).length) x32.2.2:Value) ]).toArray) (vs:=(vc ((QaT s (gd l k)).known))++[(.slice x32.1.1 (((QaT s (gd l k)).ents).length) x32.1.2:Value),(.slice x32.2.1 (((QaT s (gd l k)).ticks).length) x32.2.2:Value) ]) (cs':=(vc ((QaT s (gd l k)).known))++[(.slice x32.1.1 (((QaT s (gd l k)).ents).length) x32.1.2:Value),(.slice x32.2.1 (((QaT s (gd l k)).ticks).length) x32.2.2:Value) ]) QbS.1 hs 11 rfl rfl rfl rfl rfl (QQ8 rfl) (Qbh (QbQ _) (Qat rfl (Qat rfl Qa1))) (Qaz rfl) fun w35 hs=>(Qaa (Qad (V:=I6 (QcH s (gd l k))) rfl (Qae (Qag (Qag (Qab (Qaa (Qac (V:=I6 (QcH s (gd l k))) rfl (Qaa (QaX (V:=.bool (!decide (QcH s (gd l k)=0))) (V':=.bool false) (QcC rfl rfl ⟨rfl,rfl⟩) (congrArg Value.bool (by rw [hst9.1];rfl)) (Qae (Qb1 rfl ?_)))))))))))))
   refine Qap (Qab (Qaa (QaO (cs:=(vc ((QaT s (gd l k)).known))++[(.slice x32.1.1 (((QaT s (gd l k)).ents).length) x32.1.2:Value),(.slice x32.2.1 (((QaT s (gd l k)).ticks).length) x32.2.2:Value) ]) QbS hs 11 rfl rfl rfl (Qaa (QcG (V:=.agg ((vc ((QaT s (gd l k)).known))++[(.slice x32.1.1 (((QaT s (gd l k)).ents).length) x32.1.2:Value),(.slice x32.2.1 (((QaT s (gd l k)).ticks).length) x32.2.2:Value) ]).toArray) (vs:=(vc ((QaT s (gd l k)).known))++[(.slice x32.1.1 (((QaT s (gd l k)).ents).length) x32.1.2:Value),(.slice x32.2.1 (((QaT s (gd l k)).ticks).length) x32.2.2:Value) ]) (cs':=(vc ((QaT s (gd l k)).known))++[(.slice x32.1.1 (((QaT s (gd l k)).ents).length) x32.1.2:Value),(.slice x32.2.1 (((QaT s (gd l k)).ticks).length) x32.2.2:Value) ]) QbS.1 hs 3 rfl rfl rfl rfl rfl (QQ8 rfl) (Qbh (QbQ _) (Qat rfl (Qat rfl Qa1))) (Qaz rfl) fun w36 hs=>(Qae (Qab (Qaa (QaD (a:=(k:Int)) (b:=1) (c:=((k+1:Nat):Int)) rfl rfl (Qaj (by omega) (by omega)) (Qaa (Qac (V:=I6 ((k+1:Nat):Int)) rfl (Qae ?_))))))))))))
   have ho:=hs.sel [0,1,2,3,4,9,10,7] (L':=[blk b1 (vc v) 24,blk b3 (((vc vzero)++[(.slice none 0 0:Value),(.slice none 0 0:Value) ])++[(.slice none 0 0:Value) ]++(vc vzero)) 43,row (.slice a9 ((QaF l v).length) c10) ((QaF l v).map oc) 98 23,blk b13 ((vc ((QaT s (gd l k)).known))++[(.slice x32.1.1 (((QaT s (gd l k)).ents).length) x32.1.2:Value),(.slice x32.2.1 (((QaT s (gd l k)).ticks).length) x32.2.2:Value) ]) 38,blk b15 (((vc vzero)++[(.slice none 0 0:Value),(.slice none 0 0:Value) ])++[(.slice ao O9.length co:Value) ]++(vc (vset u (((gd l k).dot).rep).toNat (max (vat u (((gd l k).dot).rep).toNat) (((gd l k).dot).seq))))) 43,row (.slice x32.1.1 (((QaT s (gd l k)).ents).length) x32.1.2) (((QaT s (gd l k)).ents).map cec) 106 7,row (.slice x32.2.1 (((QaT s (gd l k)).ticks).length) x32.2.2) (((QaT s (gd l k)).ticks).map lsc) 102 2,row (.slice ao O9.length co) (O9.map oc) 98 23]) (by decide) rfl
   replace hs:=ho
   refine ⟨_,?_,_,k+1,(QaT s (gd l k)),x32.1.1,x32.1.2,x32.2.1,x32.2.2,ao,co,O9,vset u (((gd l k).dot).rep).toNat (max (vat u (((gd l k).dot).rep).toNat) (((gd l k).dot).seq)),Qak (Qao (ds:=([5,9,10,11]++sq 30 41)) (by repeat (first|exact Agr.refl _ _|refine Agr.upd ?_ rfl|refine Agr.mix ?_ rfl))) rfl,(by omega),hst9.2,(QqZ hO9 (by omega) c25),(Qh1 hq hku (by omega)),(by omega),rfl,hs.take 8⟩
   omega
  replace c18:=QQ2 c18
  refine QaJ (Qag (Qab (Qaa (QaO (cs:=(vc s.known)++[(.slice ae s.ents.length ce:Value),(.slice at_ s.ticks.length ct:Value) ]) QbS hs 3 rfl rfl rfl (Qaa (Qaf Qff rfl (Qaa (QcG (V:=.agg ((vc s.known)++[(.slice ae s.ents.length ce:Value),(.slice at_ s.ticks.length ct:Value) ]).toArray) (vs:=(vc s.known)++[(.slice ae s.ents.length ce:Value),(.slice at_ s.ticks.length ct:Value) ]) (cs':=((vc s.known)++[(.slice ae s.ents.length ce:Value),(.slice at_ s.ticks.length ct:Value) ])++[(.slice ao O9.length co:Value) ]++(vc u)) QbS.1 hs 4 rfl rfl rfl rfl rfl (QQ8 rfl) (Qbh (QbQ _) (Qat rfl (Qat rfl Qa1))) (QoN rfl) fun w37 hs=>(Qae (Qag (Qab (Qaa (QaO (cs:=((vc s.known)++[(.slice ae s.ents.length ce:Value),(.slice at_ s.ticks.length ct:Value) ])++[(.slice ao O9.length co:Value) ]++(vc u)) QcV hs 4 rfl rfl rfl (Qaa (QcG (V:=.agg (((vc s.known)++[(.slice ae s.ents.length ce:Value),(.slice at_ s.ticks.length ct:Value) ])++[(.slice ao O9.length co:Value) ]++(vc u)).toArray) (vs:=((vc s.known)++[(.slice ae s.ents.length ce:Value),(.slice at_ s.ticks.length ct:Value) ])++[(.slice ao O9.length co:Value) ]++(vc u)) (cs':=((vc s.known)++[(.slice ae s.ents.length ce:Value),(.slice at_ s.ticks.length ct:Value) ])++[(.slice ao O9.length co:Value) ]++(vc u)) QcV.1 hs 1 rfl rfl rfl rfl rfl (QQ8 rfl) (Qbh (Qbh (Qbh (QbQ _) (Qat rfl (Qat rfl Qa1))) (Qat rfl Qa1)) (QbQ _)) (Qaz rfl) fun w38 hs=>(Qaa (Qad (V:=.bool true) rfl (Qae (Qav ?_)))))))))))))))))))
  refine ⟨_,Qci (cs:=((vc s.known)++[(.slice ae s.ents.length ce:Value),(.slice at_ s.ticks.length ct:Value) ])++[(.slice ao O9.length co:Value) ]++(vc u)) (V:=.bool true) Tryz.results28 QcV hs 1 rfl rfl rfl rfl,?_⟩
  obtain ⟨hX,hY⟩:=Qos hk1.1 hk1.2 c11
  rw [hX,hY,Qpm (by omega) hsk hO9 hku]
  have ho:=hs.sel [5,6,7] (L':=[row (.slice ae s.ents.length ce) (s.ents.map cec) 106 7,row (.slice at_ s.ticks.length ct) (s.ticks.map lsc) 102 2,row (.slice ao O9.length co) (O9.map oc) 98 23]) (by decide) rfl
  exact ⟨(((ae,ce),(at_,ct)),(ao,co)),rfl,ho,trivial⟩
 refine Qbq [some 12,some 13,some 14,some 15,some 16,some 17,some 18,some 19,some 20,some 21,some 22,some 23,some 24,some 25,some 26] [] [0,1,3,7,15,31,63,127,255,511,511,2047,4095,8191,16383] [pv (.slice a l.length ca),pv (.bool (QbO l)),pv (.bool (!(QbO l))),pv (.bool (!(QbO l))),pg ((!(QbO l)) == false) (.slice a l.length ca),pg ((!(QbO l)) == false) (I6 ((l.length:Nat):Int)),pg ((!(QbO l)) == false) (.bool (decide (30<((l.length:Nat):Int)))),pv (.bool true),pv (.bool true),pg false (.bool true),pg false (.bool true),pg false (.bool true),pg false (.bool true),pg false (.bool true),pv (.bool true)] (fun _ _=>_) [14] (by kernel_rfl) hs ⟨?_,?_,?_,?_,?_,?_,?_,?_,?_,?_,?_,?_,?_,?_,?_,trivial⟩ ?_
 ·exact oa [] fun D J w hs=>Qac (V:=.slice a l.length ca) rfl (Zz hs)
 ·exact oa [0] fun D J w hs=>Qas (vs:=[.slice a l.length ca]) (V:=.bool (QbO l)) Qr0 rfl rfl (Qm4 _ a ca l hl (Rd.own' hr hs)) hs fun _ hs=>Zz hs
 ·exact oa [1] fun D J w hs=>Qbx rfl (Zz hs)
 ·exact oa [2] fun D J w hs=>Qac (V:=.bool (!(QbO l))) rfl (Zz hs)
 ·exact og [3] fun D J w hG hs=>Qac (V:=.slice a l.length ca) rfl (Zz hs)
 ·exact oy [3,4] [4] fun D J w hG hs=>Qa0 (n:=l.length) Qco (Rd.own' hr hs) (by simp) rfl (Zz hs)
 ·exact oy [3,5] [5] fun D J w hG hs=>QbU rfl rfl (Zz hs)
 ·exact oa [3,6] fun D J w hs=>QaX (V:=.bool ((!(QbO l))||(decide (30<((l.length:Nat):Int))))) (V':=.bool true) (Qb2 (h':=decide (30<((l.length:Nat):Int))) rfl rfl rfl ⟨rfl,rfl⟩) (congrArg Value.bool (Qp7 hk1)) (Zz hs)
 ·exact oa [7] fun D J w hs=>Qac (V:=.bool true) rfl (Zz hs)
 ·exact obg [] [] true rfl (fun _=>rfl) rfl (fun _ _ _ _ h=>h) (fun _ _ _ h=>nomatch h)
 ·exact obg [] [] true rfl (fun _=>rfl) rfl (fun _ _ _ _ h=>h) (fun _ _ _ h=>nomatch h)
 ·exact obg [] [] true rfl (fun _=>rfl) rfl (fun _ _ _ _ h=>h) (fun _ _ _ h=>nomatch h)
 ·exact obg [] [] true rfl (fun _=>rfl) rfl (fun _ _ _ _ h=>h) (fun _ _ _ h=>nomatch h)
 ·exact obg [] [] true rfl (fun _=>rfl) rfl (fun _ _ _ _ h=>h) (fun _ _ _ h=>nomatch h)
 ·exact oa [8] fun D J w hs=>Qcp (g:=true) (V:=.bool true) rfl rfl (Zz hs)
 rintro J1 w40 J2 hJ hs
 replace hJ:J2=upd (mix (sq 12 15) J1 _) 26 (.bool true):=hJ
 subst hJ
 refine QcB rfl ?_
 refine Qag (Qab (Qaa (Qcr (vs:=[]) (cs:=((vc vzero)++[(.slice none 0 0:Value),(.slice none 0 0:Value) ])++[(.slice none 0 0:Value) ]++(vc vzero)) [(vc vzero)++[(.slice none 0 0:Value),(.slice none 0 0:Value) ],[(.slice none 0 0:Value)],vc vzero] [(vc vzero)++[(.slice none 0 0:Value),(.slice none 0 0:Value) ],[(.slice none 0 0:Value)],vc vzero] QrB rfl (rfl) rfl rfl (Qaa (QcG (V:=.agg (((vc vzero)++[(.slice none 0 0:Value),(.slice none 0 0:Value) ])++[(.slice none 0 0:Value) ]++(vc vzero)).toArray) (vs:=((vc vzero)++[(.slice none 0 0:Value),(.slice none 0 0:Value) ])++[(.slice none 0 0:Value) ]++(vc vzero)) (cs':=((vc vzero)++[(.slice none 0 0:Value),(.slice none 0 0:Value) ])++[(.slice none 0 0:Value) ]++(vc vzero)) QcV.1 hs 1 rfl rfl rfl rfl rfl (QQ8 rfl) (Qbh (Qbh (Qbh (QbQ _) (Qat rfl (Qat rfl Qa1))) (Qat rfl Qa1)) (QbQ _)) (Qaz rfl) fun w41 hs=>(Qaa (Qad (V:=.bool false) rfl (Qae (Qav ?_)))))))))
 refine ⟨_,Qci (cs:=((vc vzero)++[(.slice none 0 0:Value),(.slice none 0 0:Value) ])++[(.slice none 0 0:Value) ]++(vc vzero)) (V:=.bool false) Tryz.results28 QcV hs 1 rfl rfl rfl rfl,?_⟩
 obtain ⟨hX,hY⟩:=Qn8 (v:=v) hk1
 rw [hX,hY]
 exact ⟨(((none,0),(none,0)),(none,0)),rfl,(((hs.take 0).more _ (Qba _ _ 106 7)).more _ (Qba _ _ 102 2)).more _ (Qba _ _ 98 23),trivial⟩
end Tt
end Go.Proofs
namespace Go.Proofs
open Go Go.Vx Go.RowKit
namespace Tt
theorem cutsIdle_ok (w:World) (a:Option Addr) (ca:Nat) (l:List Opn) (hl:∀ o∈l,Qb8 o) (hr:Rd w (.slice a l.length ca) 23 (l.map oc)) (hsortE:Qgx Tryz.prog 48 49 cec 106 7 Qj4) (hsortU:Qgz Tryz.prog 134 .u16 32) (v0 v1:Vec) (h0:QbR v0) (h1:QbR v1) (now i1 i2:Int) (hnw:0<=now/\now<4294967296) (hi1:0<=i1/\i1<4294967296) (hi2:0<=i2/\i2<4294967296):Calls Tryz.prog 8 #[.slice a l.length ca,.agg ((vc v0)++(vc v1)).toArray,.agg #[.int .u32 now,.int .u32 i1,.int .u32 i2]] w (fun e w'=>e = .returned (.bool true)/\Own w no w' []):=by
 refine Qai (n:=136) Tryz.func8 rfl Tryz.ntmps8 rfl ?_
 have hs:=Own.start w
 have hn:=hr.sml
 refine Qag (Qab (Qaa (Qa4 (V:=.agg ((vc v0)++(vc v1)).toArray) (cs:=(vc v0)++(vc v1)) rfl rfl hs fun b1 w2 hs=>(Qaa (Qa4 (V:=.agg #[.int .u32 now,.int .u32 i1,.int .u32 i2]) (cs:=[.int .u32 now,.int .u32 i1,.int .u32 i2]) rfl rfl hs fun b3 w4 hs=>(Qaa (Qad (V:=.bool false) rfl (Qae (Qag (Qag (Qab (Qaa (Qas (vs:=[]) (V:=.bool true) Qvk rfl rfl ?hc hs fun w5 hs=>?_)))))))))))))
 case hc=>exact (QkE _ hsortE hsortU)
 refine Qaa (Qbx rfl (Qae (Qb1 rfl ?_)))
 refine Qap (Qag (Qab (Qaa (Qac (V:=.slice a l.length ca) rfl (Qaa (Qgw QoI Qbu.1 rfl rfl (by decide) (by decide) (Qaa (QbT (vs:=vc v0) Qbu hs 0 rfl rfl rfl rfl (Qaa (Qbm (α:=((Option Addr × Nat) × (Option Addr × Nat)) × (Option Addr × Nat)) (vs:=[.slice a l.length ca,.agg (vc v0).toArray]) (V:=fun x=>.tuple #[.agg ((vc (Qal l v0).base.known++[(.slice x.1.1.1 (Qal l v0).base.ents.length x.1.1.2:Value),(.slice x.1.2.1 (Qal l v0).base.ticks.length x.1.2.2:Value)])++[(.slice x.2.1 (Qal l v0).ops.length x.2.2:Value)]++vc (Qal l v0).known).toArray,.bool (Qcv l v0)]) (Lo:=fun x=>[row (.slice x.1.1.1 (Qal l v0).base.ents.length x.1.1.2) ((Qal l v0).base.ents.map cec) 106 7,row (.slice x.1.2.1 (Qal l v0).base.ticks.length x.1.2.2) ((Qal l v0).base.ticks.map lsc) 102 2,row (.slice x.2.1 (Qal l v0).ops.length x.2.2) ((Qal l v0).ops.map oc) 98 23]) (F:=fun _ _=>True) Quh rfl rfl ?hc hs fun x6 w7 hs _=>?_))))))))))
 case hc=>exact (QqE _ a ca l v0 hl (Rd.own' hr hs))
 refine Qaa (Qac (V:=.tuple #[.agg (((vc ((Qal l v0).base.known))++[(.slice x6.1.1.1 ((Qal l v0).base.ents.length) x6.1.1.2:Value),(.slice x6.1.2.1 ((Qal l v0).base.ticks.length) x6.1.2.2:Value) ])++[(.slice x6.2.1 ((Qal l v0).ops.length) x6.2.2:Value) ]++(vc ((Qal l v0).known))).toArray,.bool (Qcv l v0)]) rfl (Qaa (Qax (V:=.agg (((vc ((Qal l v0).base.known))++[(.slice x6.1.1.1 ((Qal l v0).base.ents.length) x6.1.1.2:Value),(.slice x6.1.2.1 ((Qal l v0).base.ticks.length) x6.1.2.2:Value) ])++[(.slice x6.2.1 ((Qal l v0).ops.length) x6.2.2:Value) ]++(vc ((Qal l v0).known))).toArray) rfl rfl (Qaa (Qax (V:=.bool (Qcv l v0)) rfl rfl (Qaa (QaL (cs:=((vc vzero)++[(.slice none 0 0:Value),(.slice none 0 0:Value) ])++[(.slice none 0 0:Value) ]++(vc vzero)) Qpd rfl hs fun b8 w9 hs=>?_)))))))
 replace hs:Own w no w9 [blk b1 ((vc v0)++(vc v1)) 88,blk b3 [.int .u32 now,.int .u32 i1,.int .u32 i2] 89,row (.slice x6.1.1.1 ((Qal l v0).base.ents.length) x6.1.1.2) (((Qal l v0).base.ents).map cec) 106 7,row (.slice x6.1.2.1 ((Qal l v0).base.ticks.length) x6.1.2.2) (((Qal l v0).base.ticks).map lsc) 102 2,row (.slice x6.2.1 ((Qal l v0).ops.length) x6.2.2) (((Qal l v0).ops).map oc) 98 23,blk b8 (((vc vzero)++[(.slice none 0 0:Value),(.slice none 0 0:Value) ])++[(.slice none 0 0:Value) ]++(vc vzero)) 43]:=hs
 refine Qaa (QcG (V:=.agg (((vc ((Qal l v0).base.known))++[(.slice x6.1.1.1 ((Qal l v0).base.ents.length) x6.1.1.2:Value),(.slice x6.1.2.1 ((Qal l v0).base.ticks.length) x6.1.2.2:Value) ])++[(.slice x6.2.1 ((Qal l v0).ops.length) x6.2.2:Value) ]++(vc ((Qal l v0).known))).toArray) (vs:=((vc ((Qal l v0).base.known))++[(.slice x6.1.1.1 ((Qal l v0).base.ents.length) x6.1.1.2:Value),(.slice x6.1.2.1 ((Qal l v0).base.ticks.length) x6.1.2.2:Value) ])++[(.slice x6.2.1 ((Qal l v0).ops.length) x6.2.2:Value) ]++(vc ((Qal l v0).known))) (cs':=((vc ((Qal l v0).base.known))++[(.slice x6.1.1.1 ((Qal l v0).base.ents.length) x6.1.1.2:Value),(.slice x6.1.2.1 ((Qal l v0).base.ticks.length) x6.1.2.2:Value) ])++[(.slice x6.2.1 ((Qal l v0).ops.length) x6.2.2:Value) ]++(vc ((Qal l v0).known))) QcV.1 hs 5 rfl rfl rfl rfl rfl (QQ8 rfl) (Qbh (Qbh (Qbh (QbQ _) (Qat rfl (Qat rfl Qa1))) (Qat rfl Qa1)) (QbQ _)) (Qaz rfl) fun w10 hs=>(Qaa (Qad (V:=.bool (Qcv l v0)) rfl (Qae (Qag (Qag (Qbq [some 29,some 30,some 31,some 32,some 33,some 34,some 35,some 36,some 37] [] [0,1,3,7,15,7,39,127,255] [pv (.bool (Qcv l v0)),pv (.bool (!(Qcv l v0))),pv (.bool (!(Qcv l v0))),pg ((!(Qcv l v0)) == false) (.pointer (some ⟨b3,0+(1:Int).toNat,none⟩)),pg ((!(Qcv l v0)) == false) (.int .u32 i1),pg ((!(Qcv l v0)) == false) (.pointer (some ⟨b3,0+(2:Int).toNat,none⟩)),pg ((!(Qcv l v0)) == false) (.int .u32 i2),pg ((!(Qcv l v0)) == false) (.bool (decide (i2<i1))),pv (.bool ((!(Qcv l v0))||(decide (i2<i1))))] (fun _ _=>_) [8] (by kernel_rfl) hs ⟨?_,?_,?_,?_,?_,?_,?_,?_,?_,trivial⟩ ?_)))))))
 ·exact oa [] fun D J w hs=>Qac (V:=.bool (Qcv l v0)) rfl (Zz hs)
 ·exact oa [0] fun D J w hs=>Qbx rfl (Zz hs)
 ·exact oa [1] fun D J w hs=>Qac (V:=.bool (!(Qcv l v0))) rfl (Zz hs)
 ·exact og [2] fun D J w hG hs=>Qbo Qih QaN.1 rfl rfl (by decide) (by decide) (Zz hs)
 ·exact oy [2,3] [3] fun D J w hG hs=>QaP (V:=.int .u32 i1) QaN hs 1 rfl rfl rfl (Zz hs)
 ·exact og [2] fun D J w hG hs=>Qbo Qih QaN.1 rfl rfl (by decide) (by decide) (Zz hs)
 ·exact oy [2,5] [5] fun D J w hG hs=>QaP (V:=.int .u32 i2) QaN hs 1 rfl rfl rfl (Zz hs)
 ·exact oy [2,4,6] [4,6] fun D J w hG hs=>QbU rfl rfl (Zz hs)
 ·exact oa [2,7] fun D J w hs=>Qb2 (h':=decide (i2<i1)) rfl rfl rfl (Zz hs)
 rintro J1 w11 J2 hJ hs
 replace hJ:J2=upd (mix (sq 29 9) J1 _) 37 (.bool ((!(Qcv l v0))||(decide (i2<i1)))):=hJ
 subst hJ
 refine Qam (t:=(!(Qcv l v0))||(decide (i2<i1))) rfl (fun c12=>?_) (fun c12=>?_)
 ·
  refine Qag (Qab (Qaa (Qad (V:=.bool true) rfl (Qae (Qav ?_)))))
  refine ⟨_,Qaq (V:=.bool true) Tryz.results8 rfl,(Zr hs ?_)⟩
  rfl
 have c12r:=QfW c12
 replace c12:=QfV c12
 replace c12:=Qbr c12
 replace c12r:=QQ2 c12r
 refine Qap (Qag ?_)
 have hp:=Qtv hl c12
 refine Qab (Qaa (QaO (cs:=((vc ((Qal l v0).base.known))++[(.slice x6.1.1.1 ((Qal l v0).base.ents.length) x6.1.1.2:Value),(.slice x6.1.2.1 ((Qal l v0).base.ticks.length) x6.1.2.2:Value) ])++[(.slice x6.2.1 ((Qal l v0).ops.length) x6.2.2:Value) ]++(vc ((Qal l v0).known))) QcV hs 5 rfl rfl rfl (Qaa (Qgw QoI Qbu.1 rfl rfl (by decide) (by decide) (Qaa (QbT (vs:=vc v1) Qbu hs 0 rfl rfl rfl rfl (Qaa (Qbo Qih QaN.1 rfl rfl (by decide) (by decide) (Qaa (QaP (V:=.int .u32 now) QaN hs 1 rfl rfl rfl (Qaa (Qbo Qih QaN.1 rfl rfl (by decide) (by decide) (Qaa (QaP (V:=.int .u32 i1) QaN hs 1 rfl rfl rfl (Qaa (Qbm (vs:=[.agg (((vc ((Qal l v0).base.known))++[(.slice x6.1.1.1 ((Qal l v0).base.ents.length) x6.1.1.2:Value),(.slice x6.1.2.1 ((Qal l v0).base.ticks.length) x6.1.2.2:Value) ])++[(.slice x6.2.1 ((Qal l v0).ops.length) x6.2.2:Value) ]++(vc ((Qal l v0).known))).toArray,.agg (vc v1).toArray,.int .u32 now,.int .u32 i1]) (V:=fun x:Option Addr × Nat=>.tuple #[.slice x.1 (abR (Qal l v0) v1 now i1).length x.2,I6 (abI (Qal l v0) v1 now i1)]) Qre rfl rfl (Ql2 _ (Qal l v0) x6.1.1.1 x6.1.1.2 x6.1.2.1 x6.1.2.2 x6.2.1 x6.2.2 v1 h1 now i1 ⟨hnw,by omega⟩ hsortE hsortU hp.ok hp.le hp.lt hp.lo (hs.rd 2 rfl) (hs.rd 3 rfl) (hs.rd 4 rfl)) hs fun x14 w13 hs _=>?_))))))))))))))))
 refine Qaa (Qac (V:=.tuple #[.slice x14.1 ((abR (Qal l v0) v1 now i1).length) x14.2,I6 (abI (Qal l v0) v1 now i1)]) rfl (Qaa (Qax (V:=.slice x14.1 ((abR (Qal l v0) v1 now i1).length) x14.2) rfl rfl (Qaa (Qax (V:=I6 (abI (Qal l v0) v1 now i1)) rfl rfl (Qaa (Qad (V:=.slice x14.1 ((abR (Qal l v0) v1 now i1).length) x14.2) rfl (Qaa (Qad (V:=I6 (abI (Qal l v0) v1 now i1)) rfl (Qae (Qag (Qab (Qaa (QaO (cs:=((vc ((Qal l v0).base.known))++[(.slice x6.1.1.1 ((Qal l v0).base.ents.length) x6.1.1.2:Value),(.slice x6.1.2.1 ((Qal l v0).base.ticks.length) x6.1.2.2:Value) ])++[(.slice x6.2.1 ((Qal l v0).ops.length) x6.2.2:Value) ]++(vc ((Qal l v0).known))) QcV hs 5 rfl rfl rfl (Qaa (Qgw QoI Qbu.1 rfl rfl (by decide) (by decide) (Qaa (QbT (vs:=vc v1) Qbu hs 0 rfl rfl rfl rfl (Qaa (Qbo Qih QaN.1 rfl rfl (by decide) (by decide) (Qaa (QaP (V:=.int .u32 now) QaN hs 1 rfl rfl rfl (Qaa (Qbo Qih QaN.1 rfl rfl (by decide) (by decide) (Qaa (QaP (V:=.int .u32 i2) QaN hs 1 rfl rfl rfl (Qaa (Qbm (vs:=[.agg (((vc ((Qal l v0).base.known))++[(.slice x6.1.1.1 ((Qal l v0).base.ents.length) x6.1.1.2:Value),(.slice x6.1.2.1 ((Qal l v0).base.ticks.length) x6.1.2.2:Value) ])++[(.slice x6.2.1 ((Qal l v0).ops.length) x6.2.2:Value) ]++(vc ((Qal l v0).known))).toArray,.agg (vc v1).toArray,.int .u32 now,.int .u32 i2]) (V:=fun x:Option Addr × Nat=>.tuple #[.slice x.1 (abR (Qal l v0) v1 now i2).length x.2,I6 (abI (Qal l v0) v1 now i2)]) Qre rfl rfl (Ql2 _ (Qal l v0) x6.1.1.1 x6.1.1.2 x6.1.2.1 x6.1.2.2 x6.2.1 x6.2.2 v1 h1 now i2 ⟨hnw,by omega⟩ hsortE hsortU hp.ok hp.le hp.lt hp.lo (hs.rd 2 rfl) (hs.rd 3 rfl) (hs.rd 4 rfl)) hs fun x16 w15 hs _=>?_))))))))))))))))))))))))))))
 refine Qaa (Qac (V:=.tuple #[.slice x16.1 ((abR (Qal l v0) v1 now i2).length) x16.2,I6 (abI (Qal l v0) v1 now i2)]) rfl (Qaa (Qax (V:=.slice x16.1 ((abR (Qal l v0) v1 now i2).length) x16.2) rfl rfl (Qaa (Qax (V:=I6 (abI (Qal l v0) v1 now i2)) rfl rfl (Qaa (Qad (V:=.slice x16.1 ((abR (Qal l v0) v1 now i2).length) x16.2) rfl (Qaa (Qad (V:=I6 (abI (Qal l v0) v1 now i2)) rfl (Qae (Qag (Qag (Qbq [some 60,some 61,some 62,some 63,some 64,some 65] [] [0,1,3,7,15,31] [pv (I6 (abI (Qal l v0) v1 now i1)),pv (.bool (!decide (abI (Qal l v0) v1 now i1=0))),pv (.bool (!decide (abI (Qal l v0) v1 now i1=0))),pg ((!decide (abI (Qal l v0) v1 now i1=0)) == false) (I6 (abI (Qal l v0) v1 now i2)),pg ((!decide (abI (Qal l v0) v1 now i1=0)) == false) (.bool (!decide (abI (Qal l v0) v1 now i2=0))),pv (.bool ((!decide (abI (Qal l v0) v1 now i1=0))||(!decide (abI (Qal l v0) v1 now i2=0))))] (fun _ _=>_) [5] (by kernel_rfl) hs ⟨?_,?_,?_,?_,?_,?_,trivial⟩ ?_)))))))))))))
 ·exact oa [] fun D J w hs=>Qac (V:=.int .i64 (abI (Qal l v0) v1 now i1)) rfl (Zz hs)
 ·exact oa [0] fun D J w hs=>QcC rfl rfl (Zz hs)
 ·exact oa [1] fun D J w hs=>Qac (V:=.bool (!decide (abI (Qal l v0) v1 now i1=0))) rfl (Zz hs)
 ·exact og [2] fun D J w hG hs=>Qac (V:=.int .i64 (abI (Qal l v0) v1 now i2)) rfl (Zz hs)
 ·exact oy [2,3] [3] fun D J w hG hs=>QcC rfl rfl (Zz hs)
 ·exact oa [2,4] fun D J w hs=>Qb2 (h':=!decide (abI (Qal l v0) v1 now i2=0)) rfl rfl rfl (Zz hs)
 rintro J1 w17 J2 hJ hs
 replace hJ:J2=upd (mix (sq 60 6) J1 _) 65 (.bool ((!decide (abI (Qal l v0) v1 now i1=0))||(!decide (abI (Qal l v0) v1 now i2=0)))):=hJ
 subst hJ
 refine Qam (t:=(!decide (abI (Qal l v0) v1 now i1=0))||(!decide (abI (Qal l v0) v1 now i2=0))) rfl (fun c18=>?_) (fun c18=>?_)
 ·
  refine Qag (Qbq [some 66,some 67,some 68,some 69,some 70,some 71,some 72,some 73,some 74,some 75,some 76,some 77,some 78,some 79,some 80,some 81,some 6] [] [0,1,3,7,15,31,63,127,255,511,1023,2047,4095,8191,16383,32767,65535] [pv (I6 (abI (Qal l v0) v1 now i1)),pv (.bool (decide (abI (Qal l v0) v1 now i1=0))),pv (.bool (decide (abI (Qal l v0) v1 now i1=0))),pg ((decide (abI (Qal l v0) v1 now i1=0)) == false) (.slice x14.1 ((abR (Qal l v0) v1 now i1).length) x14.2),pg ((decide (abI (Qal l v0) v1 now i1=0)) == false) (I6 (((abR (Qal l v0) v1 now i1).length:Nat):Int)),pg ((decide (abI (Qal l v0) v1 now i1=0)) == false) (.bool (decide ((((abR (Qal l v0) v1 now i1).length:Nat):Int)=0))),pv (.bool ((decide (abI (Qal l v0) v1 now i1=0))||(decide ((((abR (Qal l v0) v1 now i1).length:Nat):Int)=0)))),pv (.bool ((decide (abI (Qal l v0) v1 now i1=0))||(decide ((((abR (Qal l v0) v1 now i1).length:Nat):Int)=0)))),pg (((decide (abI (Qal l v0) v1 now i1=0))||(decide ((((abR (Qal l v0) v1 now i1).length:Nat):Int)=0))) == true) (I6 (abI (Qal l v0) v1 now i2)),pg (((decide (abI (Qal l v0) v1 now i1=0))||(decide ((((abR (Qal l v0) v1 now i1).length:Nat):Int)=0))) == true) (.bool (decide (abI (Qal l v0) v1 now i2=0))),pg (((decide (abI (Qal l v0) v1 now i1=0))||(decide ((((abR (Qal l v0) v1 now i1).length:Nat):Int)=0))) == true) (.bool (decide (abI (Qal l v0) v1 now i2=0))),pg ((((decide (abI (Qal l v0) v1 now i1=0))||(decide ((((abR (Qal l v0) v1 now i1).length:Nat):Int)=0))) == true)&&((decide (abI (Qal l v0) v1 now i2=0)) == false)) (.slice x16.1 ((abR (Qal l v0) v1 now i2).length) x16.2),pg ((((decide (abI (Qal l v0) v1 now i1=0))||(decide ((((abR (Qal l v0) v1 now i1).length:Nat):Int)=0))) == true)&&((decide (abI (Qal l v0) v1 now i2=0)) == false)) (I6 (((abR (Qal l v0) v1 now i2).length:Nat):Int)),pg ((((decide (abI (Qal l v0) v1 now i1=0))||(decide ((((abR (Qal l v0) v1 now i1).length:Nat):Int)=0))) == true)&&((decide (abI (Qal l v0) v1 now i2=0)) == false)) (.bool (decide ((((abR (Qal l v0) v1 now i2).length:Nat):Int)=0))),pg (((decide (abI (Qal l v0) v1 now i1=0))||(decide ((((abR (Qal l v0) v1 now i1).length:Nat):Int)=0))) == true) (.bool ((decide (abI (Qal l v0) v1 now i2=0))||(decide ((((abR (Qal l v0) v1 now i2).length:Nat):Int)=0)))),pv (.bool true),pv (.bool true)] (fun _ _=>_) [16] (by kernel_rfl) hs ⟨?_,?_,?_,?_,?_,?_,?_,?_,?_,?_,?_,?_,?_,?_,?_,?_,?_,trivial⟩ ?_)
  ·exact oa [] fun D J w hs=>Qac (V:=.int .i64 (abI (Qal l v0) v1 now i1)) rfl (Zz hs)
  ·exact oa [0] fun D J w hs=>QaW rfl rfl (Zz hs)
  ·exact oa [1] fun D J w hs=>Qac (V:=.bool (decide (abI (Qal l v0) v1 now i1=0))) rfl (Zz hs)
  ·exact og [2] fun D J w hG hs=>Qac (V:=.slice x14.1 ((abR (Qal l v0) v1 now i1).length) x14.2) rfl (Zz hs)
  ·exact oy [2,3] [3] fun D J w hG hs=>Qa0 (n:=(abR (Qal l v0) v1 now i1).length) QaK (hs.rd 6 rfl) (by simp) rfl (Zz hs)
  ·exact oy [2,4] [4] fun D J w hG hs=>QaW rfl rfl (Zz hs)
  ·exact oa [2,5] fun D J w hs=>Qb2 (h':=decide ((((abR (Qal l v0) v1 now i1).length:Nat):Int)=0)) rfl rfl rfl (Zz hs)
  ·exact oa [6] fun D J w hs=>Qac (V:=.bool ((decide (abI (Qal l v0) v1 now i1=0))||(decide ((((abR (Qal l v0) v1 now i1).length:Nat):Int)=0)))) rfl (Zz hs)
  ·exact og [7] fun D J w hG hs=>Qac (V:=.int .i64 (abI (Qal l v0) v1 now i2)) rfl (Zz hs)
  ·exact oy [7,8] [8] fun D J w hG hs=>QaW rfl rfl (Zz hs)
  ·exact oy [7,9] [9] fun D J w hG hs=>Qac (V:=.bool (decide (abI (Qal l v0) v1 now i2=0))) rfl (Zz hs)
  ·exact og [10] fun D J w hG hs=>Qac (V:=.slice x16.1 ((abR (Qal l v0) v1 now i2).length) x16.2) rfl (Zz hs)
  ·exact oy [10,11] [11] fun D J w hG hs=>Qa0 (n:=(abR (Qal l v0) v1 now i2).length) QaK (hs.rd 7 rfl) (by simp) rfl (Zz hs)
  ·exact oy [10,12] [12] fun D J w hG hs=>QaW rfl rfl (Zz hs)
  ·exact oy [7,10,13] [10] fun D J w hG hs=>QuH (h':=decide ((((abR (Qal l v0) v1 now i2).length:Nat):Int)=0)) (G:=(((decide (abI (Qal l v0) v1 now i1=0))||(decide ((((abR (Qal l v0) v1 now i1).length:Nat):Int)=0))) == true)) hG rfl rfl rfl (Zz hs)
  ·exact oa [7,14] fun D J w hs=>QaX (V:=.bool (((decide (abI (Qal l v0) v1 now i1=0))||(decide ((((abR (Qal l v0) v1 now i1).length:Nat):Int)=0)))&&((decide (abI (Qal l v0) v1 now i2=0))||(decide ((((abR (Qal l v0) v1 now i2).length:Nat):Int)=0))))) (V':=.bool true) (Qbg (h':=(decide (abI (Qal l v0) v1 now i2=0))||(decide ((((abR (Qal l v0) v1 now i2).length:Nat):Int)=0))) rfl rfl rfl ⟨rfl,rfl⟩) (congrArg Value.bool Qm5) (Zz hs)
  ·exact oa [15] fun D J w hs=>Qad (V:=.bool true) rfl (Zz hs)
  rintro J1 w19 J2 hJ hs
  replace hJ:J2=upd (mix (sq 66 16++[6]) J1 _) 6 (.bool true):=hJ
  subst hJ
  refine Qav ?_
  refine ⟨_,Qaq (V:=.bool true) Tryz.results8 rfl,(Zr hs ?_)⟩
  rfl
 have c18r:=QfW c18
 replace c18:=QfV c18
 replace c18:=Qbr c18
 replace c18:=QQ1 c18
 replace c18r:=Qbr c18r
 replace c18r:=QQ1 c18r
 refine Qap (Qag (Qag ?_))
 have ha1:abI (Qal l v0) v1 now i1=0:=c18
 have ha2:abI (Qal l v0) v1 now i2=0:=c18r
 have hal1:=QpR (Qal l v0) v1 now i1
 have hal2:=QpR (Qal l v0) v1 now i2
 have hpt:=hp.lt
 have hpo:=hp.lo
 refine Qab (Qaa (Qac (V:=.slice x16.1 ((abR (Qal l v0) v1 now i2).length) x16.2) rfl (Qaa (Qa0 (n:=(abR (Qal l v0) v1 now i2).length) QaK (hs.rd 7 rfl) (by simp) rfl (Qaa (Qac (V:=I6 0) rfl (Qae (Qan (QaC (fun J μ J' w'=>∃ (Jo:Env) (k:Nat),J'=upd (mix ([6,14,15,17,18,19]++sq 84 52) Jo J) 84 (I6 (k:Int))/\(k<=(abR (Qal l v0) v1 now i2).length)/\μ=(abR (Qal l v0) v1 now i2).length-k/\Own w no w' [blk b1 ((vc v0)++(vc v1)) 88,blk b3 [.int .u32 now,.int .u32 i1,.int .u32 i2] 89,row (.slice x6.1.1.1 ((Qal l v0).base.ents.length) x6.1.1.2) (((Qal l v0).base.ents).map cec) 106 7,row (.slice x6.1.2.1 ((Qal l v0).base.ticks.length) x6.1.2.2) (((Qal l v0).base.ticks).map lsc) 102 2,row (.slice x6.2.1 ((Qal l v0).ops.length) x6.2.2) (((Qal l v0).ops).map oc) 98 23,blk b8 (((vc ((Qal l v0).base.known))++[(.slice x6.1.1.1 ((Qal l v0).base.ents.length) x6.1.1.2:Value),(.slice x6.1.2.1 ((Qal l v0).base.ticks.length) x6.1.2.2:Value) ])++[(.slice x6.2.1 ((Qal l v0).ops.length) x6.2.2:Value) ]++(vc ((Qal l v0).known))) 43,row (.slice x14.1 ((abR (Qal l v0) v1 now i1).length) x14.2) ((abR (Qal l v0) v1 now i1).map (ic .u16)) 32 1,row (.slice x16.1 ((abR (Qal l v0) v1 now i2).length) x16.2) ((abR (Qal l v0) v1 now i2).map (ic .u16)) 32 1]) ?_ ?_)))))))))
 ·exact ⟨_,_,0,Qak (Qao (ds:=([6,14,15,17,18,19]++sq 84 52)) (Agr.refl _ _)) rfl,(by omega),rfl,hs⟩
 rintro μ J' w20 ⟨Jo,k,rfl,hk,rfl,hs⟩
 refine Qag (Qab (Qaa (Qa2 rfl rfl (Qae (Qag (Qam (t:=decide ((k:Int)<(((abR (Qal l v0) v1 now i2).length:Nat):Int))) rfl (fun c21=>?_) (fun c21=>?_)))))))
 ·
  replace c21:=QQ1 c21
  refine Qap (Qag (Qan (Qag ?_)))
  have hidm:=Qbz (l:=abR (Qal l v0) v1 now i2) (i:=k) (by omega)
  have hia:=QqL ha2 hidm
  have him:=QpH ha2
  refine Qab (Qaa (Qaw QaK Qar.1 (hs.rd 7 rfl) rfl rfl (by omega) (by rw [QQ6];omega) (Qaa (QaU (j:=0) (V:=I7 (gd (abR (Qal l v0) v1 now i2) k)) k Qar (hs.rd 7 rfl) (Qa9 (by omega)) rfl rfl (by omega) (Qaa (Qad (V:=I7 (gd (abR (Qal l v0) v1 now i2) k)) rfl (Qae (Qag (Qab (Qaa (Qad (V:=.bool false) rfl (Qae (Qag (Qag (Qab (Qaa (Qac (V:=.slice x14.1 ((abR (Qal l v0) v1 now i1).length) x14.2) rfl (Qaa (Qa0 (n:=(abR (Qal l v0) v1 now i1).length) QaK (hs.rd 6 rfl) (by simp) rfl (Qaa (Qac (V:=I6 0) rfl (Qae (Qan (QaC (fun J μ J' w'=>∃ (Jo:Env) (k2:Nat) (fd:Bool),J'=upd (upd (mix ([15,17]++sq 90 11) Jo J) 90 (I6 (k2:Int))) 15 (.bool fd)/\(k2<=(abR (Qal l v0) v1 now i1).length)/\(fd=((abR (Qal l v0) v1 now i1).take k2).any (fun m=>decide (m=gd (abR (Qal l v0) v1 now i2) k)))/\μ=(abR (Qal l v0) v1 now i1).length-k2/\Own w no w' [blk b1 ((vc v0)++(vc v1)) 88,blk b3 [.int .u32 now,.int .u32 i1,.int .u32 i2] 89,row (.slice x6.1.1.1 ((Qal l v0).base.ents.length) x6.1.1.2) (((Qal l v0).base.ents).map cec) 106 7,row (.slice x6.1.2.1 ((Qal l v0).base.ticks.length) x6.1.2.2) (((Qal l v0).base.ticks).map lsc) 102 2,row (.slice x6.2.1 ((Qal l v0).ops.length) x6.2.2) (((Qal l v0).ops).map oc) 98 23,blk b8 (((vc ((Qal l v0).base.known))++[(.slice x6.1.1.1 ((Qal l v0).base.ents.length) x6.1.1.2:Value),(.slice x6.1.2.1 ((Qal l v0).base.ticks.length) x6.1.2.2:Value) ])++[(.slice x6.2.1 ((Qal l v0).ops.length) x6.2.2:Value) ]++(vc ((Qal l v0).known))) 43,row (.slice x14.1 ((abR (Qal l v0) v1 now i1).length) x14.2) ((abR (Qal l v0) v1 now i1).map (ic .u16)) 32 1,row (.slice x16.1 ((abR (Qal l v0) v1 now i2).length) x16.2) ((abR (Qal l v0) v1 now i2).map (ic .u16)) 32 1]) ?_ ?_))))))))))))))))))))))))
  ·exact ⟨_,_,0,false,Qak (Qak (Qao (ds:=([15,17]++sq 90 11)) (Agr.refl _ _)) rfl) rfl,(by omega),rfl,rfl,hs⟩
  rintro μ J' w22 ⟨Jo,k2,fd,rfl,hk2,hfd,rfl,hs⟩
  refine Qag (Qab (Qaa (Qa2 rfl rfl (Qae (Qag (Qam (t:=decide ((k2:Int)<(((abR (Qal l v0) v1 now i1).length:Nat):Int))) rfl (fun c23=>?_) (fun c23=>?_)))))))
  ·
   replace c23:=QQ1 c23
   refine Qap (Qag (Qan (Qag (Qab (Qaa (Qaw QaK Qar.1 (hs.rd 6 rfl) rfl rfl (by omega) (by rw [QQ6];omega) (Qaa (QaU (j:=0) (V:=I7 (gd (abR (Qal l v0) v1 now i1) k2)) k2 Qar (hs.rd 6 rfl) (Qa9 (by omega)) rfl rfl (by omega) (Qaa (Qad (V:=I7 (gd (abR (Qal l v0) v1 now i1) k2)) rfl (Qae (Qbq [some 94,some 95,some 96,some 97,some 98,some 99,some 15] [] [0,1,3,3,15,31,63] [pv (.bool fd),pv (.bool fd),pg (fd == false) (I7 (gd (abR (Qal l v0) v1 now i1) k2)),pg (fd == false) (I7 (gd (abR (Qal l v0) v1 now i2) k)),pg (fd == false) (.bool (decide (gd (abR (Qal l v0) v1 now i1) k2=gd (abR (Qal l v0) v1 now i2) k))),pv (.bool (fd||(decide (gd (abR (Qal l v0) v1 now i1) k2=gd (abR (Qal l v0) v1 now i2) k)))),pv (.bool (fd||(decide (gd (abR (Qal l v0) v1 now i1) k2=gd (abR (Qal l v0) v1 now i2) k))))] (fun _ _=>_) [6] (by kernel_rfl) hs ⟨?_,?_,?_,?_,?_,?_,?_,trivial⟩ ?_))))))))))))
   ·exact ob [] [6] rfl rfl fun D J w hs=>Qac (V:=.bool fd) rfl (Zz hs)
   ·exact oa [0] fun D J w hs=>Qac (V:=.bool fd) rfl (Zz hs)
   ·exact og [1] fun D J w hG hs=>Qac (V:=.int .u16 (gd (abR (Qal l v0) v1 now i1) k2)) rfl (Zz hs)
   ·exact og [1] fun D J w hG hs=>Qac (V:=.int .u16 (gd (abR (Qal l v0) v1 now i2) k)) rfl (Zz hs)
   ·exact oy [1,2,3] [2,3] fun D J w hG hs=>QaW rfl rfl (Zz hs)
   ·exact oa [1,4] fun D J w hs=>Qb2 (h':=decide (gd (abR (Qal l v0) v1 now i1) k2=gd (abR (Qal l v0) v1 now i2) k)) rfl rfl rfl (Zz hs)
   ·exact oa [5] fun D J w hs=>Qad (V:=.bool (fd||(decide (gd (abR (Qal l v0) v1 now i1) k2=gd (abR (Qal l v0) v1 now i2) k)))) rfl (Zz hs)
   rintro J1 w24 J2 hJ hs
   replace hJ:J2=upd (mix (sq 94 6++[15]) J1 _) 15 (.bool (fd||(decide (gd (abR (Qal l v0) v1 now i1) k2=gd (abR (Qal l v0) v1 now i2) k)))):=hJ
   subst hJ
   refine Qab (Qaa (QaD (a:=(k2:Int)) (b:=1) (c:=((k2+1:Nat):Int)) rfl rfl (Qaj (by omega) (by omega)) (Qaa (Qac (V:=I6 ((k2+1:Nat):Int)) rfl (Qae ?_)))))
   refine ⟨_,?_,_,k2+1,fd||(decide (gd (abR (Qal l v0) v1 now i1) k2=gd (abR (Qal l v0) v1 now i2) k)),Qak (Qak (Qao (ds:=([15,17]++sq 90 11)) (by repeat (first|exact Agr.refl _ _|refine Agr.upd ?_ rfl|refine Agr.mix ?_ rfl))) rfl) rfl,(by omega),(QeY (p:=fun m=>decide (m=gd (abR (Qal l v0) v1 now i2) k)) hfd (by omega)),rfl,hs.take 8⟩
   omega
  replace c23:=QQ2 c23
  refine QaJ (Qag ?_)
  have hfd2:fd=true:=by rw [hfd,List.take_of_length_le (by omega),List.any_eq_true];exact ⟨_,QoQ (by omega) ha1 ha2 hidm,QQ3 rfl⟩
  refine Qab (Qaa (QaO (cs:=((vc ((Qal l v0).base.known))++[(.slice x6.1.1.1 ((Qal l v0).base.ents.length) x6.1.1.2:Value),(.slice x6.1.2.1 ((Qal l v0).base.ticks.length) x6.1.2.2:Value) ])++[(.slice x6.2.1 ((Qal l v0).ops.length) x6.2.2:Value) ]++(vc ((Qal l v0).known))) QcV hs 5 rfl rfl rfl (Qaa (Qgw QoI Qbu.1 rfl rfl (by decide) (by decide) (Qaa (QbT (vs:=vc v1) Qbu hs 0 rfl rfl rfl rfl (Qaa (Qac (V:=I7 (gd (abR (Qal l v0) v1 now i2) k)) rfl (Qaa (Qbm (α:=Option Addr × Nat) (vs:=[.agg (((vc ((Qal l v0).base.known))++[(.slice x6.1.1.1 ((Qal l v0).base.ents.length) x6.1.1.2:Value),(.slice x6.1.2.1 ((Qal l v0).base.ticks.length) x6.1.2.2:Value) ])++[(.slice x6.2.1 ((Qal l v0).ops.length) x6.2.2:Value) ]++(vc ((Qal l v0).known))).toArray,.agg (vc v1).toArray,I7 (gd (abR (Qal l v0) v1 now i2) k)]) (V:=fun x=>.tuple #[.agg #[I7 ((QaG (Qal l v0) v1 (gd (abR (Qal l v0) v1 now i2) k)).cart),.slice x.1 (((QaG (Qal l v0) v1 (gd (abR (Qal l v0) v1 now i2) k)).lines).length) x.2,.bool ((QaG (Qal l v0) v1 (gd (abR (Qal l v0) v1 now i2) k)).out),.int .u32 ((QaG (Qal l v0) v1 (gd (abR (Qal l v0) v1 now i2) k)).tick)],I6 (Qbp (Qal l v0) v1)]) (Lo:=fun x=>[row (.slice x.1 ((QaG (Qal l v0) v1 (gd (abR (Qal l v0) v1 now i2) k)).lines).length x.2) (((QaG (Qal l v0) v1 (gd (abR (Qal l v0) v1 now i2) k)).lines).map lc) 127 2]) (F:=fun _ _=>True) Qqg rfl rfl ?hc hs fun x26 w25 hs _=>?_))))))))))
  case hc=>exact (Qg8 _ (Qal l v0) x6.1.1.1 x6.1.1.2 x6.1.2.1 x6.1.2.2 x6.2.1 x6.2.2 v1 h1 (gd (abR (Qal l v0) v1 now i2) k) hsortE hsortU hp.ok hp.le hp.lt hp.lo (hs.rd 2 rfl) (hs.rd 3 rfl) (hs.rd 4 rfl))
  replace hs:Own w no w25 [blk b1 ((vc v0)++(vc v1)) 88,blk b3 [.int .u32 now,.int .u32 i1,.int .u32 i2] 89,row (.slice x6.1.1.1 ((Qal l v0).base.ents.length) x6.1.1.2) (((Qal l v0).base.ents).map cec) 106 7,row (.slice x6.1.2.1 ((Qal l v0).base.ticks.length) x6.1.2.2) (((Qal l v0).base.ticks).map lsc) 102 2,row (.slice x6.2.1 ((Qal l v0).ops.length) x6.2.2) (((Qal l v0).ops).map oc) 98 23,blk b8 (((vc ((Qal l v0).base.known))++[(.slice x6.1.1.1 ((Qal l v0).base.ents.length) x6.1.1.2:Value),(.slice x6.1.2.1 ((Qal l v0).base.ticks.length) x6.1.2.2:Value) ])++[(.slice x6.2.1 ((Qal l v0).ops.length) x6.2.2:Value) ]++(vc ((Qal l v0).known))) 43,row (.slice x14.1 ((abR (Qal l v0) v1 now i1).length) x14.2) ((abR (Qal l v0) v1 now i1).map (ic .u16)) 32 1,row (.slice x16.1 ((abR (Qal l v0) v1 now i2).length) x16.2) ((abR (Qal l v0) v1 now i2).map (ic .u16)) 32 1,row (.slice x26.1 (((QaG (Qal l v0) v1 (gd (abR (Qal l v0) v1 now i2) k)).lines).length) x26.2) (((QaG (Qal l v0) v1 (gd (abR (Qal l v0) v1 now i2) k)).lines).map lc) 127 2]:=hs
  refine Qaa (Qac (V:=.tuple #[.agg #[I7 ((QaG (Qal l v0) v1 (gd (abR (Qal l v0) v1 now i2) k)).cart),.slice x26.1 (((QaG (Qal l v0) v1 (gd (abR (Qal l v0) v1 now i2) k)).lines).length) x26.2,.bool ((QaG (Qal l v0) v1 (gd (abR (Qal l v0) v1 now i2) k)).out),.int .u32 ((QaG (Qal l v0) v1 (gd (abR (Qal l v0) v1 now i2) k)).tick)],I6 (Qbp (Qal l v0) v1)]) rfl (Qaa (Qax (V:=.agg #[I7 ((QaG (Qal l v0) v1 (gd (abR (Qal l v0) v1 now i2) k)).cart),.slice x26.1 (((QaG (Qal l v0) v1 (gd (abR (Qal l v0) v1 now i2) k)).lines).length) x26.2,.bool ((QaG (Qal l v0) v1 (gd (abR (Qal l v0) v1 now i2) k)).out),.int .u32 ((QaG (Qal l v0) v1 (gd (abR (Qal l v0) v1 now i2) k)).tick)]) rfl rfl (Qaa (Qax (V:=I6 (Qbp (Qal l v0) v1)) rfl rfl (Qaa (QaL (cs:=[I7 0,.slice none 0 0,.bool false,.int .u32 0]) QiW rfl hs fun b27 w28 hs=>(Qaa (QcG (V:=.agg #[I7 ((QaG (Qal l v0) v1 (gd (abR (Qal l v0) v1 now i2) k)).cart),.slice x26.1 (((QaG (Qal l v0) v1 (gd (abR (Qal l v0) v1 now i2) k)).lines).length) x26.2,.bool ((QaG (Qal l v0) v1 (gd (abR (Qal l v0) v1 now i2) k)).out),.int .u32 ((QaG (Qal l v0) v1 (gd (abR (Qal l v0) v1 now i2) k)).tick)]) (vs:=[I7 ((QaG (Qal l v0) v1 (gd (abR (Qal l v0) v1 now i2) k)).cart),.slice x26.1 (((QaG (Qal l v0) v1 (gd (abR (Qal l v0) v1 now i2) k)).lines).length) x26.2,.bool ((QaG (Qal l v0) v1 (gd (abR (Qal l v0) v1 now i2) k)).out),.int .u32 ((QaG (Qal l v0) v1 (gd (abR (Qal l v0) v1 now i2) k)).tick)]) (cs':=[I7 ((QaG (Qal l v0) v1 (gd (abR (Qal l v0) v1 now i2) k)).cart),.slice x26.1 (((QaG (Qal l v0) v1 (gd (abR (Qal l v0) v1 now i2) k)).lines).length) x26.2,.bool ((QaG (Qal l v0) v1 (gd (abR (Qal l v0) v1 now i2) k)).out),.int .u32 ((QaG (Qal l v0) v1 (gd (abR (Qal l v0) v1 now i2) k)).tick)]) Qeu.1 hs 9 rfl rfl rfl rfl rfl (QQ8 rfl) (Qat rfl (Qat rfl (Qat rfl (Qat rfl Qa1)))) (Qaz rfl) fun w29 hs=>(Qaa (Qad (V:=I6 (Qbp (Qal l v0) v1)) rfl (Qae (Qag (Qbq [some 109,some 110,some 111,some 112,some 113,some 114,some 115,some 116,some 117,some 118,some 119,some 120,some 121,some 122,some 123,some 124,some 125,some 126,some 127,some 128,some 129,some 130,some 131,some 132,some 133,some 134] [] [0,1,3,7,15,31,63,127,255,511,1023,2047,4095,8191,16383,32767,65535,131071,262143,131071,655359,131071,2228223,7995391,16777215,33554431] [pv (.bool fd),pv (.bool false),pv (.bool false),pv (I6 (Qbp (Qal l v0) v1)),pv (.bool false),pv (.bool false),pv (.bool false),pv (Pq b27 (0+1)),pv (.slice x26.1 (((QaG (Qal l v0) v1 (gd (abR (Qal l v0) v1 now i2) k)).lines).length) x26.2),pv (I6 ((((QaG (Qal l v0) v1 (gd (abR (Qal l v0) v1 now i2) k)).lines).length:Nat):Int)),pv (.bool false),pv (.bool false),pv (.bool false),pv (Pq b27 (0+2)),pv (.bool false),pv (.bool false),pv (.bool false),pv (Pq b27 (0+3)),pv (.int .u32 ((QaG (Qal l v0) v1 (gd (abR (Qal l v0) v1 now i2) k)).tick)),pv (.pointer (some ⟨b3,0+(0:Int).toNat,none⟩)),pv (.int .u32 now),pv (.pointer (some ⟨b3,0+(2:Int).toNat,none⟩)),pv (.int .u32 i2),pv (.int .u32 (now-i2)),pv (.bool false),pv (.bool false)] (fun _ _=>_) [25] (by kernel_rfl) hs ⟨?_,?_,?_,?_,?_,?_,?_,?_,?_,?_,?_,?_,?_,?_,?_,?_,?_,?_,?_,?_,?_,?_,?_,?_,?_,?_,trivial⟩ ?_))))))))))))))
  ·exact oa [] fun D J w hs=>Qac (V:=.bool fd) rfl (Zz hs)
  ·exact oa [0] fun D J w hs=>QaX (V:=.bool (!fd)) (V':=.bool false) (Qbx rfl ⟨rfl,rfl⟩) (congrArg Value.bool (by rw [hfd2];rfl)) (Zz hs)
  ·exact oa [1] fun D J w hs=>Qac (V:=.bool false) rfl (Zz hs)
  ·exact obg [2] [] false rfl (fun _=>rfl) rfl (fun _ _ _ h=>nomatch h) fun D J w _ hs=>Qac (V:=I6 (Qbp (Qal l v0) v1)) rfl (Zz hs)
  ·exact obg [2,3] [] false rfl (fun _=>rfl) rfl (fun _ _ _ h=>nomatch h) fun D J w _ hs=>QaX (V:=.bool (!decide (Qbp (Qal l v0) v1=0))) (V':=.bool false) (QcC rfl rfl ⟨rfl,rfl⟩) (congrArg Value.bool (by rw [him.1];rfl)) (Zz hs)
  ·exact oa [2,4] fun D J w hs=>Qcp (V:=.bool false) rfl rfl (Zz hs)
  ·exact oa [5] fun D J w hs=>Qac (V:=.bool false) rfl (Zz hs)
  ·exact obg [6] [] false rfl (fun _=>rfl) rfl (fun _ _ _ h=>nomatch h) fun D J w _ hs=>Qaf Qeo rfl (Zz hs)
  ·exact obg [6,7] [] false rfl (fun _=>rfl) rfl (fun _ _ _ h=>nomatch h) fun D J w _ hs=>QaP (V:=.slice x26.1 (((QaG (Qal l v0) v1 (gd (abR (Qal l v0) v1 now i2) k)).lines).length) x26.2) Qi9 hs 9 rfl rfl rfl (Zz hs)
  ·exact obg [6,8] [] false rfl (fun _=>rfl) rfl (fun _ _ _ h=>nomatch h) fun D J w _ hs=>Qa0 (n:=((QaG (Qal l v0) v1 (gd (abR (Qal l v0) v1 now i2) k)).lines).length) Qdx (hs.rd 8 rfl) (by simp) rfl (Zz hs)
  ·exact obg [6,9] [] false rfl (fun _=>rfl) rfl (fun _ _ _ h=>nomatch h) fun D J w _ hs=>QaX (V:=.bool (decide (((((QaG (Qal l v0) v1 (gd (abR (Qal l v0) v1 now i2) k)).lines).length:Nat):Int)=0))) (V':=.bool false) (QaW rfl rfl ⟨rfl,rfl⟩) (congrArg Value.bool (QQ4 hia.1)) (Zz hs)
  ·exact oa [6,10] fun D J w hs=>Qcp (V:=.bool false) rfl rfl (Zz hs)
  ·exact oa [11] fun D J w hs=>Qac (V:=.bool false) rfl (Zz hs)
  ·exact obg [12] [] false rfl (fun _=>rfl) rfl (fun _ _ _ h=>nomatch h) fun D J w _ hs=>Qaf Qek rfl (Zz hs)
  ·exact obg [12,13] [] false rfl (fun _=>rfl) rfl (fun _ _ _ h=>nomatch h) fun D J w _ hs=>QaX (V:=.bool ((QaG (Qal l v0) v1 (gd (abR (Qal l v0) v1 now i2) k)).out)) (V':=.bool false) (QaP (V:=.bool ((QaG (Qal l v0) v1 (gd (abR (Qal l v0) v1 now i2) k)).out)) Qrs hs 9 rfl rfl rfl ⟨rfl,rfl⟩) (congrArg Value.bool (hia.2.1)) (Zz hs)
  ·exact oa [12,14] fun D J w hs=>Qcp (V:=.bool false) rfl rfl (Zz hs)
  ·exact oa [15] fun D J w hs=>Qac (V:=.bool false) rfl (Zz hs)
  ·exact obg [16] [] false rfl (fun _=>rfl) rfl (fun _ _ _ h=>nomatch h) fun D J w _ hs=>Qaf QiE rfl (Zz hs)
  ·exact obg [16,17] [] false rfl (fun _=>rfl) rfl (fun _ _ _ h=>nomatch h) fun D J w _ hs=>QaP (V:=.int .u32 ((QaG (Qal l v0) v1 (gd (abR (Qal l v0) v1 now i2) k)).tick)) QaN hs 9 rfl rfl rfl (Zz hs)
  ·exact obg [16] [] false rfl (fun _=>rfl) rfl (fun _ _ _ h=>nomatch h) fun D J w _ hs=>Qbo Qih QaN.1 rfl rfl (by decide) (by decide) (Zz hs)
  ·exact obg [16,19] [] false rfl (fun _=>rfl) rfl (fun _ _ _ h=>nomatch h) fun D J w _ hs=>QaP (V:=.int .u32 now) QaN hs 1 rfl rfl rfl (Zz hs)
  ·exact obg [16] [] false rfl (fun _=>rfl) rfl (fun _ _ _ h=>nomatch h) fun D J w _ hs=>Qbo Qih QaN.1 rfl rfl (by decide) (by decide) (Zz hs)
  ·exact obg [16,21] [] false rfl (fun _=>rfl) rfl (fun _ _ _ h=>nomatch h) fun D J w _ hs=>QaP (V:=.int .u32 i2) QaN hs 1 rfl rfl rfl (Zz hs)
  ·exact obg [16,20,22] [] false rfl (fun _=>rfl) rfl (fun _ _ _ h=>nomatch h) fun D J w _ hs=>Qa3 (a:=now) (b:=i2) (c:=now-i2) rfl rfl (Qgt (by omega) (by omega)) (Zz hs)
  ·exact obg [16,18,23] [] false rfl (fun _=>rfl) rfl (fun _ _ _ h=>nomatch h) fun D J w _ hs=>QaX (V:=.bool (decide (now-i2<(QaG (Qal l v0) v1 (gd (abR (Qal l v0) v1 now i2) k)).tick))) (V':=.bool false) (QbU rfl rfl ⟨rfl,rfl⟩) (congrArg Value.bool (QQ4 hia.2.2)) (Zz hs)
  ·exact oa [16,24] fun D J w hs=>Qcp (V:=.bool false) rfl rfl (Zz hs)
  rintro J1 w30 J2 hJ hs
  replace hJ:J2=upd (mix (sq 109 26) J1 _) 134 (.bool false):=hJ
  subst hJ
  refine Qb1 rfl ?_
  refine Qap (Qab (Qaa (QaD (a:=(k:Int)) (b:=1) (c:=((k+1:Nat):Int)) rfl rfl (Qaj (by omega) (by omega)) (Qaa (Qac (V:=I6 ((k+1:Nat):Int)) rfl (Qae ?_))))))
  refine ⟨_,?_,_,k+1,Qak (Qao (ds:=([6,14,15,17,18,19]++sq 84 52)) (by repeat (first|exact Agr.refl _ _|refine Agr.upd ?_ rfl|refine Agr.mix ?_ rfl))) rfl,(by omega),rfl,hs.take 8⟩
  omega
 replace c21:=QQ2 c21
 refine QaJ (Qag (Qab (Qaa (Qad (V:=.bool true) rfl (Qae (Qav ?_))))))
 refine ⟨_,Qaq (V:=.bool true) Tryz.results8 rfl,(Zr hs ?_)⟩
 rfl
end Tt
end Go.Proofs
namespace Go.Vx
open Go.RowKit Go.ChangeShapes Go.WideShapes Go.ChangeAt
def pn3 (p:Int × Int × Int):List Value:=[.int .u32 p.1,.int .u32 p.2.1,.int .u32 p.2.2]
theorem Qvh {P:Program} {t el:TypeId} (ht:P.underlying t=some (.array 3 el)) (he:P.underlying el=some (.int .u32)) (hc:P.cellsOf el=1) (hct:P.cellsOf t=3):Qed P t pn3 (fun p=>(0<=p.1/\p.1<4294967296)/\(0<=p.2.1/\p.2.1<4294967296)/\(0<=p.2.2/\p.2.2<4294967296)):=by
 intro H enc w base spare held fuel cs x h
 obtain ⟨xs,m,_,_,hl,hxl,hx⟩:=DataW.trod_array ht h
 rw [hct] at hl
 have each:∀ i,i<3->∃ a,inK .u32 a/\cs[i]?=some (.int .u32 a):=by
  intro i hi
  have h1:=hx i hi
  rw [hc,List.getElem?_eq_getElem (by omega)] at h1
  obtain ⟨a,ha,he⟩:=Qha he _ _ _ _ _ _ _ _ _ h1
  refine ⟨a,ha,?_⟩
  have h2:((cs.drop (i*1)).take 1)[0]?=some (.int .u32 a):=by rw [he];rfl
  simpa [List.getElem?_take,List.getElem?_drop] using h2
 obtain ⟨a,ha,e0⟩:=each 0 (by omega)
 obtain ⟨b,hb,e1⟩:=each 1 (by omega)
 obtain ⟨c,hc',e2⟩:=each 2 (by omega)
 refine ⟨(a,b,c),⟨Qfe ha,Qfe hb,Qfe hc'⟩,?_⟩
 match cs,hl,e0,e1,e2 with
 | [x,y,z],_,e0,e1,e2 =>
  cases e0
  cases e1
  cases e2
  rfl
end Go.Vx
namespace Go.Vx
open Go.RowKit Go.ChangeShapes Go.WideShapes Go.ChangeAt
def pv2 (p:Vec × Vec):List Value:=vc p.1++vc p.2
theorem Quv {P:Program} {t el:TypeId} (ht:P.underlying t=some (.array 2 el)) (hV:Qed P el vc QbR) (hc:P.cellsOf el=16) (hct:P.cellsOf t=32):Qed P t pv2 (fun p=>QbR p.1/\QbR p.2):=by
 intro H enc w base spare held fuel cs x h
 obtain ⟨xs,m,_,_,hl,hxl,hx⟩:=DataW.trod_array ht h
 rw [hct] at hl
 have each:∀ i,i<2->∃ a,QbR a/\(cs.drop (i*16)).take 16=vc a:=by
  intro i hi
  have h1:=hx i hi
  rw [hc,List.getElem?_eq_getElem (by omega)] at h1
  exact hV _ _ _ _ _ _ _ _ _ h1
 obtain ⟨a,ha,e0⟩:=each 0 (by omega)
 obtain ⟨b,hb,e1⟩:=each 1 (by omega)
 refine ⟨(a,b),⟨ha,hb⟩,?_⟩
 show cs=vc a++vc b
 rw [Nat.zero_mul,List.drop_zero] at e0
 rw [Nat.one_mul,List.take_of_length_le (by rw [List.length_drop];omega)] at e1
 rw [← e0,← e1,List.take_append_drop]
end Go.Vx
namespace Go.Proofs.YtbjbjboehjdcaaaGreat
open Go.RowKit Go.Vx
theorem Tryz.own:ownKnob Tryz.prog.godebug=none:=by kernel_rfl
theorem Tryz.laidOut:laidOutB Tryz.prog=true:=by kernel_rfl
theorem O24:Qed Tryz.prog 24 vc QbR:=QuO Tryz.underlying24 Tryz.underlying22 (by kernel_rfl) (by kernel_rfl)
theorem O96:Qed Tryz.prog 96 dc QcZ:=Qvb Tryz.underlying96 rfl rfl Tryz.underlying5 Tryz.underlying22 (by kernel_rfl) (by kernel_rfl) (by kernel_rfl)
theorem O98:Qed Tryz.prog 98 oc Qb8:=Qvj Tryz.underlying98 rfl rfl O96 O24 Tryz.underlying5 Tryz.underlying32 Tryz.underlying32 Tryz.underlying32 Tryz.underlying22 (by kernel_rfl) (by kernel_rfl)
theorem O89:Qed Tryz.prog 89 pn3 (fun p=>(0<=p.1/\p.1<4294967296)/\(0<=p.2.1/\p.2.1<4294967296)/\(0<=p.2.2/\p.2.2<4294967296)):=Qvh (P:=Tryz.prog) Tryz.underlying89 Tryz.underlying22 (by kernel_rfl) (by kernel_rfl)
theorem O88:Qed Tryz.prog 88 pv2 (fun p=>QbR p.1/\QbR p.2):=Quv (P:=Tryz.prog) Tryz.underlying88 O24 (by kernel_rfl) (by kernel_rfl)
end Go.Proofs.YtbjbjboehjdcaaaGreat
namespace Go.Vx
open Go.RowKit Go.Shelf Go.Sort Go.Proofs
theorem Qog {w w':World} {L:List Res} (h:Own w no w' L):∃ q os,w'=grow (w.drewN q) os:=by
 refine ⟨w'.drawn-w.drawn,w'.heap.extract w.heap.size w'.heap.size,?_⟩
 have hd:w.drawn+(w'.drawn-w.drawn)=w'.drawn:=by have:=h.tape.2;omega
 have hh:w.heap++w'.heap.extract w.heap.size w'.heap.size=w'.heap:=by
  apply Array.ext_getElem?
  intro i
  by_cases hi:i<w.heap.size
  ·rw [Array.getElem?_append_left hi,h.old i hi (fun h=>h)]
  rw [Array.getElem?_append_right (by omega)]
  have:=h.size
  simp only [Array.getElem?_extract]
  split
  ·congr 1;omega
  rw [Array.getElem?_eq_none (by omega)]
 have h1:=h.os
 have h2:=h.tape.1
 have h3:=h.output
 cases w' with
 | mk heap tape drawn os output =>
  cases w with
  | mk heap0 tape0 drawn0 os0 output0 =>
   simp only at h1 h2 h3 hd hh
   subst h1;subst h2;subst h3
   simp [grow,World.drewN,hh,hd]
section
variable {P:Program} {J:Ren} {α:Type} [Inhabited α]
theorem QjW {enc:α->List Value} {k:Nat} {l:List α} (hk:∀ x,(enc x).length=k) {j:Nat} (hj:j<l.length*k):(l.map enc).flatten[j]?=some (flatK enc k l.toArray)[j]!:=by
 have hk0:0<k:=by
  rcases Nat.eq_zero_or_pos k with h|h
  ·subst h;simp at hj
  exact h
 have hi:j/k<l.length:=Nat.div_lt_of_lt_mul (by rw [Nat.mul_comm];exact hj)
 have hm:j%k<k:=Nat.mod_lt _ hk0
 have e1:(l.map enc)[j/k]?=some (enc l[j/k]):=by simp [hi]
 have e2:(enc l[j/k])[j%k]?=some (enc l[j/k])[j%k]!:=by
  rw [List.getElem?_eq_getElem (by rw [hk];exact hm),List.getElem!_eq_getElem?_getD,List.getElem?_eq_getElem (by rw [hk];exact hm)]
  rfl
 have h:=Qhi (l.map enc) k (Qbj hk l) (j/k) (j%k) _ _ e1 e2
 rw [Nat.mul_comm,Nat.div_add_mod] at h
 rw [h,get_flatK enc k l.toArray j (by simpa using hj)]
 simp [hi]
theorem Qkz {enc:α->List Value} {k:Nat} {w:World} {S:Nat->Prop} {g cap T n:Nat} {l m:List α} {os:Array Obj} (hk:∀ x,(enc x).length=k) (h1:∀ x,∀ v∈enc x,v.oneCell'=true)
  (hR:(row (.slice (some ⟨g,0,none⟩) l.length cap) (l.map enc) T k).holds w S) (hlt:∀ b,S b->b<w.heap.size) (hlen:m.length=l.length) :
  Own w S (sortWorldK enc k w g 0 n m.toArray os) [row (.slice (some ⟨g,0,none⟩) l.length cap) (m.map enc) T k]:=by
 obtain ⟨_,hown,hS⟩:=hR
 have hSg:=hS g rfl
 have hgl:=hlt g hSg
 rcases hown.2 with ⟨hv,_⟩|⟨g',cap',cur,hv,_,hg,hnc,hcm,hcs,htake⟩
 ·cases hv
 simp only [Value.slice.injEq,Option.some.injEq,Addr.mk.injEq,and_true] at hv
 obtain ⟨rfl,hn,rfl⟩:=hv
 simp only [QQ6] at hnc htake hn
 have hX:∀ c,c<w.heap.size->(sortWorldK enc k w g 0 n m.toArray os).heap[c]?=(w.heap.modify g (onCells (putCells id 0 (flatK enc k m.toArray))))[c]?:=by
  intro c hc
  show ((w.heap.modify g (onCells (putCells id 0 (flatK enc k m.toArray))))++os)[c]?=_
  rw [Array.getElem?_append_left (by simpa using hc)]
 have hXg:(sortWorldK enc k w g 0 n m.toArray os).heap[g]?=some (.cells (putCells id 0 (flatK enc k m.toArray) cur) T (0,0)):=by
  rw [hX g hgl,Array.getElem?_modify,if_pos rfl,hg];rfl
 have hXo:∀ c,c<w.heap.size->c≠g->(sortWorldK enc k w g 0 n m.toArray os).heap[c]?=w.heap[c]?:=by
  intro c hc hne
  rw [hX c hc,Array.getElem?_modify,if_neg (fun e=>hne e.symm)]
 have hsz:(sortWorldK enc k w g 0 n m.toArray os).heap.size=w.heap.size+os.size:=by
  show ((w.heap.modify g (onCells (putCells id 0 (flatK enc k m.toArray))))++os).size=_
  simp
 refine ⟨rfl,⟨rfl,Nat.le_add_right _ _⟩,rfl,by omega,fun b hb hm=>hXo b hb (fun e=>hm (e ▸ hSg)),fun j b=>j=0/\b=g,fun j R hj=>?_,fun j b hb=>by rw [hb.2];omega,fun j j' b hb hb'=>hb.1.trans hb'.1.symm,fun j b hb _=>by rw [hb.2];exact hSg⟩
 cases j with
 | succ j=>simp at hj
 | zero =>
  simp only [List.getElem?_cons_zero,Option.some.injEq] at hj
  subst hj
  refine ⟨⟨Qbj hk m,QaV h1 m⟩,⟨?_,.inr ⟨g,cap,_,by rw [QQ6,hlen],Nat.zero_le _,hXg,by rw [QQ6];omega,hcm,by unfold putCells;simpa using hcs,?_⟩⟩,fun g' hg'=>by cases hg';exact ⟨rfl,rfl⟩⟩
  ·rw [QbZ _ (Qbj hk m)]
  apply List.ext_getElem?
  intro j
  rw [List.getElem?_take,QQ6]
  by_cases hj:j<m.length*k
  ·have hjc:j<cur.size:=by
    rw [hcs]
    exact Nat.lt_of_lt_of_le hj (Nat.mul_le_mul_right _ (by omega))
   rw [if_pos hj,QjW hk hj,Array.getElem?_toList]
   unfold putCells
   rw [Array.getElem?_mapIdx,Array.getElem?_eq_getElem hjc]
   simp [hj]
  rw [if_neg hj,List.getElem?_eq_none (by rw [QbZ _ (Qbj hk m),QQ6];omega)]
theorem QoY (L:SlLaysF0.n6 P J) {k T g:Nat} {enc:α->List Value} {cf:α->α->Int} (aE:∀ w,(isAgg (J.t 24)).run P w = .ok true w) (zE:∀ w,(Go.sizeOf (J.t 24)).run P w = .ok k w) (hk:∀ x,(enc x).length=k) (h1:∀ x,∀ v∈enc x,v.oneCell'=true)
  (hO:SWO (ltOf cf)) (hg:En P g) (hc:∀ w x y,Calls P g #[.agg (enc x).toArray,.agg (enc y).toArray] w fun e w'=>e = .returned (.int .i64 (cf x y))/\Own w no w' [])
  (hnil:∀ w,Calls P (J.f 6) #[.slice none 0 0,.func (.func g) #[] #[]] w fun e w'=>e = .returned (.tuple #[])/\w'=w) :
  Qgx P (J.f 6) g enc T k (fun l m=>m.Perm l/\m.Pairwise fun x y=>¬cf y x<0):=by
 intro w S a c l hR hlt hsz
 have hR':=hR
 obtain ⟨_,hown,hS⟩:=hR
 rcases hown.2 with ⟨hv,hn⟩|⟨b,cap,cur,hv,_,hb,hnc,hcm,hcs,htake⟩
 ·have hl:l=[]:=by simpa using hn
  subst hl
  simp only [List.length_nil,Value.slice.injEq] at hv
  obtain ⟨rfl,_,rfl⟩:=hv
  exact (hnil w).mono fun e w' ⟨he,hw⟩=>⟨⟨[],List.Perm.refl _,List.Pairwise.nil⟩,he,by subst hw;exact Own.lent hR' hlt,trivial⟩
 simp only [Value.slice.injEq,QQ6] at hv
 obtain ⟨rfl,_,rfl⟩:=hv
 have hbl:=hlt b (hS b rfl)
 have hH:HoldsK enc k w b 0 l.toArray:=by
  intro j hj
  have hj':j<l.length*k:=by simpa using hj
  rw [Nat.zero_add]
  refine ⟨?_,frozen_of_row w b _ _ _ hb⟩
  rw [cell_of_row w b j _ _ _ hb]
  have h2:=QjW (l:=l) hk hj'
  rw [← htake,List.getElem?_take,QQ6,if_pos hj'] at h2
  simpa using h2
 have hcmp:CmpLays P g #[] enc k cf b 0 l.toArray.size w:=fun m os dk _ x y =>
  (hc _ x y).mono fun e w' ⟨he,ho⟩=>⟨he,Qog ho⟩
 refine (AnyQ.slices_SortFunc L k aE zE enc hk h1 cf hO g #[] b 0 c l.toArray w hg hcmp hH hbl (by simpa using hsz)).mono ?_
 rintro e w' ⟨he,d',n,os,hp,hs,rfl⟩
 obtain ⟨hp1,_,hp2⟩:=hp
 have hsz':d'.toList.length=l.length:=by simpa using hp1
 refine ⟨⟨d'.toList,?_,?_⟩,he,?_,trivial⟩
 ·have e1:d'.extract 0 l.toArray.size=d':=by rw [← hp1];simp
  have e2:l.toArray.extract 0 l.toArray.size=l.toArray:=by simp
  rw [e1,e2] at hp2
  simpa using hp2
 ·rw [List.pairwise_iff_getElem]
  intro i j hi hj hij
  have h3:=hs i j (Nat.zero_le _) hij (by rw [← hp1];simpa using hj)
  unfold ltOf at h3
  have e1:d'[i]! = d'.toList[i]:=by simp at hi;simp [hi]
  have e2:d'[j]! = d'.toList[j]:=by simp at hj;simp [hj]
  rw [e1,e2] at h3
  simpa using h3
 have:=Qkz (n:=n) (os:=os) hk h1 hR' hlt hsz'
 simpa using this
end
end Go.Vx
namespace Go.Proofs
open Go.Shelf
def Tryz.sortE_ren:Go.Shelf.Ren:=⟨fun|6=>48|15=>92|14=>91|28=>144|29=>145|20=>136|21=>137|22=>138|23=>139|24=>140|25=>141|26=>142|27=>143|46=>161|47=>162|48=>163|49=>164|50=>165|57=>181|n=>n,fun|22=>35|24=>106|25=>116|3=>3|39=>159|0=>0|53=>22|55=>104|4=>4|46=>192|45=>191|50=>138|5=>5|9=>9|66=>211|70=>215|76=>227|77=>228|n=>n,fun|n=>n⟩
theorem Tryz.sortE:Go.Proofs.SlLaysF0.n6 Tryz.prog Tryz.sortE_ren:={
 mixed:=by kernel_rfl
 f6:=⟨Tryz.f48.name,by decide,Tryz.func48.trans (congrArg some (by kernel_rfl))⟩
 f14:=⟨Tryz.f91.name,by decide,Tryz.func91.trans (congrArg some (by kernel_rfl))⟩
 f15:=Tryz.func92.trans (congrArg some (by kernel_rfl))
 f20:=⟨Tryz.f136.name,by decide,Tryz.func136.trans (congrArg some (by kernel_rfl))⟩
 f21:=⟨Tryz.f137.name,by decide,Tryz.func137.trans (congrArg some (by kernel_rfl))⟩
 f22:=⟨Tryz.f138.name,by decide,Tryz.func138.trans (congrArg some (by kernel_rfl))⟩
 f23:=⟨Tryz.f139.name,by decide,Tryz.func139.trans (congrArg some (by kernel_rfl))⟩
 f24:=⟨Tryz.f140.name,by decide,Tryz.func140.trans (congrArg some (by kernel_rfl))⟩
 f25:=⟨Tryz.f141.name,by decide,Tryz.func141.trans (congrArg some (by kernel_rfl))⟩
 f26:=⟨Tryz.f142.name,by decide,Tryz.func142.trans (congrArg some (by kernel_rfl))⟩
 f27:=⟨Tryz.f143.name,by decide,Tryz.func143.trans (congrArg some (by kernel_rfl))⟩
 f28:=Tryz.func144.trans (congrArg some (by kernel_rfl))
 f29:=Tryz.func145.trans (congrArg some (by kernel_rfl))
 f46:=⟨Tryz.f161.name,by decide,Tryz.func161.trans (congrArg some (by kernel_rfl))⟩
 f47:=Tryz.func162.trans (congrArg some (by kernel_rfl))
 f48:=Tryz.func163.trans (congrArg some (by kernel_rfl))
 f49:=⟨Tryz.f164.name,by decide,Tryz.func164.trans (congrArg some (by kernel_rfl))⟩
 f50:=⟨Tryz.f165.name,by decide,Tryz.func165.trans (congrArg some (by kernel_rfl))⟩
 f57:=⟨Tryz.f181.name,by decide,Tryz.func181.trans (congrArg some (by kernel_rfl))⟩
 t0:=Tryz.underlying0
 a0:=Tryz.isAgg0
 z0:=Tryz.sizeOf0
 v0:=Tryz.zeroValue0
 t3:=Tryz.underlying3
 a3:=Tryz.isAgg3
 z3:=Tryz.sizeOf3
 v3:=Tryz.zeroValue3
 t4:=Tryz.underlying4
 a4:=Tryz.isAgg4
 z4:=Tryz.sizeOf4
 v4:=Tryz.zeroValue4
 t5:=Tryz.underlying5
 a5:=Tryz.isAgg5
 z5:=Tryz.sizeOf5
 v5:=Tryz.zeroValue5
 t9:=Tryz.underlying9
 a9:=Tryz.isAgg9
 z9:=Tryz.sizeOf9
 v9:=Tryz.zeroValue9
 t22:=Tryz.underlying35
 a22:=Tryz.isAgg35
 z22:=Tryz.sizeOf35
 v22:=Tryz.zeroValue35
 t25:=Tryz.underlying116
 a25:=Tryz.isAgg116
 z25:=Tryz.sizeOf116
 v25:=Tryz.zeroValue116
 t39:=Tryz.underlying159
 a39:=Tryz.isAgg159
 z39:=Tryz.sizeOf159
 v39:=Tryz.zeroValue159
 t45:=Tryz.underlying191
 a45:=Tryz.isAgg191
 z45:=Tryz.sizeOf191
 v45:=Tryz.zeroValue191
 t46:=Tryz.underlying192
 a46:=Tryz.isAgg192
 z46:=Tryz.sizeOf192
 v46:=Tryz.zeroValue192
 t50:=Tryz.underlying138
 a50:=Tryz.isAgg138
 z50:=Tryz.sizeOf138
 v50:=Tryz.zeroValue138
 t53:=Tryz.underlying22
 a53:=Tryz.isAgg22
 z53:=Tryz.sizeOf22
 v53:=Tryz.zeroValue22
 t55:=Tryz.underlying104
 a55:=Tryz.isAgg104
 z55:=Tryz.sizeOf104
 v55:=Tryz.zeroValue104
 t66:=Tryz.underlying211
 a66:=Tryz.isAgg211
 z66:=Tryz.sizeOf211
 v66:=Tryz.zeroValue211
 t70:=Tryz.underlying215
 a70:=Tryz.isAgg215
 z70:=Tryz.sizeOf215
 v70:=Tryz.zeroValue215
 t76:=Tryz.underlying227
 a76:=Tryz.isAgg227
 z76:=Tryz.sizeOf227
 v76:=Tryz.zeroValue227
 t77:=Tryz.underlying228
 a77:=Tryz.isAgg228
 z77:=Tryz.sizeOf228
 v77:=Tryz.zeroValue228 }
end Go.Proofs
namespace Go.Proofs.YtbjbjboehjdcaaaGreat
open Go.Vx Go.Sort Go.Proofs
theorem QvJ:SWO (ltOf QbP) where
 irrefl x:=by unfold ltOf;rw [decide_eq_false_iff_not,QdD,Qb3];decide
 trans x y z h1 h2:=by unfold ltOf at *;rw [decide_eq_true_iff,QdD] at *;exact Qcm h1 h2
 ntrans x y z h1 h2:=by unfold ltOf at *;rw [decide_eq_false_iff_not,QdD,Qdr] at *;omega
theorem QrY:Qgx Tryz.prog 48 49 cec 106 7 Qj4 :=
 QoY (J:=Tryz.sortE_ren) (k:=7) (T:=106) Tryz.sortE Tryz.isAgg106 Tryz.sizeOf106 (fun _=>rfl) Qbi QvJ Tryz.call49 (fun w x y=>Tt.order_ok w x y) (fun w=>AnyF.slices_SortFunc_none Tryz.sortE none 0 _ w)
end Go.Proofs.YtbjbjboehjdcaaaGreat
namespace Go.Proofs
open Go Go.Vx Go.RowKit
open Go.Sort (ltInt medianAdjacent order2 partition)
namespace Tt
theorem Qop (w:World) (x:Int):Calls Tryz.prog 127 #[.int .u16 x] w (fun e w'=>e = .returned (.bool false)/\Own w no w' []):=by
 refine Qai (n:=6) Tryz.func127 rfl Tryz.ntmps127 rfl ?_
 have hs:=Own.start w
 refine Qag (Qab (Qaa (Qad (V:=.bool false) rfl (Qae (Qag (Qab (Qaa (Qac (V:=I7 x) rfl (Qaa (Qac (V:=I7 x) rfl (Qaa (QcC rfl rfl (Qaa (Qad (V:=.bool (!decide (x=x))) rfl (Qae (Qav ?_))))))))))))))))
 refine ⟨_,Qaq (V:=.bool (!decide (x=x))) Tryz.results127 rfl,(Zr hs ?_)⟩
 simp
theorem Qcl (w:World) (x y:Int):Calls Tryz.prog 178 #[.int .u16 x,.int .u16 y] w (fun e w'=>e = .returned (.bool (decide (x<y)))/\Own w no w' []):=by
 refine Qai (n:=17) Tryz.func178 rfl Tryz.ntmps178 rfl ?_
 have hs:=Own.start w
 refine Qag (Qab (Qaa (Qad (V:=.bool false) rfl (Qae (Qag (Qbq [some 5,some 6,some 7,some 8,some 9,some 10,some 11,some 12,some 13,some 14,some 15,some 16,some 4] [] [0,1,3,7,15,31,63,127,255,255,1023,2047,4095] [pv (I7 x),pv (.bool false),pv (.bool false),pg false (.bool true),pg false (.bool true),pg false (.bool true),pv (.bool false),pv (.bool false),pv (I7 x),pv (I7 y),pv (.bool (decide (x<y))),pv (.bool (decide (x<y))),pv (.bool (decide (x<y)))] (fun _ _=>_) [12] (by kernel_rfl) hs ⟨?_,?_,?_,?_,?_,?_,?_,?_,?_,?_,?_,?_,?_,trivial⟩ ?_))))))
 ·exact oa [] fun D J w hs=>Qac (V:=.int .u16 x) rfl (Zz hs)
 ·exact oa [0] fun D J w hs=>Qas (vs:=[.int .u16 x]) (V:=.bool false) Qno rfl rfl (Qop _ x) hs fun _ hs=>Zz hs
 ·exact oa [1] fun D J w hs=>Qac (V:=.bool false) rfl (Zz hs)
 ·exact obg [] [] false rfl (fun _=>rfl) rfl (fun _ _ _ _ h=>h) (fun _ _ _ h=>nomatch h)
 ·exact obg [] [] false rfl (fun _=>rfl) rfl (fun _ _ _ _ h=>h) (fun _ _ _ h=>nomatch h)
 ·exact obg [] [] false rfl (fun _=>rfl) rfl (fun _ _ _ _ h=>h) (fun _ _ _ h=>nomatch h)
 ·exact oa [2] fun D J w hs=>Qcp (V:=.bool false) rfl rfl (Zz hs)
 ·exact oa [6] fun D J w hs=>Qac (V:=.bool false) rfl (Zz hs)
 ·exact obg [7] [] false rfl (fun _=>rfl) rfl (fun _ _ _ h=>nomatch h) fun D J w _ hs=>Qac (V:=I7 x) rfl (Zz hs)
 ·exact obg [7] [] false rfl (fun _=>rfl) rfl (fun _ _ _ h=>nomatch h) fun D J w _ hs=>Qac (V:=I7 y) rfl (Zz hs)
 ·exact obg [7,8,9] [] false rfl (fun _=>rfl) rfl (fun _ _ _ h=>nomatch h) fun D J w _ hs=>Qa2 rfl rfl (Zz hs)
 ·exact oa [7,10] fun D J w hs=>Qcp (V:=.bool (decide (x<y))) rfl rfl (Zz hs)
 ·exact oa [11] fun D J w hs=>Qad (V:=.bool (decide (x<y))) rfl (Zz hs)
 rintro J1 w2 J2 hJ hs
 replace hJ:J2=upd (mix (sq 5 12++[4]) J1 _) 4 (.bool (decide (x<y))):=hJ
 subst hJ
 refine Qav ?_
 refine ⟨_,Qaq (V:=.bool (decide (x<y))) Tryz.results178 rfl,(Zr hs ?_)⟩
 first|rfl|simp
theorem Qru {lo j:Nat} {d:Array Int} (h1:(lo:Int)<(j:Int)) (h2:d[j]!<d[j-1]!):Sort.insInner ltInt lo j d=Sort.insInner ltInt lo (j-1) (Sort.swp d j (j-1)):=by
 obtain ⟨i,rfl⟩:∃ i,j=i+1:=⟨j-1,by omega⟩
 rw [Nat.add_sub_cancel] at *
 rw [Sort.insInner,if_pos]
 simp [ltInt,h2];omega
theorem Qtc {lo j:Nat} {d:Array Int} (h:(decide ((lo:Int)<(j:Int))&&decide (d[j]!<d[j-1]!))=false):Sort.insInner ltInt lo j d=d:=by
 cases j with
 | zero=>rfl
 | succ i =>
  rw [Sort.insInner,if_neg]
  intro h2
  simp [ltInt] at h2 h
  have:=h (by omega)
  omega
theorem Qq8 {lo hi k:Nat} {d:Array Int} (h:(k:Int)<(hi:Int)):Sort.insOuter ltInt lo hi k d=Sort.insOuter ltInt lo hi (k+1) (Sort.insInner ltInt lo k d):=by
 rw [Sort.insOuter,if_pos (by omega)]
theorem QtD {lo hi k:Nat} {d:Array Int} (h:¬(k:Int)<(hi:Int)):Sort.insOuter ltInt lo hi k d=d:=by
 rw [Sort.insOuter,if_neg (by omega)]
theorem Qs7 (w:World) (S:Nat->Prop) (a:Option Addr) (N c:Nat) (d:Array Int) (hsz:d.size=N) (hN:N<=2305843009213693951) (lo hi:Nat) (h1:lo<=hi) (h2:hi<=N) (hR:(row (.slice a N c) (d.toList.map (ic .u16)) 32 1).holds w S) (hlt:∀ x,S x->x<w.heap.size):Calls Tryz.prog 172 #[.slice a N c,.int .i64 (lo:Int),.int .i64 (hi:Int)] w (fun e w'=>∃ x:Unit,e = .returned (.tuple #[])/\Own w S w' [row (.slice a N c) ((Sort.insertionSort ltInt d lo hi).toList.map (ic .u16)) 32 1]/\(Sort.insertionSort ltInt d lo hi).size=N):=by
 refine Qai (n:=49) Tryz.func172 rfl Tryz.ntmps172 rfl ?_
 have hs:=Own.lent hR hlt
 refine Qag (Qab (Qaa (Qac (V:=I6 (lo:Int)) rfl (Qaa (QaD (a:=(lo:Int)) (b:=1) (c:=((lo+1:Nat):Int)) rfl rfl (Qaj (by omega) (by omega)) (Qaa (Qad (V:=I6 ((lo+1:Nat):Int)) rfl (Qae (Qan (QaC (fun J μ J' w'=>∃ (Jo:Env) (k:Nat) (d1:Array Int),J'=upd (mix ([6,7]++sq 10 39) Jo J) 6 (I6 (k:Int))/\(lo+1<=k)/\(k<=hi∨k=lo+1)/\(d1.size=N)/\(Sort.insOuter ltInt lo hi k d1=Sort.insertionSort ltInt d lo hi)/\μ=hi-k/\Own w S w' [row (.slice a N c) (d1.toList.map (ic .u16)) 32 1]) ?_ ?_))))))))))
 ·exact ⟨_,_,lo+1,d,Qak (Qao (ds:=([6,7]++sq 10 39)) (Agr.refl _ _)) rfl,(Nat.le_refl _),(Or.inr rfl),hsz,rfl,rfl,hs⟩
 rintro μ J' w1 ⟨Jo,k,d1,rfl,hk0,hk,hz1,hev,rfl,hs⟩
 refine Qag (Qag (Qab (Qaa (Qac (V:=I6 (k:Int)) rfl (Qaa (Qac (V:=I6 (hi:Int)) rfl (Qaa (Qa2 rfl rfl (Qae (Qam (t:=decide ((k:Int)<(hi:Int))) rfl (fun c2=>?_) (fun c2=>?_)))))))))))
 ·
  replace c2:=QQ1 c2
  refine Qap (Qag (Qan (Qag (Qab (Qaa (Qac (V:=I6 (k:Int)) rfl (Qaa (Qad (V:=I6 (k:Int)) rfl (Qae (Qan (QaC (fun J μ J' w'=>∃ (Jo:Env) (j:Nat) (d2:Array Int),J'=upd (mix ([7]++sq 16 33) Jo J) 7 (I6 (j:Int))/\(lo<=j)/\(j<=k)/\(d2.size=N)/\(Sort.insInner ltInt lo j d2=Sort.insInner ltInt lo k d1)/\μ=2*j/\Own w S w' [row (.slice a N c) (d2.toList.map (ic .u16)) 32 1]) ?_ ?_)))))))))))
  ·exact ⟨_,_,k,d1,Qak (Qao (ds:=([7]++sq 16 33)) (Agr.refl _ _)) rfl,(by omega),(Nat.le_refl _),hz1,rfl,rfl,hs⟩
  rintro μ J' w3 ⟨Jo,j,d2,rfl,hj0,hj,hz2,hin,rfl,hs⟩
  refine Qag (Qag (QaH HM [some 16,some 17,some 18,some 19,some 20,some 21,some 22,some 23,some 24,some 25,some 26,some 27,some 28,some 29,some 30] [] [0,0,3,7,15,15,63,127,15,15,527,1807,3855,8191,16383] [pv (I6 (j:Int)),pv (I6 (lo:Int)),pv (.bool (decide ((lo:Int)<(j:Int)))),pv (.bool (decide ((lo:Int)<(j:Int)))),pg ((decide ((lo:Int)<(j:Int))) == true) (.slice a N c),pg ((decide ((lo:Int)<(j:Int))) == true) (I6 (j:Int)),pg ((decide ((lo:Int)<(j:Int))) == true) (.pointer (some ⟨bkS (.slice a N c),ofS (.slice a N c)+(j:Int).toNat*1,none⟩)),pg ((decide ((lo:Int)<(j:Int))) == true) (I7 (d2[j]!)),pg ((decide ((lo:Int)<(j:Int))) == true) (.slice a N c),pg ((decide ((lo:Int)<(j:Int))) == true) (I6 (j:Int)),pg ((decide ((lo:Int)<(j:Int))) == true) (I6 ((j-1:Nat):Int)),pg ((decide ((lo:Int)<(j:Int))) == true) (.pointer (some ⟨bkS (.slice a N c),ofS (.slice a N c)+((j-1:Nat):Int).toNat*1,none⟩)),pg ((decide ((lo:Int)<(j:Int))) == true) (I7 (d2[j-1]!)),pg ((decide ((lo:Int)<(j:Int))) == true) (.bool (decide (d2[j]!<d2[j-1]!))),pv (.bool ((decide ((lo:Int)<(j:Int)))&&(decide (d2[j]!<d2[j-1]!))))] (fun _ _=>_) [14] (by kernel_rfl) hs ⟨?_,?_,?_,?_,?_,?_,?_,?_,?_,?_,?_,?_,?_,?_,?_,trivial⟩ ?_))
  ·exact oa [] fun D J w hs=>Qac (V:=.int .i64 (j:Int)) rfl (Zz hs)
  ·exact oa [] fun D J w hs=>Qac (V:=.int .i64 (lo:Int)) rfl (Zz hs)
  ·exact oa [0,1] fun D J w hs=>QbU rfl rfl (Zz hs)
  ·exact oa [2] fun D J w hs=>Qac (V:=.bool (decide ((lo:Int)<(j:Int)))) rfl (Zz hs)
  ·refine og [3] fun D J w hG hs=>?_
   have hgd:=QQ1 (eq_of_beq hG)
   exact Qac (V:=.slice a N c) rfl (Zz hs)
  ·refine og [3] fun D J w hG hs=>?_
   have hgd:=QQ1 (eq_of_beq hG)
   exact Qac (V:=.int .i64 (j:Int)) rfl (Zz hs)
  ·refine oy [3,4,5] [4,5] fun D J w hG hs=>?_
   have hgd:=QQ1 (eq_of_beq hG)
   exact Qaw QaK Qar.1 (hs.rd 0 rfl) rfl rfl (by omega) (by simp only [QQ6,QQ9,QQ5,Go.Sort.size_swp];omega) (Zz hs)
  ·refine oy [3,6] [6] fun D J w hG hs=>?_
   have hgd:=QQ1 (eq_of_beq hG)
   exact QaU (j:=0) (V:=.int .u16 (d2[j]!)) j Qar (hs.rd 0 rfl) (Qbk (by omega)) rfl rfl (by omega) (Zz hs)
  ·refine og [3] fun D J w hG hs=>?_
   have hgd:=QQ1 (eq_of_beq hG)
   exact Qac (V:=.slice a N c) rfl (Zz hs)
  ·refine og [3] fun D J w hG hs=>?_
   have hgd:=QQ1 (eq_of_beq hG)
   exact Qac (V:=.int .i64 (j:Int)) rfl (Zz hs)
  ·refine oy [3,9] [9] fun D J w hG hs=>?_
   have hgd:=QQ1 (eq_of_beq hG)
   exact Qa3 (a:=(j:Int)) (b:=1) (c:=((j-1:Nat):Int)) rfl rfl (Qaj (by omega) (by omega)) (Zz hs)
  ·refine oy [3,8,10] [8,10] fun D J w hG hs=>?_
   have hgd:=QQ1 (eq_of_beq hG)
   exact Qaw QaK Qar.1 (hs.rd 0 rfl) rfl rfl (by omega) (by simp only [QQ6,QQ9,QQ5,Go.Sort.size_swp];omega) (Zz hs)
  ·refine oy [3,11] [11] fun D J w hG hs=>?_
   have hgd:=QQ1 (eq_of_beq hG)
   exact QaU (j:=0) (V:=.int .u16 (d2[j-1]!)) (j-1) Qar (hs.rd 0 rfl) (Qbk (by omega)) rfl rfl (by omega) (Zz hs)
  ·refine oy [3,7,12] [7,12] fun D J w hG hs=>?_
   have hgd:=QQ1 (eq_of_beq hG)
   exact Qas (vs:=[.int .u16 (d2[j]!),.int .u16 (d2[j-1]!)]) (V:=.bool (decide (d2[j]!<d2[j-1]!))) Qc0 rfl rfl (Qcl _ (d2[j]!) (d2[j-1]!)) hs fun _ hs=>Zz hs
  ·exact oa [3,13] fun D J w hs=>Qbg (h':=decide (d2[j]!<d2[j-1]!)) rfl rfl rfl (Zz hs)
  rintro J1 w5 J2 hJ hs
  replace hJ:J2=upd (mix (sq 16 15) J1 _) 30 (.bool ((decide ((lo:Int)<(j:Int)))&&(decide (d2[j]!<d2[j-1]!)))):=hJ
  subst hJ
  refine Qam (t:=(decide ((lo:Int)<(j:Int)))&&(decide (d2[j]!<d2[j-1]!))) rfl (fun c6=>?_) (fun c6=>?_)
  ·
   have c6r:=Qcs c6
   replace c6:=QbY c6
   replace c6:=QQ1 c6
   replace c6r:=QQ1 c6r
   refine Qap (Qag (Qan (QaH HM [some 33,some 34,some 35,some 36,some 37,some 38,some 39,some 40,some 41,some 42,some 43,some 44,some 45,some 46,some 47,none,some 48,none] [] [0,0,0,0,8,0,0,64,224,480,0,0,3072,7168,16355,32739,65535,131071] [pv (.slice a N c),pv (I6 (j:Int)),pv (.slice a N c),pv (I6 (j:Int)),pv (I6 ((j-1:Nat):Int)),pv (.slice a N c),pv (I6 (j:Int)),pv (I6 ((j-1:Nat):Int)),pv (.pointer (some ⟨bkS (.slice a N c),ofS (.slice a N c)+((j-1:Nat):Int).toNat*1,none⟩)),pv (I7 (d2[j-1]!)),pv (.slice a N c),pv (I6 (j:Int)),pv (.pointer (some ⟨bkS (.slice a N c),ofS (.slice a N c)+(j:Int).toNat*1,none⟩)),pv (I7 (d2[j]!)),pv (.pointer (some ⟨bkS (.slice a N c),ofS (.slice a N c)+(j:Int).toNat*1,none⟩)),pn,pv (.pointer (some ⟨bkS (.slice a N c),ofS (.slice a N c)+((j-1:Nat):Int).toNat*1,none⟩)),pn] (fun D J=>[cond (D 17) (row (.slice a N c) ((((d2.setIfInBounds j (d2[j-1]!)).setIfInBounds (j-1) (d2[j]!)).toList).map (ic .u16)) 32 1) (cond (D 15) (row (.slice a N c) (((d2.setIfInBounds j (d2[j-1]!)).toList).map (ic .u16)) 32 1) (row (.slice a N c) (d2.toList.map (ic .u16)) 32 1))]) [] (by kernel_rfl) hs ⟨?_,?_,?_,?_,?_,?_,?_,?_,?_,?_,?_,?_,?_,?_,?_,?_,?_,?_,trivial⟩ ?_)))
   ·exact oa [] fun D J w hs=>Qac (V:=.slice a N c) rfl (Zz hs)
   ·exact oa [] fun D J w hs=>Qac (V:=.int .i64 (j:Int)) rfl (Zz hs)
   ·exact oa [] fun D J w hs=>Qac (V:=.slice a N c) rfl (Zz hs)
   ·exact oa [] fun D J w hs=>Qac (V:=.int .i64 (j:Int)) rfl (Zz hs)
   ·exact oa [3] fun D J w hs=>Qa3 (a:=(j:Int)) (b:=1) (c:=((j-1:Nat):Int)) rfl rfl (Qaj (by omega) (by omega)) (Zz hs)
   ·exact oa [] fun D J w hs=>Qac (V:=.slice a N c) rfl (Zz hs)
   ·exact oa [] fun D J w hs=>Qac (V:=.int .i64 (j:Int)) rfl (Zz hs)
   ·exact oa [6] fun D J w hs=>Qa3 (a:=(j:Int)) (b:=1) (c:=((j-1:Nat):Int)) rfl rfl (Qaj (by omega) (by omega)) (Zz hs)
   ·exact ob [5,7] [15,17] rfl rfl fun D J w hs=>Qaw QaK Qar.1 (hs.rd 0 rfl) rfl rfl (by omega) (by simp only [QQ6,QQ9,QQ5,Go.Sort.size_swp];omega) (Zz hs)
   ·exact ob [8] [15,17] rfl rfl fun D J w hs=>QaU (j:=0) (V:=I7 (d2[j-1]!)) (j-1) Qar (hs.rd 0 rfl) (Qbk (by omega)) rfl rfl (by omega) (Zz hs)
   ·exact oa [] fun D J w hs=>Qac (V:=.slice a N c) rfl (Zz hs)
   ·exact oa [] fun D J w hs=>Qac (V:=.int .i64 (j:Int)) rfl (Zz hs)
   ·exact ob [10,11] [15,17] rfl rfl fun D J w hs=>Qaw QaK Qar.1 (hs.rd 0 rfl) rfl rfl (by omega) (by simp only [QQ6,QQ9,QQ5,Go.Sort.size_swp];omega) (Zz hs)
   ·exact ob [12] [15,17] rfl rfl fun D J w hs=>QaU (j:=0) (V:=I7 (d2[j]!)) j Qar (hs.rd 0 rfl) (Qbk (by omega)) rfl rfl (by omega) (Zz hs)
   ·exact ob [0,1] [15,17] rfl rfl fun D J w hs=>Qaw QaK Qar.1 (hs.rd 0 rfl) rfl rfl (by omega) (by simp only [QQ6,QQ9,QQ5,Go.Sort.size_swp];omega) (Zz hs)
   ·exact ob [9,14] [17] rfl rfl fun D J w hs=>Qcj (z:=d2[j-1]!) j Qar hs 0 rfl rfl (by omega) (by first|omega|(simp only [QQ5,Go.Sort.size_swp];omega)) rfl rfl rfl fun _ hs=>⟨trivial,hs⟩
   ·exact ob [2,4,15] [17] rfl rfl fun D J w hs=>Qaw QaK Qar.1 (hs.rd 0 rfl) rfl rfl (by omega) (by simp only [QQ6,QQ9,QQ5,Go.Sort.size_swp];omega) (Zz hs)
   ·exact oa [13,15,16] fun D J w hs=>Qcj (z:=d2[j]!) (j-1) Qar hs 0 rfl rfl (by omega) (by first|omega|(simp only [QQ5,Go.Sort.size_swp];omega)) rfl rfl rfl fun _ hs=>⟨trivial,hs⟩
   rintro J1 w9 J2 hJ hs
   replace hJ:J2=mix (sq 33 16) J1 _:=hJ
   replace hs:Own w S w9 [row (.slice a N c) ((((d2.setIfInBounds j (d2[j-1]!)).setIfInBounds (j-1) (d2[j]!)).toList).map (ic .u16)) 32 1]:=hs
   subst hJ
   refine Qab (Qaa (Qac (V:=I6 (j:Int)) rfl (Qaa (Qa3 (a:=(j:Int)) (b:=1) (c:=((j-1:Nat):Int)) rfl rfl (Qaj (by omega) (by omega)) (Qaa (Qad (V:=I6 ((j-1:Nat):Int)) rfl (Qae ?_)))))))
   refine ⟨_,?_,_,j-1,((d2.setIfInBounds j (d2[j-1]!)).setIfInBounds (j-1) (d2[j]!)),Qak (Qao (ds:=([7]++sq 16 33)) (by repeat (first|exact Agr.refl _ _|refine Agr.upd ?_ rfl|refine Agr.mix ?_ rfl))) rfl,(by omega),(by omega),(by simp only [QQ5];exact hz2),(by rw [← hin];exact (Qru c6 c6r).symm),rfl,hs.take 1⟩
   omega
  refine QaJ (Qab (Qaa (Qac (V:=I6 (k:Int)) rfl (Qaa (QaD (a:=(k:Int)) (b:=1) (c:=((k+1:Nat):Int)) rfl rfl (Qaj (by omega) (by omega)) (Qaa (Qad (V:=I6 ((k+1:Nat):Int)) rfl (Qae ?_))))))))
  refine ⟨_,?_,_,k+1,d2,Qak (Qao (ds:=([6,7]++sq 10 39)) (by repeat (first|exact Agr.refl _ _|refine Agr.upd ?_ rfl|refine Agr.mix ?_ rfl))) rfl,(by omega),(by omega),hz2,(by rw [← hev,Qq8 (d:=d1) c2,← hin,Qtc c6]),rfl,hs.take 1⟩
  omega
 replace c2:=QQ2 c2
 refine QaJ ?_
 refine ⟨_,Qbd Tryz.results172,?_⟩
 have hX:d1=Sort.insertionSort ltInt d lo hi:=by rw [← hev,QtD c2]
 exact ⟨(),rfl,hX ▸ hs.take 1,hX ▸ (by first|assumption|(simp only [QQ5,Go.Sort.size_swp];omega))⟩
end Tt
end Go.Proofs
namespace Go.Proofs
open Go Go.Vx Go.RowKit
open Go.Sort (ltInt medianAdjacent order2 partition)
namespace Tt
section
variable {hi first r:Nat} {d:Array Int}
theorem Qqh (h:(hi:Int)<=((2*r+1:Nat):Int)):Sort.siftDown ltInt hi first r d=d:=by rw [Sort.siftDown,dif_pos (by omega)]
theorem Qvy (h:¬(hi:Int)<=((2*r+1:Nat):Int)) (h1:(((2*r+1)+1:Nat):Int)<(hi:Int)) (h2:d[first+(2*r+1)]!<d[(first+(2*r+1))+1]!) :
  Sort.siftDown ltInt hi first r d=if d[first+r]!<d[first+((2*r+1)+1)]! then Sort.siftDown ltInt hi first ((2*r+1)+1) (Sort.swp d (first+r) (first+((2*r+1)+1))) else d:=by
 rw [Sort.siftDown,dif_neg (by omega),if_pos (by simp only [ltInt,h2,decide_true,Bool.and_true,decide_eq_true_eq];omega)]
 by_cases h3:d[first+r]!<d[first+(2*r+2)]!
 ·rw [if_neg (by simp [ltInt,h3]),dif_pos (by omega)]
  show _=if d[first+r]!<d[first+(2*r+2)]! then Sort.siftDown ltInt hi first (2*r+2) (Sort.swp d (first+r) (first+(2*r+2))) else d
  rw [if_pos h3]
 rw [if_pos (by simp only [ltInt,Bool.not_eq_true',decide_eq_false_iff_not];exact h3)]
 show _=if d[first+r]!<d[first+(2*r+2)]! then Sort.siftDown ltInt hi first (2*r+2) (Sort.swp d (first+r) (first+(2*r+2))) else d
 rw [if_neg h3]
theorem QvB (h:¬(hi:Int)<=((2*r+1:Nat):Int)) (h1:(decide ((((2*r+1)+1:Nat):Int)<(hi:Int))&&decide (d[first+(2*r+1)]!<d[(first+(2*r+1))+1]!))=false) :
  Sort.siftDown ltInt hi first r d=if d[first+r]!<d[first+(2*r+1)]! then Sort.siftDown ltInt hi first (2*r+1) (Sort.swp d (first+r) (first+(2*r+1))) else d:=by
 rw [Sort.siftDown,dif_neg (by omega),if_neg]
 ·by_cases h3:d[first+r]!<d[first+(2*r+1)]!
  ·rw [if_neg (by simp [ltInt,h3]),if_pos h3]
  rw [if_pos (by simp only [ltInt,Bool.not_eq_true',decide_eq_false_iff_not];exact h3),if_neg h3]
 intro h2
 rw [Bool.and_eq_true,decide_eq_true_iff] at h2
 rw [Bool.and_eq_false_iff,decide_eq_false_iff_not,decide_eq_false_iff_not] at h1
 rcases h1 with h1|h1
 ·exact h1 (by omega)
 exact h1 (by simpa [ltInt] using h2.2)
end
theorem Qmu (w:World) (S:Nat->Prop) (a:Option Addr) (N c:Nat) (d:Array Int) (hsz:d.size=N) (hN:N<=2305843009213693951) (lo hi first:Nat) (h1:lo<=N) (h2:first+hi<=N) (hR:(row (.slice a N c) (d.toList.map (ic .u16)) 32 1).holds w S) (hlt:∀ x,S x->x<w.heap.size):Calls Tryz.prog 185 #[.slice a N c,.int .i64 (lo:Int),.int .i64 (hi:Int),.int .i64 (first:Int)] w (fun e w'=>∃ x:Unit,e = .returned (.tuple #[])/\Own w S w' [row (.slice a N c) ((Sort.siftDown ltInt hi first lo d).toList.map (ic .u16)) 32 1]/\(Sort.siftDown ltInt hi first lo d).size=N):=by
 refine Qai (n:=76) Tryz.func185 rfl Tryz.ntmps185 rfl ?_
 have hs:=Own.lent hR hlt
 refine Qag (Qab (Qaa (Qac (V:=I6 (lo:Int)) rfl (Qaa (Qad (V:=I6 (lo:Int)) rfl (Qae (Qan (QaC (fun J μ J' w'=>∃ (Jo:Env) (r:Nat) (d1:Array Int),J'=upd (mix ([8,9]++sq 11 65) Jo J) 8 (I6 (r:Int))/\(r<=N)/\(d1.size=N)/\(Sort.siftDown ltInt hi first r d1=Sort.siftDown ltInt hi first lo d)/\μ=hi-r/\Own w S w' [row (.slice a N c) (d1.toList.map (ic .u16)) 32 1]) ?_ ?_))))))))
 ·exact ⟨_,_,lo,d,Qak (Qao (ds:=([8,9]++sq 11 65)) (Agr.refl _ _)) rfl,(by omega),hsz,rfl,rfl,hs⟩
 rintro μ J' w1 ⟨Jo,r,d1,rfl,hr0,hz1,hev,rfl,hs⟩
 refine Qan (Qag (Qab (Qaa (Qac (V:=I6 (r:Int)) rfl (Qaa (Qgy (a:=2) (b:=(r:Int)) (c:=((2*r:Nat):Int)) rfl rfl (Qaj (by omega) (by omega)) (Qaa (QaD (a:=((2*r:Nat):Int)) (b:=1) (c:=(((2*r)+1:Nat):Int)) rfl rfl (Qaj (by omega) (by omega)) (Qaa (Qad (V:=I6 (((2*r)+1:Nat):Int)) rfl (Qae (Qag (Qag (Qab (Qaa (Qac (V:=I6 (((2*r)+1:Nat):Int)) rfl (Qaa (Qac (V:=I6 (hi:Int)) rfl (Qaa (QcR rfl rfl (Qae (Qam (t:=decide ((hi:Int)<=(((2*r)+1:Nat):Int))) rfl (fun c2=>?_) (fun c2=>?_)))))))))))))))))))))))
 ·
  replace c2:=QQ1 c2
  refine QaJ ?_
  refine ⟨_,Qbd Tryz.results185,?_⟩
  have hX:d1=Sort.siftDown ltInt hi first lo d:=by rw [← hev,Qqh c2]
  exact ⟨(),rfl,hX ▸ hs.take 1,hX ▸ (by first|assumption|(simp only [QQ5,Go.Sort.size_swp];omega))⟩
 replace c2:=QQ2 c2
 refine Qap (Qag (Qag (QaH HM [some 17,some 18,some 19,some 20,some 21,some 22,some 23,some 24,some 25,some 26,some 27,some 28,some 29,some 30,some 31,some 32,some 33,some 34,some 35,some 36] [] [0,1,0,7,15,31,31,31,223,511,1023,31,31,31,12319,28703,63519,129055,262143,524287] [pv (I6 (((2*r)+1:Nat):Int)),pv (I6 ((((2*r)+1)+1:Nat):Int)),pv (I6 (hi:Int)),pv (.bool (decide (((((2*r)+1)+1:Nat):Int)<(hi:Int)))),pv (.bool (decide (((((2*r)+1)+1:Nat):Int)<(hi:Int)))),pg ((decide (((((2*r)+1)+1:Nat):Int)<(hi:Int))) == true) (.slice a N c),pg ((decide (((((2*r)+1)+1:Nat):Int)<(hi:Int))) == true) (I6 (first:Int)),pg ((decide (((((2*r)+1)+1:Nat):Int)<(hi:Int))) == true) (I6 (((2*r)+1:Nat):Int)),pg ((decide (((((2*r)+1)+1:Nat):Int)<(hi:Int))) == true) (I6 ((first+((2*r)+1):Nat):Int)),pg ((decide (((((2*r)+1)+1:Nat):Int)<(hi:Int))) == true) (.pointer (some ⟨bkS (.slice a N c),ofS (.slice a N c)+((first+((2*r)+1):Nat):Int).toNat*1,none⟩)),pg ((decide (((((2*r)+1)+1:Nat):Int)<(hi:Int))) == true) (I7 (d1[first+((2*r)+1)]!)),pg ((decide (((((2*r)+1)+1:Nat):Int)<(hi:Int))) == true) (.slice a N c),pg ((decide (((((2*r)+1)+1:Nat):Int)<(hi:Int))) == true) (I6 (first:Int)),pg ((decide (((((2*r)+1)+1:Nat):Int)<(hi:Int))) == true) (I6 (((2*r)+1:Nat):Int)),pg ((decide (((((2*r)+1)+1:Nat):Int)<(hi:Int))) == true) (I6 ((first+((2*r)+1):Nat):Int)),pg ((decide (((((2*r)+1)+1:Nat):Int)<(hi:Int))) == true) (I6 (((first+((2*r)+1))+1:Nat):Int)),pg ((decide (((((2*r)+1)+1:Nat):Int)<(hi:Int))) == true) (.pointer (some ⟨bkS (.slice a N c),ofS (.slice a N c)+(((first+((2*r)+1))+1:Nat):Int).toNat*1,none⟩)),pg ((decide (((((2*r)+1)+1:Nat):Int)<(hi:Int))) == true) (I7 (d1[(first+((2*r)+1))+1]!)),pg ((decide (((((2*r)+1)+1:Nat):Int)<(hi:Int))) == true) (.bool (decide (d1[first+((2*r)+1)]!<d1[(first+((2*r)+1))+1]!))),pv (.bool ((decide (((((2*r)+1)+1:Nat):Int)<(hi:Int)))&&(decide (d1[first+((2*r)+1)]!<d1[(first+((2*r)+1))+1]!))))] (fun _ _=>_) [19] (by kernel_rfl) hs ⟨?_,?_,?_,?_,?_,?_,?_,?_,?_,?_,?_,?_,?_,?_,?_,?_,?_,?_,?_,?_,trivial⟩ ?_)))
 ·exact oa [] fun D J w hs=>Qac (V:=.int .i64 (((2*r)+1:Nat):Int)) rfl (Zz hs)
 ·exact oa [0] fun D J w hs=>QaD (a:=(((2*r)+1:Nat):Int)) (b:=1) (c:=((((2*r)+1)+1:Nat):Int)) rfl rfl (Qaj (by omega) (by omega)) (Zz hs)
 ·exact oa [] fun D J w hs=>Qac (V:=.int .i64 (hi:Int)) rfl (Zz hs)
 ·exact oa [1,2] fun D J w hs=>Qa2 rfl rfl (Zz hs)
 ·exact oa [3] fun D J w hs=>Qac (V:=.bool (decide (((((2*r)+1)+1:Nat):Int)<(hi:Int)))) rfl (Zz hs)
 ·refine og [4] fun D J w hG hs=>?_
  have hgd:=QQ1 (eq_of_beq hG)
  exact Qac (V:=.slice a N c) rfl (Zz hs)
 ·refine og [4] fun D J w hG hs=>?_
  have hgd:=QQ1 (eq_of_beq hG)
  exact Qac (V:=.int .i64 (first:Int)) rfl (Zz hs)
 ·refine og [4] fun D J w hG hs=>?_
  have hgd:=QQ1 (eq_of_beq hG)
  exact Qac (V:=.int .i64 (((2*r)+1:Nat):Int)) rfl (Zz hs)
 ·refine oy [4,6,7] [6,7] fun D J w hG hs=>?_
  have hgd:=QQ1 (eq_of_beq hG)
  exact QaD (a:=(first:Int)) (b:=(((2*r)+1:Nat):Int)) (c:=((first+((2*r)+1):Nat):Int)) rfl rfl (Qaj (by omega) (by omega)) (Zz hs)
 ·refine oy [4,5,8] [5,8] fun D J w hG hs=>?_
  have hgd:=QQ1 (eq_of_beq hG)
  exact Qaw QaK Qar.1 (hs.rd 0 rfl) rfl rfl (by omega) (by simp only [QQ6,QQ9,QQ5,Go.Sort.size_swp];omega) (Zz hs)
 ·refine oy [4,9] [9] fun D J w hG hs=>?_
  have hgd:=QQ1 (eq_of_beq hG)
  exact QaU (j:=0) (V:=.int .u16 (d1[first+((2*r)+1)]!)) (first+((2*r)+1)) Qar (hs.rd 0 rfl) (Qbk (by omega)) rfl rfl (by omega) (Zz hs)
 ·refine og [4] fun D J w hG hs=>?_
  have hgd:=QQ1 (eq_of_beq hG)
  exact Qac (V:=.slice a N c) rfl (Zz hs)
 ·refine og [4] fun D J w hG hs=>?_
  have hgd:=QQ1 (eq_of_beq hG)
  exact Qac (V:=.int .i64 (first:Int)) rfl (Zz hs)
 ·refine og [4] fun D J w hG hs=>?_
  have hgd:=QQ1 (eq_of_beq hG)
  exact Qac (V:=.int .i64 (((2*r)+1:Nat):Int)) rfl (Zz hs)
 ·refine oy [4,12,13] [12,13] fun D J w hG hs=>?_
  have hgd:=QQ1 (eq_of_beq hG)
  exact QaD (a:=(first:Int)) (b:=(((2*r)+1:Nat):Int)) (c:=((first+((2*r)+1):Nat):Int)) rfl rfl (Qaj (by omega) (by omega)) (Zz hs)
 ·refine oy [4,14] [14] fun D J w hG hs=>?_
  have hgd:=QQ1 (eq_of_beq hG)
  exact QaD (a:=((first+((2*r)+1):Nat):Int)) (b:=1) (c:=(((first+((2*r)+1))+1:Nat):Int)) rfl rfl (Qaj (by omega) (by omega)) (Zz hs)
 ·refine oy [4,11,15] [11,15] fun D J w hG hs=>?_
  have hgd:=QQ1 (eq_of_beq hG)
  exact Qaw QaK Qar.1 (hs.rd 0 rfl) rfl rfl (by omega) (by simp only [QQ6,QQ9,QQ5,Go.Sort.size_swp];omega) (Zz hs)
 ·refine oy [4,16] [16] fun D J w hG hs=>?_
  have hgd:=QQ1 (eq_of_beq hG)
  exact QaU (j:=0) (V:=.int .u16 (d1[(first+((2*r)+1))+1]!)) ((first+((2*r)+1))+1) Qar (hs.rd 0 rfl) (Qbk (by omega)) rfl rfl (by omega) (Zz hs)
 ·refine oy [4,10,17] [10,17] fun D J w hG hs=>?_
  have hgd:=QQ1 (eq_of_beq hG)
  exact Qas (vs:=[.int .u16 (d1[first+((2*r)+1)]!),.int .u16 (d1[(first+((2*r)+1))+1]!)]) (V:=.bool (decide (d1[first+((2*r)+1)]!<d1[(first+((2*r)+1))+1]!))) Qc0 rfl rfl (Qcl _ (d1[first+((2*r)+1)]!) (d1[(first+((2*r)+1))+1]!)) hs fun _ hs=>Zz hs
 ·exact oa [4,18] fun D J w hs=>Qbg (h':=decide (d1[first+((2*r)+1)]!<d1[(first+((2*r)+1))+1]!)) rfl rfl rfl (Zz hs)
 rintro J1 w4 J2 hJ hs
 replace hJ:J2=upd (mix (sq 17 20) J1 _) 36 (.bool ((decide (((((2*r)+1)+1:Nat):Int)<(hi:Int)))&&(decide (d1[first+((2*r)+1)]!<d1[(first+((2*r)+1))+1]!)))):=hJ
 subst hJ
 refine Qam (t:=(decide (((((2*r)+1)+1:Nat):Int)<(hi:Int)))&&(decide (d1[first+((2*r)+1)]!<d1[(first+((2*r)+1))+1]!))) rfl (fun c5=>?_) (fun c5=>?_)
 ·
  have c5r:=Qcs c5
  replace c5:=QbY c5
  replace c5:=QQ1 c5
  replace c5r:=QQ1 c5r
  refine Qab (Qaa (Qac (V:=I6 (((2*r)+1:Nat):Int)) rfl (Qaa (QaD (a:=(((2*r)+1:Nat):Int)) (b:=1) (c:=((((2*r)+1)+1:Nat):Int)) rfl rfl (Qaj (by omega) (by omega)) (Qaa (Qad (V:=I6 ((((2*r)+1)+1:Nat):Int)) rfl (Qae (Qag (Qag (QaH HM [some 39,some 40,some 41,some 42,some 43,some 44,some 45,some 46,some 47,some 48,some 49,some 50,some 51,some 52] [] [0,0,0,6,15,31,0,0,0,384,960,1984,4095,8191] [pv (.slice a N c),pv (I6 (first:Int)),pv (I6 (r:Int)),pv (I6 ((first+r:Nat):Int)),pv (.pointer (some ⟨bkS (.slice a N c),ofS (.slice a N c)+((first+r:Nat):Int).toNat*1,none⟩)),pv (I7 (d1[first+r]!)),pv (.slice a N c),pv (I6 (first:Int)),pv (I6 ((((2*r)+1)+1:Nat):Int)),pv (I6 ((first+(((2*r)+1)+1):Nat):Int)),pv (.pointer (some ⟨bkS (.slice a N c),ofS (.slice a N c)+((first+(((2*r)+1)+1):Nat):Int).toNat*1,none⟩)),pv (I7 (d1[first+(((2*r)+1)+1)]!)),pv (.bool (decide (d1[first+r]!<d1[first+(((2*r)+1)+1)]!))),pv (.bool (!decide (d1[first+r]!<d1[first+(((2*r)+1)+1)]!)))] (fun _ _=>_) [13] (by kernel_rfl) hs ⟨?_,?_,?_,?_,?_,?_,?_,?_,?_,?_,?_,?_,?_,?_,trivial⟩ ?_))))))))))
  ·exact oa [] fun D J w hs=>Qac (V:=.slice a N c) rfl (Zz hs)
  ·exact oa [] fun D J w hs=>Qac (V:=.int .i64 (first:Int)) rfl (Zz hs)
  ·exact oa [] fun D J w hs=>Qac (V:=.int .i64 (r:Int)) rfl (Zz hs)
  ·exact oa [1,2] fun D J w hs=>QaD (a:=(first:Int)) (b:=(r:Int)) (c:=((first+r:Nat):Int)) rfl rfl (Qaj (by omega) (by omega)) (Zz hs)
  ·exact oa [0,3] fun D J w hs=>Qaw QaK Qar.1 (hs.rd 0 rfl) rfl rfl (by omega) (by simp only [QQ6,QQ9,QQ5,Go.Sort.size_swp];omega) (Zz hs)
  ·exact oa [4] fun D J w hs=>QaU (j:=0) (V:=.int .u16 (d1[first+r]!)) (first+r) Qar (hs.rd 0 rfl) (Qbk (by omega)) rfl rfl (by omega) (Zz hs)
  ·exact oa [] fun D J w hs=>Qac (V:=.slice a N c) rfl (Zz hs)
  ·exact oa [] fun D J w hs=>Qac (V:=.int .i64 (first:Int)) rfl (Zz hs)
  ·exact oa [] fun D J w hs=>Qac (V:=.int .i64 ((((2*r)+1)+1:Nat):Int)) rfl (Zz hs)
  ·exact oa [7,8] fun D J w hs=>QaD (a:=(first:Int)) (b:=((((2*r)+1)+1:Nat):Int)) (c:=((first+(((2*r)+1)+1):Nat):Int)) rfl rfl (Qaj (by omega) (by omega)) (Zz hs)
  ·exact oa [6,9] fun D J w hs=>Qaw QaK Qar.1 (hs.rd 0 rfl) rfl rfl (by omega) (by simp only [QQ6,QQ9,QQ5,Go.Sort.size_swp];omega) (Zz hs)
  ·exact oa [10] fun D J w hs=>QaU (j:=0) (V:=.int .u16 (d1[first+(((2*r)+1)+1)]!)) (first+(((2*r)+1)+1)) Qar (hs.rd 0 rfl) (Qbk (by omega)) rfl rfl (by omega) (Zz hs)
  ·exact oa [5,11] fun D J w hs=>Qas (vs:=[.int .u16 (d1[first+r]!),.int .u16 (d1[first+(((2*r)+1)+1)]!)]) (V:=.bool (decide (d1[first+r]!<d1[first+(((2*r)+1)+1)]!))) Qc0 rfl rfl (Qcl _ (d1[first+r]!) (d1[first+(((2*r)+1)+1)]!)) hs fun _ hs=>Zz hs
  ·exact oa [12] fun D J w hs=>Qbx rfl (Zz hs)
  rintro J1 w7 J2 hJ hs
  replace hJ:J2=upd (mix (sq 39 14) J1 _) 52 (.bool (!decide (d1[first+r]!<d1[first+(((2*r)+1)+1)]!))):=hJ
  subst hJ
  refine Qam (t:=!decide (d1[first+r]!<d1[first+(((2*r)+1)+1)]!)) rfl (fun c8=>?_) (fun c8=>?_)
  ·
   replace c8:=Qby c8
   replace c8:=QQ2 c8
   refine Qav ?_
   refine ⟨_,Qbd Tryz.results185,?_⟩
   have hX:d1=Sort.siftDown ltInt hi first lo d:=by rw [← hev,Qvy c2 c5 c5r,if_neg c8]
   exact ⟨(),rfl,hX ▸ hs.take 1,hX ▸ (by first|assumption|(simp only [QQ5,Go.Sort.size_swp];omega))⟩
  replace c8:=Qbr c8
  replace c8:=QQ1 c8
  refine Qap (Qag (QaH HM [some 53,some 54,some 55,some 56,some 57,some 58,some 59,some 60,some 61,some 62,some 63,some 64,some 65,some 66,some 67,some 68,some 69,some 70,some 71,some 72,some 73,none,some 74,none] [] [0,0,0,6,0,0,0,96,0,0,0,1536,3840,7936,0,0,0,98304,245760,507904,1048335,2096911,4194303,8388607] [pv (.slice a N c),pv (I6 (first:Int)),pv (I6 (r:Int)),pv (I6 ((first+r:Nat):Int)),pv (.slice a N c),pv (I6 (first:Int)),pv (I6 ((((2*r)+1)+1:Nat):Int)),pv (I6 ((first+(((2*r)+1)+1):Nat):Int)),pv (.slice a N c),pv (I6 (first:Int)),pv (I6 ((((2*r)+1)+1:Nat):Int)),pv (I6 ((first+(((2*r)+1)+1):Nat):Int)),pv (.pointer (some ⟨bkS (.slice a N c),ofS (.slice a N c)+((first+(((2*r)+1)+1):Nat):Int).toNat*1,none⟩)),pv (I7 (d1[first+(((2*r)+1)+1)]!)),pv (.slice a N c),pv (I6 (first:Int)),pv (I6 (r:Int)),pv (I6 ((first+r:Nat):Int)),pv (.pointer (some ⟨bkS (.slice a N c),ofS (.slice a N c)+((first+r:Nat):Int).toNat*1,none⟩)),pv (I7 (d1[first+r]!)),pv (.pointer (some ⟨bkS (.slice a N c),ofS (.slice a N c)+((first+r:Nat):Int).toNat*1,none⟩)),pn,pv (.pointer (some ⟨bkS (.slice a N c),ofS (.slice a N c)+((first+(((2*r)+1)+1):Nat):Int).toNat*1,none⟩)),pn] (fun D J=>[cond (D 23) (row (.slice a N c) ((((d1.setIfInBounds (first+r) (d1[first+(((2*r)+1)+1)]!)).setIfInBounds (first+(((2*r)+1)+1)) (d1[first+r]!)).toList).map (ic .u16)) 32 1) (cond (D 21) (row (.slice a N c) (((d1.setIfInBounds (first+r) (d1[first+(((2*r)+1)+1)]!)).toList).map (ic .u16)) 32 1) (row (.slice a N c) (d1.toList.map (ic .u16)) 32 1))]) [] (by kernel_rfl) hs ⟨?_,?_,?_,?_,?_,?_,?_,?_,?_,?_,?_,?_,?_,?_,?_,?_,?_,?_,?_,?_,?_,?_,?_,?_,trivial⟩ ?_))
  ·exact oa [] fun D J w hs=>Qac (V:=.slice a N c) rfl (Zz hs)
  ·exact oa [] fun D J w hs=>Qac (V:=.int .i64 (first:Int)) rfl (Zz hs)
  ·exact oa [] fun D J w hs=>Qac (V:=.int .i64 (r:Int)) rfl (Zz hs)
  ·exact oa [1,2] fun D J w hs=>QaD (a:=(first:Int)) (b:=(r:Int)) (c:=((first+r:Nat):Int)) rfl rfl (Qaj (by omega) (by omega)) (Zz hs)
  ·exact oa [] fun D J w hs=>Qac (V:=.slice a N c) rfl (Zz hs)
  ·exact oa [] fun D J w hs=>Qac (V:=.int .i64 (first:Int)) rfl (Zz hs)
  ·exact oa [] fun D J w hs=>Qac (V:=.int .i64 ((((2*r)+1)+1:Nat):Int)) rfl (Zz hs)
  ·exact oa [5,6] fun D J w hs=>QaD (a:=(first:Int)) (b:=((((2*r)+1)+1:Nat):Int)) (c:=((first+(((2*r)+1)+1):Nat):Int)) rfl rfl (Qaj (by omega) (by omega)) (Zz hs)
  ·exact oa [] fun D J w hs=>Qac (V:=.slice a N c) rfl (Zz hs)
  ·exact oa [] fun D J w hs=>Qac (V:=.int .i64 (first:Int)) rfl (Zz hs)
  ·exact oa [] fun D J w hs=>Qac (V:=.int .i64 ((((2*r)+1)+1:Nat):Int)) rfl (Zz hs)
  ·exact oa [9,10] fun D J w hs=>QaD (a:=(first:Int)) (b:=((((2*r)+1)+1:Nat):Int)) (c:=((first+(((2*r)+1)+1):Nat):Int)) rfl rfl (Qaj (by omega) (by omega)) (Zz hs)
  ·exact ob [8,11] [21,23] rfl rfl fun D J w hs=>Qaw QaK Qar.1 (hs.rd 0 rfl) rfl rfl (by omega) (by simp only [QQ6,QQ9,QQ5,Go.Sort.size_swp];omega) (Zz hs)
  ·exact ob [12] [21,23] rfl rfl fun D J w hs=>QaU (j:=0) (V:=I7 (d1[first+(((2*r)+1)+1)]!)) (first+(((2*r)+1)+1)) Qar (hs.rd 0 rfl) (Qbk (by omega)) rfl rfl (by omega) (Zz hs)
  ·exact oa [] fun D J w hs=>Qac (V:=.slice a N c) rfl (Zz hs)
  ·exact oa [] fun D J w hs=>Qac (V:=.int .i64 (first:Int)) rfl (Zz hs)
  ·exact oa [] fun D J w hs=>Qac (V:=.int .i64 (r:Int)) rfl (Zz hs)
  ·exact oa [15,16] fun D J w hs=>QaD (a:=(first:Int)) (b:=(r:Int)) (c:=((first+r:Nat):Int)) rfl rfl (Qaj (by omega) (by omega)) (Zz hs)
  ·exact ob [14,17] [21,23] rfl rfl fun D J w hs=>Qaw QaK Qar.1 (hs.rd 0 rfl) rfl rfl (by omega) (by simp only [QQ6,QQ9,QQ5,Go.Sort.size_swp];omega) (Zz hs)
  ·exact ob [18] [21,23] rfl rfl fun D J w hs=>QaU (j:=0) (V:=I7 (d1[first+r]!)) (first+r) Qar (hs.rd 0 rfl) (Qbk (by omega)) rfl rfl (by omega) (Zz hs)
  ·exact ob [0,3] [21,23] rfl rfl fun D J w hs=>Qaw QaK Qar.1 (hs.rd 0 rfl) rfl rfl (by omega) (by simp only [QQ6,QQ9,QQ5,Go.Sort.size_swp];omega) (Zz hs)
  ·exact ob [13,20] [23] rfl rfl fun D J w hs=>Qcj (z:=d1[first+(((2*r)+1)+1)]!) (first+r) Qar hs 0 rfl rfl (by omega) (by first|omega|(simp only [QQ5,Go.Sort.size_swp];omega)) rfl rfl rfl fun _ hs=>⟨trivial,hs⟩
  ·exact ob [4,7,21] [23] rfl rfl fun D J w hs=>Qaw QaK Qar.1 (hs.rd 0 rfl) rfl rfl (by omega) (by simp only [QQ6,QQ9,QQ5,Go.Sort.size_swp];omega) (Zz hs)
  ·exact oa [19,21,22] fun D J w hs=>Qcj (z:=d1[first+r]!) (first+(((2*r)+1)+1)) Qar hs 0 rfl rfl (by omega) (by first|omega|(simp only [QQ5,Go.Sort.size_swp];omega)) rfl rfl rfl fun _ hs=>⟨trivial,hs⟩
  rintro J1 w11 J2 hJ hs
  replace hJ:J2=mix (sq 53 22) J1 _:=hJ
  replace hs:Own w S w11 [row (.slice a N c) ((((d1.setIfInBounds (first+r) (d1[first+(((2*r)+1)+1)]!)).setIfInBounds (first+(((2*r)+1)+1)) (d1[first+r]!)).toList).map (ic .u16)) 32 1]:=hs
  subst hJ
  refine Qab (Qaa (Qac (V:=I6 ((((2*r)+1)+1:Nat):Int)) rfl (Qaa (Qad (V:=I6 ((((2*r)+1)+1:Nat):Int)) rfl (Qae ?_)))))
  refine ⟨_,?_,_,((2*r)+1)+1,((d1.setIfInBounds (first+r) (d1[first+(((2*r)+1)+1)]!)).setIfInBounds (first+(((2*r)+1)+1)) (d1[first+r]!)),Qak (Qao (ds:=([8,9]++sq 11 65)) (by repeat (first|exact Agr.refl _ _|refine Agr.upd ?_ rfl|refine Agr.mix ?_ rfl))) rfl,(by omega),(by simp only [QQ5];exact hz1),(by rw [← hev,Qvy c2 c5 c5r,if_pos c8];rfl),rfl,hs.take 1⟩
  omega
 refine Qap (Qag (Qag (QaH HM [some 39,some 40,some 41,some 42,some 43,some 44,some 45,some 46,some 47,some 48,some 49,some 50,some 51,some 52] [] [0,0,0,6,15,31,0,0,0,384,960,1984,4095,8191] [pv (.slice a N c),pv (I6 (first:Int)),pv (I6 (r:Int)),pv (I6 ((first+r:Nat):Int)),pv (.pointer (some ⟨bkS (.slice a N c),ofS (.slice a N c)+((first+r:Nat):Int).toNat*1,none⟩)),pv (I7 (d1[first+r]!)),pv (.slice a N c),pv (I6 (first:Int)),pv (I6 (((2*r)+1:Nat):Int)),pv (I6 ((first+((2*r)+1):Nat):Int)),pv (.pointer (some ⟨bkS (.slice a N c),ofS (.slice a N c)+((first+((2*r)+1):Nat):Int).toNat*1,none⟩)),pv (I7 (d1[first+((2*r)+1)]!)),pv (.bool (decide (d1[first+r]!<d1[first+((2*r)+1)]!))),pv (.bool (!decide (d1[first+r]!<d1[first+((2*r)+1)]!)))] (fun _ _=>_) [13] (by kernel_rfl) hs ⟨?_,?_,?_,?_,?_,?_,?_,?_,?_,?_,?_,?_,?_,?_,trivial⟩ ?_)))
 ·exact oa [] fun D J w hs=>Qac (V:=.slice a N c) rfl (Zz hs)
 ·exact oa [] fun D J w hs=>Qac (V:=.int .i64 (first:Int)) rfl (Zz hs)
 ·exact oa [] fun D J w hs=>Qac (V:=.int .i64 (r:Int)) rfl (Zz hs)
 ·exact oa [1,2] fun D J w hs=>QaD (a:=(first:Int)) (b:=(r:Int)) (c:=((first+r:Nat):Int)) rfl rfl (Qaj (by omega) (by omega)) (Zz hs)
 ·exact oa [0,3] fun D J w hs=>Qaw QaK Qar.1 (hs.rd 0 rfl) rfl rfl (by omega) (by simp only [QQ6,QQ9,QQ5,Go.Sort.size_swp];omega) (Zz hs)
 ·exact oa [4] fun D J w hs=>QaU (j:=0) (V:=.int .u16 (d1[first+r]!)) (first+r) Qar (hs.rd 0 rfl) (Qbk (by omega)) rfl rfl (by omega) (Zz hs)
 ·exact oa [] fun D J w hs=>Qac (V:=.slice a N c) rfl (Zz hs)
 ·exact oa [] fun D J w hs=>Qac (V:=.int .i64 (first:Int)) rfl (Zz hs)
 ·exact oa [] fun D J w hs=>Qac (V:=.int .i64 (((2*r)+1:Nat):Int)) rfl (Zz hs)
 ·exact oa [7,8] fun D J w hs=>QaD (a:=(first:Int)) (b:=(((2*r)+1:Nat):Int)) (c:=((first+((2*r)+1):Nat):Int)) rfl rfl (Qaj (by omega) (by omega)) (Zz hs)
 ·exact oa [6,9] fun D J w hs=>Qaw QaK Qar.1 (hs.rd 0 rfl) rfl rfl (by omega) (by simp only [QQ6,QQ9,QQ5,Go.Sort.size_swp];omega) (Zz hs)
 ·exact oa [10] fun D J w hs=>QaU (j:=0) (V:=.int .u16 (d1[first+((2*r)+1)]!)) (first+((2*r)+1)) Qar (hs.rd 0 rfl) (Qbk (by omega)) rfl rfl (by omega) (Zz hs)
 ·exact oa [5,11] fun D J w hs=>Qas (vs:=[.int .u16 (d1[first+r]!),.int .u16 (d1[first+((2*r)+1)]!)]) (V:=.bool (decide (d1[first+r]!<d1[first+((2*r)+1)]!))) Qc0 rfl rfl (Qcl _ (d1[first+r]!) (d1[first+((2*r)+1)]!)) hs fun _ hs=>Zz hs
 ·exact oa [12] fun D J w hs=>Qbx rfl (Zz hs)
 rintro J1 w13 J2 hJ hs
 replace hJ:J2=upd (mix (sq 39 14) J1 _) 52 (.bool (!decide (d1[first+r]!<d1[first+((2*r)+1)]!))):=hJ
 subst hJ
 refine Qam (t:=!decide (d1[first+r]!<d1[first+((2*r)+1)]!)) rfl (fun c14=>?_) (fun c14=>?_)
 ·
  replace c14:=Qby c14
  replace c14:=QQ2 c14
  refine Qav ?_
  refine ⟨_,Qbd Tryz.results185,?_⟩
  have hX:d1=Sort.siftDown ltInt hi first lo d:=by rw [← hev,QvB c2 c5,if_neg c14]
  exact ⟨(),rfl,hX ▸ hs.take 1,hX ▸ (by first|assumption|(simp only [QQ5,Go.Sort.size_swp];omega))⟩
 replace c14:=Qbr c14
 replace c14:=QQ1 c14
 refine Qap (Qag (QaH HM [some 53,some 54,some 55,some 56,some 57,some 58,some 59,some 60,some 61,some 62,some 63,some 64,some 65,some 66,some 67,some 68,some 69,some 70,some 71,some 72,some 73,none,some 74,none] [] [0,0,0,6,0,0,0,96,0,0,0,1536,3840,7936,0,0,0,98304,245760,507904,1048335,2096911,4194303,8388607] [pv (.slice a N c),pv (I6 (first:Int)),pv (I6 (r:Int)),pv (I6 ((first+r:Nat):Int)),pv (.slice a N c),pv (I6 (first:Int)),pv (I6 (((2*r)+1:Nat):Int)),pv (I6 ((first+((2*r)+1):Nat):Int)),pv (.slice a N c),pv (I6 (first:Int)),pv (I6 (((2*r)+1:Nat):Int)),pv (I6 ((first+((2*r)+1):Nat):Int)),pv (.pointer (some ⟨bkS (.slice a N c),ofS (.slice a N c)+((first+((2*r)+1):Nat):Int).toNat*1,none⟩)),pv (I7 (d1[first+((2*r)+1)]!)),pv (.slice a N c),pv (I6 (first:Int)),pv (I6 (r:Int)),pv (I6 ((first+r:Nat):Int)),pv (.pointer (some ⟨bkS (.slice a N c),ofS (.slice a N c)+((first+r:Nat):Int).toNat*1,none⟩)),pv (I7 (d1[first+r]!)),pv (.pointer (some ⟨bkS (.slice a N c),ofS (.slice a N c)+((first+r:Nat):Int).toNat*1,none⟩)),pn,pv (.pointer (some ⟨bkS (.slice a N c),ofS (.slice a N c)+((first+((2*r)+1):Nat):Int).toNat*1,none⟩)),pn] (fun D J=>[cond (D 23) (row (.slice a N c) ((((d1.setIfInBounds (first+r) (d1[first+((2*r)+1)]!)).setIfInBounds (first+((2*r)+1)) (d1[first+r]!)).toList).map (ic .u16)) 32 1) (cond (D 21) (row (.slice a N c) (((d1.setIfInBounds (first+r) (d1[first+((2*r)+1)]!)).toList).map (ic .u16)) 32 1) (row (.slice a N c) (d1.toList.map (ic .u16)) 32 1))]) [] (by kernel_rfl) hs ⟨?_,?_,?_,?_,?_,?_,?_,?_,?_,?_,?_,?_,?_,?_,?_,?_,?_,?_,?_,?_,?_,?_,?_,?_,trivial⟩ ?_))
 ·exact oa [] fun D J w hs=>Qac (V:=.slice a N c) rfl (Zz hs)
 ·exact oa [] fun D J w hs=>Qac (V:=.int .i64 (first:Int)) rfl (Zz hs)
 ·exact oa [] fun D J w hs=>Qac (V:=.int .i64 (r:Int)) rfl (Zz hs)
 ·exact oa [1,2] fun D J w hs=>QaD (a:=(first:Int)) (b:=(r:Int)) (c:=((first+r:Nat):Int)) rfl rfl (Qaj (by omega) (by omega)) (Zz hs)
 ·exact oa [] fun D J w hs=>Qac (V:=.slice a N c) rfl (Zz hs)
 ·exact oa [] fun D J w hs=>Qac (V:=.int .i64 (first:Int)) rfl (Zz hs)
 ·exact oa [] fun D J w hs=>Qac (V:=.int .i64 (((2*r)+1:Nat):Int)) rfl (Zz hs)
 ·exact oa [5,6] fun D J w hs=>QaD (a:=(first:Int)) (b:=(((2*r)+1:Nat):Int)) (c:=((first+((2*r)+1):Nat):Int)) rfl rfl (Qaj (by omega) (by omega)) (Zz hs)
 ·exact oa [] fun D J w hs=>Qac (V:=.slice a N c) rfl (Zz hs)
 ·exact oa [] fun D J w hs=>Qac (V:=.int .i64 (first:Int)) rfl (Zz hs)
 ·exact oa [] fun D J w hs=>Qac (V:=.int .i64 (((2*r)+1:Nat):Int)) rfl (Zz hs)
 ·exact oa [9,10] fun D J w hs=>QaD (a:=(first:Int)) (b:=(((2*r)+1:Nat):Int)) (c:=((first+((2*r)+1):Nat):Int)) rfl rfl (Qaj (by omega) (by omega)) (Zz hs)
 ·exact ob [8,11] [21,23] rfl rfl fun D J w hs=>Qaw QaK Qar.1 (hs.rd 0 rfl) rfl rfl (by omega) (by simp only [QQ6,QQ9,QQ5,Go.Sort.size_swp];omega) (Zz hs)
 ·exact ob [12] [21,23] rfl rfl fun D J w hs=>QaU (j:=0) (V:=I7 (d1[first+((2*r)+1)]!)) (first+((2*r)+1)) Qar (hs.rd 0 rfl) (Qbk (by omega)) rfl rfl (by omega) (Zz hs)
 ·exact oa [] fun D J w hs=>Qac (V:=.slice a N c) rfl (Zz hs)
 ·exact oa [] fun D J w hs=>Qac (V:=.int .i64 (first:Int)) rfl (Zz hs)
 ·exact oa [] fun D J w hs=>Qac (V:=.int .i64 (r:Int)) rfl (Zz hs)
 ·exact oa [15,16] fun D J w hs=>QaD (a:=(first:Int)) (b:=(r:Int)) (c:=((first+r:Nat):Int)) rfl rfl (Qaj (by omega) (by omega)) (Zz hs)
 ·exact ob [14,17] [21,23] rfl rfl fun D J w hs=>Qaw QaK Qar.1 (hs.rd 0 rfl) rfl rfl (by omega) (by simp only [QQ6,QQ9,QQ5,Go.Sort.size_swp];omega) (Zz hs)
 ·exact ob [18] [21,23] rfl rfl fun D J w hs=>QaU (j:=0) (V:=I7 (d1[first+r]!)) (first+r) Qar (hs.rd 0 rfl) (Qbk (by omega)) rfl rfl (by omega) (Zz hs)
 ·exact ob [0,3] [21,23] rfl rfl fun D J w hs=>Qaw QaK Qar.1 (hs.rd 0 rfl) rfl rfl (by omega) (by simp only [QQ6,QQ9,QQ5,Go.Sort.size_swp];omega) (Zz hs)
 ·exact ob [13,20] [23] rfl rfl fun D J w hs=>Qcj (z:=d1[first+((2*r)+1)]!) (first+r) Qar hs 0 rfl rfl (by omega) (by first|omega|(simp only [QQ5,Go.Sort.size_swp];omega)) rfl rfl rfl fun _ hs=>⟨trivial,hs⟩
 ·exact ob [4,7,21] [23] rfl rfl fun D J w hs=>Qaw QaK Qar.1 (hs.rd 0 rfl) rfl rfl (by omega) (by simp only [QQ6,QQ9,QQ5,Go.Sort.size_swp];omega) (Zz hs)
 ·exact oa [19,21,22] fun D J w hs=>Qcj (z:=d1[first+r]!) (first+((2*r)+1)) Qar hs 0 rfl rfl (by omega) (by first|omega|(simp only [QQ5,Go.Sort.size_swp];omega)) rfl rfl rfl fun _ hs=>⟨trivial,hs⟩
 rintro J1 w17 J2 hJ hs
 replace hJ:J2=mix (sq 53 22) J1 _:=hJ
 replace hs:Own w S w17 [row (.slice a N c) ((((d1.setIfInBounds (first+r) (d1[first+((2*r)+1)]!)).setIfInBounds (first+((2*r)+1)) (d1[first+r]!)).toList).map (ic .u16)) 32 1]:=hs
 subst hJ
 refine Qab (Qaa (Qac (V:=I6 (((2*r)+1:Nat):Int)) rfl (Qaa (Qad (V:=I6 (((2*r)+1:Nat):Int)) rfl (Qae ?_)))))
 refine ⟨_,?_,_,(2*r)+1,((d1.setIfInBounds (first+r) (d1[first+((2*r)+1)]!)).setIfInBounds (first+((2*r)+1)) (d1[first+r]!)),Qak (Qao (ds:=([8,9]++sq 11 65)) (by repeat (first|exact Agr.refl _ _|refine Agr.upd ?_ rfl|refine Agr.mix ?_ rfl))) rfl,(by omega),(by simp only [QQ5];exact hz1),(by rw [← hev,QvB c2 c5,if_pos c14];rfl),rfl,hs.take 1⟩
 omega
theorem Qq0 {i j:Nat} {d:Array Int} (h:(i:Int)<(j:Int)):Sort.reverseLoop i j d=Sort.reverseLoop (i+1) (j-1) (Sort.swp d i j):=by rw [Sort.reverseLoop,if_pos (by omega)]
theorem QsV {i j:Nat} {d:Array Int} (h:¬(i:Int)<(j:Int)):Sort.reverseLoop i j d=d:=by rw [Sort.reverseLoop,if_neg (by omega)]
theorem QsY (w:World) (S:Nat->Prop) (a:Option Addr) (N c:Nat) (d:Array Int) (hsz:d.size=N) (hN:N<=2305843009213693951) (lo hi:Nat) (h1:lo<hi) (h2:hi<=N) (hR:(row (.slice a N c) (d.toList.map (ic .u16)) 32 1).holds w S) (hlt:∀ x,S x->x<w.heap.size):Calls Tryz.prog 176 #[.slice a N c,.int .i64 (lo:Int),.int .i64 (hi:Int)] w (fun e w'=>∃ x:Unit,e = .returned (.tuple #[])/\Own w S w' [row (.slice a N c) ((Sort.reverseRange d lo hi).toList.map (ic .u16)) 32 1]/\(Sort.reverseRange d lo hi).size=N):=by
 refine Qai (n:=32) Tryz.func176 rfl Tryz.ntmps176 rfl ?_
 have hs:=Own.lent hR hlt
 refine Qag (Qab (Qaa (Qac (V:=I6 (lo:Int)) rfl (Qaa (Qad (V:=I6 (lo:Int)) rfl (Qae (Qag (Qab (Qaa (Qac (V:=I6 (hi:Int)) rfl (Qaa (Qa3 (a:=(hi:Int)) (b:=1) (c:=((hi-1:Nat):Int)) rfl rfl (Qaj (by omega) (by omega)) (Qaa (Qad (V:=I6 ((hi-1:Nat):Int)) rfl (Qae (Qan (QaC (fun J μ J' w'=>∃ (Jo:Env) (i:Nat) (j:Nat) (d1:Array Int),J'=upd (upd (mix ([6,7]++sq 11 21) Jo J) 6 (I6 (i:Int))) 7 (I6 (j:Int))/\(lo<=i)/\(j<hi)/\(d1.size=N)/\(Sort.reverseLoop i j d1=Sort.reverseRange d lo hi)/\μ=j-i/\Own w S w' [row (.slice a N c) (d1.toList.map (ic .u16)) 32 1]) ?_ ?_)))))))))))))))))
 ·exact ⟨_,_,lo,hi-1,d,Qak (Qak (Qao (ds:=([6,7]++sq 11 21)) (Agr.refl _ _)) rfl) rfl,(Nat.le_refl _),(by omega),hsz,rfl,rfl,hs⟩
 rintro μ J' w1 ⟨Jo,i,j,d1,rfl,hi0,hj,hz1,hev,rfl,hs⟩
 refine Qag (Qag (Qab (Qaa (Qac (V:=I6 (i:Int)) rfl (Qaa (Qac (V:=I6 (j:Int)) rfl (Qaa (Qa2 rfl rfl (Qae (Qam (t:=decide ((i:Int)<(j:Int))) rfl (fun c2=>?_) (fun c2=>?_)))))))))))
 ·
  replace c2:=QQ1 c2
  refine Qap (Qan (Qag (QaH HM [some 14,some 15,some 16,some 17,some 18,some 19,some 20,some 21,some 22,some 23,some 24,some 25,some 26,none,some 27,none] [] [0,0,0,0,0,0,48,112,0,0,768,1792,4083,8179,16383,32767] [pv (.slice a N c),pv (I6 (i:Int)),pv (.slice a N c),pv (I6 (j:Int)),pv (.slice a N c),pv (I6 (j:Int)),pv (.pointer (some ⟨bkS (.slice a N c),ofS (.slice a N c)+(j:Int).toNat*1,none⟩)),pv (I7 (d1[j]!)),pv (.slice a N c),pv (I6 (i:Int)),pv (.pointer (some ⟨bkS (.slice a N c),ofS (.slice a N c)+(i:Int).toNat*1,none⟩)),pv (I7 (d1[i]!)),pv (.pointer (some ⟨bkS (.slice a N c),ofS (.slice a N c)+(i:Int).toNat*1,none⟩)),pn,pv (.pointer (some ⟨bkS (.slice a N c),ofS (.slice a N c)+(j:Int).toNat*1,none⟩)),pn] (fun D J=>[cond (D 15) (row (.slice a N c) ((((d1.setIfInBounds i (d1[j]!)).setIfInBounds j (d1[i]!)).toList).map (ic .u16)) 32 1) (cond (D 13) (row (.slice a N c) (((d1.setIfInBounds i (d1[j]!)).toList).map (ic .u16)) 32 1) (row (.slice a N c) (d1.toList.map (ic .u16)) 32 1))]) [] (by kernel_rfl) hs ⟨?_,?_,?_,?_,?_,?_,?_,?_,?_,?_,?_,?_,?_,?_,?_,?_,trivial⟩ ?_)))
  ·exact oa [] fun D J w hs=>Qac (V:=.slice a N c) rfl (Zz hs)
  ·exact oa [] fun D J w hs=>Qac (V:=.int .i64 (i:Int)) rfl (Zz hs)
  ·exact oa [] fun D J w hs=>Qac (V:=.slice a N c) rfl (Zz hs)
  ·exact oa [] fun D J w hs=>Qac (V:=.int .i64 (j:Int)) rfl (Zz hs)
  ·exact oa [] fun D J w hs=>Qac (V:=.slice a N c) rfl (Zz hs)
  ·exact oa [] fun D J w hs=>Qac (V:=.int .i64 (j:Int)) rfl (Zz hs)
  ·exact ob [4,5] [13,15] rfl rfl fun D J w hs=>Qaw QaK Qar.1 (hs.rd 0 rfl) rfl rfl (by omega) (by simp only [QQ6,QQ9,QQ5,Go.Sort.size_swp];omega) (Zz hs)
  ·exact ob [6] [13,15] rfl rfl fun D J w hs=>QaU (j:=0) (V:=I7 (d1[j]!)) j Qar (hs.rd 0 rfl) (Qbk (by omega)) rfl rfl (by omega) (Zz hs)
  ·exact oa [] fun D J w hs=>Qac (V:=.slice a N c) rfl (Zz hs)
  ·exact oa [] fun D J w hs=>Qac (V:=.int .i64 (i:Int)) rfl (Zz hs)
  ·exact ob [8,9] [13,15] rfl rfl fun D J w hs=>Qaw QaK Qar.1 (hs.rd 0 rfl) rfl rfl (by omega) (by simp only [QQ6,QQ9,QQ5,Go.Sort.size_swp];omega) (Zz hs)
  ·exact ob [10] [13,15] rfl rfl fun D J w hs=>QaU (j:=0) (V:=I7 (d1[i]!)) i Qar (hs.rd 0 rfl) (Qbk (by omega)) rfl rfl (by omega) (Zz hs)
  ·exact ob [0,1] [13,15] rfl rfl fun D J w hs=>Qaw QaK Qar.1 (hs.rd 0 rfl) rfl rfl (by omega) (by simp only [QQ6,QQ9,QQ5,Go.Sort.size_swp];omega) (Zz hs)
  ·exact ob [7,12] [15] rfl rfl fun D J w hs=>Qcj (z:=d1[j]!) i Qar hs 0 rfl rfl (by omega) (by first|omega|(simp only [QQ5,Go.Sort.size_swp];omega)) rfl rfl rfl fun _ hs=>⟨trivial,hs⟩
  ·exact ob [2,3,13] [15] rfl rfl fun D J w hs=>Qaw QaK Qar.1 (hs.rd 0 rfl) rfl rfl (by omega) (by simp only [QQ6,QQ9,QQ5,Go.Sort.size_swp];omega) (Zz hs)
  ·exact oa [11,13,14] fun D J w hs=>Qcj (z:=d1[i]!) j Qar hs 0 rfl rfl (by omega) (by first|omega|(simp only [QQ5,Go.Sort.size_swp];omega)) rfl rfl rfl fun _ hs=>⟨trivial,hs⟩
  rintro J1 w5 J2 hJ hs
  replace hJ:J2=mix (sq 14 14) J1 _:=hJ
  replace hs:Own w S w5 [row (.slice a N c) ((((d1.setIfInBounds i (d1[j]!)).setIfInBounds j (d1[i]!)).toList).map (ic .u16)) 32 1]:=hs
  subst hJ
  refine Qag (Qab (Qaa (Qac (V:=I6 (i:Int)) rfl (Qaa (QaD (a:=(i:Int)) (b:=1) (c:=((i+1:Nat):Int)) rfl rfl (Qaj (by omega) (by omega)) (Qaa (Qad (V:=I6 ((i+1:Nat):Int)) rfl (Qae (Qab (Qaa (Qac (V:=I6 (j:Int)) rfl (Qaa (Qa3 (a:=(j:Int)) (b:=1) (c:=((j-1:Nat):Int)) rfl rfl (Qaj (by omega) (by omega)) (Qaa (Qad (V:=I6 ((j-1:Nat):Int)) rfl (Qae ?_))))))))))))))))
  refine ⟨_,?_,_,i+1,j-1,((d1.setIfInBounds i (d1[j]!)).setIfInBounds j (d1[i]!)),Qak (Qak (Qao (ds:=([6,7]++sq 11 21)) (by repeat (first|exact Agr.refl _ _|refine Agr.upd ?_ rfl|refine Agr.mix ?_ rfl))) rfl) rfl,(by omega),(by omega),(by simp only [QQ5];exact hz1),(by rw [← hev,Qq0 (d:=d1) c2];rfl),rfl,hs.take 1⟩
  omega
 replace c2:=QQ2 c2
 refine QaJ ?_
 refine ⟨_,Qbd Tryz.results176,?_⟩
 have hX:d1=Sort.reverseRange d lo hi:=by rw [← hev,QsV c2]
 exact ⟨(),rfl,hX ▸ hs.take 1,hX ▸ (by first|assumption|(simp only [QQ5,Go.Sort.size_swp];omega))⟩
end Tt
end Go.Proofs
namespace Go.Proofs
open Go Go.Vx Go.RowKit
open Go.Sort (ltInt medianAdjacent order2 partition)
namespace Tt
theorem QrQ {n first k:Nat} {d:Array Int} (h:1<=k):Sort.heapBuild ltInt n first k d=Sort.heapBuild ltInt n first (k-1) (Sort.siftDown ltInt n first (k-1) d):=by
 obtain ⟨i,rfl⟩:∃ i,k=i+1:=⟨k-1,by omega⟩
 rfl
theorem QqI {first k:Nat} {d:Array Int} (h:1<=k):Sort.heapPop ltInt first k d=Sort.heapPop ltInt first (k-1) (Sort.siftDown ltInt (k-1) first 0 (Sort.swp d first (first+(k-1)))):=by
 obtain ⟨i,rfl⟩:∃ i,k=i+1:=⟨k-1,by omega⟩
 rfl
theorem QnF {n:Nat}:((n:Int)-1).tdiv 2=(((n-1)/2:Nat):Int):=by
 cases n with
 | zero=>rfl
 | succ m=>rw [show (((m+1:Nat):Int)-1)=(m:Int) by omega];rfl
theorem Qqe (w:World) (S:Nat->Prop) (a:Option Addr) (N c:Nat) (d:Array Int) (hsz:d.size=N) (hN:N<=2305843009213693951) (lo hi:Nat) (h1:lo<=hi) (h2:hi<=N) (hR:(row (.slice a N c) (d.toList.map (ic .u16)) 32 1).holds w S) (hlt:∀ x,S x->x<w.heap.size):Calls Tryz.prog 173 #[.slice a N c,.int .i64 (lo:Int),.int .i64 (hi:Int)] w (fun e w'=>∃ x:Unit,e = .returned (.tuple #[])/\Own w S w' [row (.slice a N c) ((Sort.heapSort ltInt d lo hi).toList.map (ic .u16)) 32 1]/\(Sort.heapSort ltInt d lo hi).size=N):=by
 refine Qai (n:=56) Tryz.func173 rfl Tryz.ntmps173 rfl ?_
 have hs:=Own.lent hR hlt
 refine Qag (Qab (Qaa (Qac (V:=I6 (lo:Int)) rfl (Qaa (Qad (V:=I6 (lo:Int)) rfl (Qae (Qag (Qab (Qaa (Qad (V:=I6 0) rfl (Qae (Qag (Qab (Qaa (Qac (V:=I6 (hi:Int)) rfl (Qaa (Qac (V:=I6 (lo:Int)) rfl (Qaa (Qa3 (a:=(hi:Int)) (b:=(lo:Int)) (c:=((hi-lo:Nat):Int)) rfl rfl (Qaj (by omega) (by omega)) (Qaa (Qad (V:=I6 ((hi-lo:Nat):Int)) rfl (Qae (Qag (Qag (Qab (Qaa (Qac (V:=I6 ((hi-lo:Nat):Int)) rfl (Qaa (Qa3 (a:=((hi-lo:Nat):Int)) (b:=1) (c:=((hi-lo:Nat):Int)-1) rfl rfl (QbE (by omega) (by omega)) (Qaa (QaX (V:=I6 (IntKind.i64.wrap ((((hi-lo:Nat):Int)-1).tdiv 2))) (V':=I6 ((((hi-lo)-1)/2:Nat):Int)) (QiK rfl rfl (by omega) rfl ⟨rfl,rfl⟩) (congrArg (Value.int .i64) (by rw [QnF];exact Qaj rfl (by omega))) (Qaa (Qad (V:=I6 ((((hi-lo)-1)/2:Nat):Int)) rfl (Qae (Qan (QaC (fun J μ J' w'=>∃ (Jo:Env) (k:Nat) (d1:Array Int),J'=upd (mix ([9]++sq 18 9) Jo J) 9 (I6 ((k:Int)-1))/\(k<=N+1)/\(d1.size=N)/\(Sort.heapPop ltInt lo (hi-lo) (Sort.heapBuild ltInt (hi-lo) lo k d1)=Sort.heapSort ltInt d lo hi)/\μ=2*k/\Own w S w' [row (.slice a N c) (d1.toList.map (ic .u16)) 32 1]) ?_ ?_))))))))))))))))))))))))))))))))))))
 ·exact ⟨_,_,((hi-lo)-1)/2+1,d,Qak (Qao (ds:=([9]++sq 18 9)) (Agr.refl _ _)) (congrArg (Value.int .i64) (by omega)),(by omega),hsz,rfl,rfl,hs⟩
 rintro μ J' w1 ⟨Jo,k,d1,rfl,hk,hz1,hev,rfl,hs⟩
 refine Qag (Qag (Qab (Qaa (Qac (V:=I6 ((k:Int)-1)) rfl (Qaa (QcR rfl rfl (Qae (Qam (t:=decide (0<=(k:Int)-1)) rfl (fun c2=>?_) (fun c2=>?_)))))))))
 ·
  replace c2:=QQ1 c2
  refine Qap (Qag (Qan (Qab (Qaa (Qac (V:=.slice a N c) rfl (Qaa (QaX (V:=I6 ((k:Int)-1)) (V':=I6 ((k-1:Nat):Int)) (Qac (V:=I6 ((k:Int)-1)) rfl ⟨rfl,rfl⟩) (congrArg (Value.int .i64) (by omega)) (Qaa (Qac (V:=I6 ((hi-lo:Nat):Int)) rfl (Qaa (Qac (V:=I6 (lo:Int)) rfl (Qaa (Qbs (vs:=[.slice a N c,I6 ((k-1:Nat):Int),I6 ((hi-lo:Nat):Int),I6 (lo:Int)]) (V:=fun _:Unit=>.tuple #[]) (R:=row (.slice a N c) (d1.toList.map (ic .u16)) 32 1) (R':=fun _=>row (.slice a N c) ((Sort.siftDown ltInt (hi-lo) lo (k-1) d1).toList.map (ic .u16)) 32 1) (Lo:=fun _=>[]) (F:=fun _ _=>(Sort.siftDown ltInt (hi-lo) lo (k-1) d1).size=N) QpG rfl rfl hs 0 rfl (fun S hS hlt=>Qmu _ S a N c d1 (by first|assumption|(simp only [QQ5,Go.Sort.size_swp];omega)) hN (k-1) (hi-lo) lo (by omega) (by omega) hS hlt) fun _ w3 hs hz4=>(Qae (Qab (Qaa (Qac (V:=I6 ((k:Int)-1)) rfl (Qaa (Qa3 (a:=(k:Int)-1) (b:=1) (c:=((k:Int)-1)-1) rfl rfl (QbE (by omega) (by omega)) (Qaa (Qad (V:=I6 (((k:Int)-1)-1)) rfl (Qae ?_))))))))))))))))))))))
  refine ⟨_,?_,_,k-1,Sort.siftDown ltInt (hi-lo) lo (k-1) d1,Qak (Qao (ds:=([9]++sq 18 9)) (by repeat (first|exact Agr.refl _ _|refine Agr.upd ?_ rfl|refine Agr.mix ?_ rfl))) (congrArg (Value.int .i64) (by omega)),(by omega),(by assumption),(by rw [← hev,QrQ (k:=k) (by omega)]),rfl,hs.take 1⟩
  omega
 replace c2:=QQ2 c2
 refine QaJ (Qag (Qab (Qaa (Qac (V:=I6 ((hi-lo:Nat):Int)) rfl (Qaa (Qa3 (a:=((hi-lo:Nat):Int)) (b:=1) (c:=((hi-lo:Nat):Int)-1) rfl rfl (QbE (by omega) (by omega)) (Qaa (Qad (V:=I6 (((hi-lo:Nat):Int)-1)) rfl (Qae (Qan ?_))))))))))
 have hk0:k=0:=by omega
 subst hk0
 have hev1:Sort.heapPop ltInt lo (hi-lo) d1=Sort.heapSort ltInt d lo hi:=hev
 refine QaC (fun J μ J' w'=>∃ (Jo:Env) (q:Nat) (d2:Array Int),J'=upd (mix ([10]++sq 29 27) Jo J) 10 (I6 ((q:Int)-1))/\(q<=hi-lo)/\(d2.size=N)/\(Sort.heapPop ltInt lo q d2=Sort.heapSort ltInt d lo hi)/\μ=2*q/\Own w S w' [row (.slice a N c) (d2.toList.map (ic .u16)) 32 1]) ?_ ?_
 ·exact ⟨_,_,hi-lo,d1,Qak (Qao (ds:=([10]++sq 29 27)) (Agr.refl _ _)) rfl,(Nat.le_refl _),hz1,hev1,rfl,hs⟩
 rintro μ J' w6 ⟨Jo,q,d2,rfl,hk2,hz2,hev2,rfl,hs⟩
 refine Qag (Qag (Qab (Qaa (Qac (V:=I6 ((q:Int)-1)) rfl (Qaa (QcR rfl rfl (Qae (Qam (t:=decide (0<=(q:Int)-1)) rfl (fun c7=>?_) (fun c7=>?_)))))))))
 ·
  replace c7:=QQ1 c7
  refine Qap (Qag (Qan (Qag (QaH HM [some 33,some 34,some 35,some 36,some 37,some 38,some 39,some 40,some 41,some 42,some 43,some 44,some 45,some 46,some 47,some 48,some 49,none,some 50,none] [] [0,0,0,0,0,24,0,0,0,384,960,1984,0,0,12288,28672,65475,131011,262143,524287] [pv (.slice a N c),pv (I6 (lo:Int)),pv (.slice a N c),pv (I6 (lo:Int)),pv (I6 ((q-1:Nat):Int)),pv (I6 ((lo+(q-1):Nat):Int)),pv (.slice a N c),pv (I6 (lo:Int)),pv (I6 ((q-1:Nat):Int)),pv (I6 ((lo+(q-1):Nat):Int)),pv (.pointer (some ⟨bkS (.slice a N c),ofS (.slice a N c)+((lo+(q-1):Nat):Int).toNat*1,none⟩)),pv (I7 (d2[lo+(q-1)]!)),pv (.slice a N c),pv (I6 (lo:Int)),pv (.pointer (some ⟨bkS (.slice a N c),ofS (.slice a N c)+(lo:Int).toNat*1,none⟩)),pv (I7 (d2[lo]!)),pv (.pointer (some ⟨bkS (.slice a N c),ofS (.slice a N c)+(lo:Int).toNat*1,none⟩)),pn,pv (.pointer (some ⟨bkS (.slice a N c),ofS (.slice a N c)+((lo+(q-1):Nat):Int).toNat*1,none⟩)),pn] (fun D J=>[cond (D 19) (row (.slice a N c) ((((d2.setIfInBounds lo (d2[lo+(q-1)]!)).setIfInBounds (lo+(q-1)) (d2[lo]!)).toList).map (ic .u16)) 32 1) (cond (D 17) (row (.slice a N c) (((d2.setIfInBounds lo (d2[lo+(q-1)]!)).toList).map (ic .u16)) 32 1) (row (.slice a N c) (d2.toList.map (ic .u16)) 32 1))]) [] (by kernel_rfl) hs ⟨?_,?_,?_,?_,?_,?_,?_,?_,?_,?_,?_,?_,?_,?_,?_,?_,?_,?_,?_,?_,trivial⟩ ?_))))
  ·exact oa [] fun D J w hs=>Qac (V:=.slice a N c) rfl (Zz hs)
  ·exact oa [] fun D J w hs=>Qac (V:=.int .i64 (lo:Int)) rfl (Zz hs)
  ·exact oa [] fun D J w hs=>Qac (V:=.slice a N c) rfl (Zz hs)
  ·exact oa [] fun D J w hs=>Qac (V:=.int .i64 (lo:Int)) rfl (Zz hs)
  ·exact oa [] fun D J w hs=>QaX (V:=.int .i64 ((q:Int)-1)) (V':=.int .i64 ((q-1:Nat):Int)) (Qac (V:=.int .i64 ((q:Int)-1)) rfl ⟨rfl,rfl⟩) (congrArg (Value.int .i64) (by omega)) (Zz hs)
  ·exact oa [3,4] fun D J w hs=>QaD (a:=(lo:Int)) (b:=((q-1:Nat):Int)) (c:=((lo+(q-1):Nat):Int)) rfl rfl (Qaj (by omega) (by omega)) (Zz hs)
  ·exact oa [] fun D J w hs=>Qac (V:=.slice a N c) rfl (Zz hs)
  ·exact oa [] fun D J w hs=>Qac (V:=.int .i64 (lo:Int)) rfl (Zz hs)
  ·exact oa [] fun D J w hs=>QaX (V:=.int .i64 ((q:Int)-1)) (V':=.int .i64 ((q-1:Nat):Int)) (Qac (V:=.int .i64 ((q:Int)-1)) rfl ⟨rfl,rfl⟩) (congrArg (Value.int .i64) (by omega)) (Zz hs)
  ·exact oa [7,8] fun D J w hs=>QaD (a:=(lo:Int)) (b:=((q-1:Nat):Int)) (c:=((lo+(q-1):Nat):Int)) rfl rfl (Qaj (by omega) (by omega)) (Zz hs)
  ·exact ob [6,9] [17,19] rfl rfl fun D J w hs=>Qaw QaK Qar.1 (hs.rd 0 rfl) rfl rfl (by omega) (by simp only [QQ6,QQ9,QQ5,Go.Sort.size_swp];omega) (Zz hs)
  ·exact ob [10] [17,19] rfl rfl fun D J w hs=>QaU (j:=0) (V:=I7 (d2[lo+(q-1)]!)) (lo+(q-1)) Qar (hs.rd 0 rfl) (Qbk (by omega)) rfl rfl (by omega) (Zz hs)
  ·exact oa [] fun D J w hs=>Qac (V:=.slice a N c) rfl (Zz hs)
  ·exact oa [] fun D J w hs=>Qac (V:=.int .i64 (lo:Int)) rfl (Zz hs)
  ·exact ob [12,13] [17,19] rfl rfl fun D J w hs=>Qaw QaK Qar.1 (hs.rd 0 rfl) rfl rfl (by omega) (by simp only [QQ6,QQ9,QQ5,Go.Sort.size_swp];omega) (Zz hs)
  ·exact ob [14] [17,19] rfl rfl fun D J w hs=>QaU (j:=0) (V:=I7 (d2[lo]!)) lo Qar (hs.rd 0 rfl) (Qbk (by omega)) rfl rfl (by omega) (Zz hs)
  ·exact ob [0,1] [17,19] rfl rfl fun D J w hs=>Qaw QaK Qar.1 (hs.rd 0 rfl) rfl rfl (by omega) (by simp only [QQ6,QQ9,QQ5,Go.Sort.size_swp];omega) (Zz hs)
  ·exact ob [11,16] [19] rfl rfl fun D J w hs=>Qcj (z:=d2[lo+(q-1)]!) lo Qar hs 0 rfl rfl (by omega) (by first|omega|(simp only [QQ5,Go.Sort.size_swp];omega)) rfl rfl rfl fun _ hs=>⟨trivial,hs⟩
  ·exact ob [2,5,17] [19] rfl rfl fun D J w hs=>Qaw QaK Qar.1 (hs.rd 0 rfl) rfl rfl (by omega) (by simp only [QQ6,QQ9,QQ5,Go.Sort.size_swp];omega) (Zz hs)
  ·exact oa [15,17,18] fun D J w hs=>Qcj (z:=d2[lo]!) (lo+(q-1)) Qar hs 0 rfl rfl (by omega) (by first|omega|(simp only [QQ5,Go.Sort.size_swp];omega)) rfl rfl rfl fun _ hs=>⟨trivial,hs⟩
  rintro J1 w10 J2 hJ hs
  replace hJ:J2=mix (sq 33 18) J1 _:=hJ
  replace hs:Own w S w10 [row (.slice a N c) ((((d2.setIfInBounds lo (d2[lo+(q-1)]!)).setIfInBounds (lo+(q-1)) (d2[lo]!)).toList).map (ic .u16)) 32 1]:=hs
  subst hJ
  refine Qab (Qaa (Qac (V:=.slice a N c) rfl (Qaa (Qac (V:=I6 0) rfl (Qaa (QaX (V:=I6 ((q:Int)-1)) (V':=I6 ((q-1:Nat):Int)) (Qac (V:=I6 ((q:Int)-1)) rfl ⟨rfl,rfl⟩) (congrArg (Value.int .i64) (by omega)) (Qaa (Qac (V:=I6 (lo:Int)) rfl (Qaa (Qbs (vs:=[.slice a N c,I6 0,I6 ((q-1:Nat):Int),I6 (lo:Int)]) (V:=fun _:Unit=>.tuple #[]) (R:=row (.slice a N c) (((d2.setIfInBounds lo (d2[lo+(q-1)]!)).setIfInBounds (lo+(q-1)) (d2[lo]!)).toList.map (ic .u16)) 32 1) (R':=fun _=>row (.slice a N c) ((Sort.siftDown ltInt (q-1) lo 0 ((d2.setIfInBounds lo (d2[lo+(q-1)]!)).setIfInBounds (lo+(q-1)) (d2[lo]!))).toList.map (ic .u16)) 32 1) (Lo:=fun _=>[]) (F:=fun _ _=>(Sort.siftDown ltInt (q-1) lo 0 ((d2.setIfInBounds lo (d2[lo+(q-1)]!)).setIfInBounds (lo+(q-1)) (d2[lo]!))).size=N) QpG rfl rfl hs 0 rfl (fun S hS hlt=>Qmu _ S a N c ((d2.setIfInBounds lo (d2[lo+(q-1)]!)).setIfInBounds (lo+(q-1)) (d2[lo]!)) (by first|assumption|(simp only [QQ5,Go.Sort.size_swp];omega)) hN 0 (q-1) lo (by omega) (by omega) hS hlt) fun _ w11 hs hz12=>(Qae (Qab (Qaa (Qac (V:=I6 ((q:Int)-1)) rfl (Qaa (Qa3 (a:=(q:Int)-1) (b:=1) (c:=((q:Int)-1)-1) rfl rfl (QbE (by omega) (by omega)) (Qaa (Qad (V:=I6 (((q:Int)-1)-1)) rfl (Qae ?_)))))))))))))))))))
  refine ⟨_,?_,_,q-1,Sort.siftDown ltInt (q-1) lo 0 ((d2.setIfInBounds lo (d2[lo+(q-1)]!)).setIfInBounds (lo+(q-1)) (d2[lo]!)),Qak (Qao (ds:=([10]++sq 29 27)) (by repeat (first|exact Agr.refl _ _|refine Agr.upd ?_ rfl|refine Agr.mix ?_ rfl))) (congrArg (Value.int .i64) (by omega)),(by omega),(by assumption),(by rw [← hev2,QqI (k:=q) (by omega)];rfl),rfl,hs.take 1⟩
  omega
 replace c7:=QQ2 c7
 refine QaJ ?_
 refine ⟨_,Qbd Tryz.results173,?_⟩
 have hk3:q=0:=by omega
 subst hk3
 have hX:d2=Sort.heapSort ltInt d lo hi:=hev2
 exact ⟨(),rfl,hX ▸ hs.take 1,hX ▸ (by first|assumption|(simp only [QQ5,Go.Sort.size_swp];omega))⟩
end Tt
end Go.Proofs
namespace Go.Proofs
open Go Go.Vx Go.RowKit
open Go.Sort (ltInt medianAdjacent order2 partition)
namespace Tt
section
variable {d:Array Int} {x y sw:Nat}
theorem Qsv (h:d[y]!<d[x]!):order2 ltInt d x y sw=(y,x,sw+1):=by unfold order2;rw [if_pos (by simpa [ltInt] using h)]
theorem Quu (h:¬d[y]!<d[x]!):order2 ltInt d x y sw=(x,y,sw):=by unfold order2;rw [if_neg (by simpa [ltInt] using h)]
theorem QmV {N:Nat} (hx:x<N) (hy:y<N):(order2 ltInt d x y sw).1<N/\(order2 ltInt d x y sw).2.1<N/\(order2 ltInt d x y sw).2.2<=sw+1:=by
 unfold order2;split<;>simp [hx,hy]
end
theorem Qr7 {d:Array Int} {N x y z sw:Nat} (hx:x<N) (hy:y<N) (hz:z<N):(Sort.median ltInt d x y z sw).1<N/\(Sort.median ltInt d x y z sw).2<=sw+3:=by
 unfold Sort.median
 have h1:=QmV (d:=d) (sw:=sw) hx hy
 have h2:=QmV (d:=d) (sw:=(order2 ltInt d x y sw).2.2) h1.2.1 hz
 have h3:=QmV (d:=d) (sw:=(order2 ltInt d (order2 ltInt d x y sw).2.1 z (order2 ltInt d x y sw).2.2).2.2) h1.1 h2.1
 exact ⟨h3.2.1,Nat.le_trans h3.2.2 (Nat.succ_le_succ (Nat.le_trans h2.2.2 (Nat.succ_le_succ h1.2.2)))⟩
theorem QlK {d:Array Int} {N x sw:Nat} (h1:1<=x) (hx:x+1<N):(medianAdjacent ltInt d x sw).1<N/\(medianAdjacent ltInt d x sw).2<=sw+3:=Qr7 (by omega) (by omega) (by omega)
theorem QrE (w:World) (S:Nat->Prop) (a:Option Addr) (N c:Nat) (d:Array Int) (hsz:d.size=N) (hN:N<=2305843009213693951) (sb sw:Nat) (hsw:sw<=1000) (hr:Rd w (.slice a N c) 1 (d.toList.map (ic .u16))) (hb:bkS (.slice a N c)<w.heap.size) (hm:¬S (bkS (.slice a N c))) (hR:(blk sb [.int .i64 (sw:Int)] 3).holds w S) (hlt:∀ x,S x->x<w.heap.size) (x y:Nat) (hx:x<N) (hy:y<N):Calls Tryz.prog 189 #[.slice a N c,.int .i64 (x:Int),.int .i64 (y:Int),.pointer (some ⟨sb,0,none⟩)] w (fun e w'=>∃ _u:Unit,e = .returned (.tuple #[.int .i64 (((order2 ltInt d x y sw).1:Nat):Int),.int .i64 (((order2 ltInt d x y sw).2.1:Nat):Int)])/\Own w S w' [blk sb [.int .i64 (((order2 ltInt d x y sw).2.2:Nat):Int)] 3]/\True):=by
 refine Qai (n:=28) Tryz.func189 rfl Tryz.ntmps189 rfl ?_
 have hs:=Own.lent hR hlt
 refine Qag (Qab (Qaa (Qad (V:=I6 0) rfl (Qaa (Qad (V:=I6 0) rfl (Qae (Qag (Qag (QaH HM [some 10,some 11,some 12,some 13,some 14,some 15,some 16,some 17,some 18] [] [0,0,3,7,0,0,48,112,255] [pv (.slice a N c),pv (I6 (y:Int)),pv (.pointer (some ⟨bkS (.slice a N c),ofS (.slice a N c)+(y:Int).toNat*1,none⟩)),pv (I7 (d[y]!)),pv (.slice a N c),pv (I6 (x:Int)),pv (.pointer (some ⟨bkS (.slice a N c),ofS (.slice a N c)+(x:Int).toNat*1,none⟩)),pv (I7 (d[x]!)),pv (.bool (decide (d[y]!<d[x]!)))] (fun _ _=>_) [8] (by kernel_rfl) hs ⟨?_,?_,?_,?_,?_,?_,?_,?_,?_,trivial⟩ ?_)))))))))
 ·exact oa [] fun D J w hs=>Qac (V:=.slice a N c) rfl (Zz hs)
 ·exact oa [] fun D J w hs=>Qac (V:=.int .i64 (y:Int)) rfl (Zz hs)
 ·exact oa [0,1] fun D J w hs=>Qaw QaK Qar.1 (Rd.ownS hm hr hs) rfl rfl (by omega) (by simp only [QQ6,QQ9,QQ5,Go.Sort.size_swp];omega) (Zz hs)
 ·exact oa [2] fun D J w hs=>QaU (j:=0) (V:=.int .u16 (d[y]!)) y Qar (Rd.ownS hm hr hs) (Qbk (by omega)) rfl rfl (by omega) (Zz hs)
 ·exact oa [] fun D J w hs=>Qac (V:=.slice a N c) rfl (Zz hs)
 ·exact oa [] fun D J w hs=>Qac (V:=.int .i64 (x:Int)) rfl (Zz hs)
 ·exact oa [4,5] fun D J w hs=>Qaw QaK Qar.1 (Rd.ownS hm hr hs) rfl rfl (by omega) (by simp only [QQ6,QQ9,QQ5,Go.Sort.size_swp];omega) (Zz hs)
 ·exact oa [6] fun D J w hs=>QaU (j:=0) (V:=.int .u16 (d[x]!)) x Qar (Rd.ownS hm hr hs) (Qbk (by omega)) rfl rfl (by omega) (Zz hs)
 ·exact oa [3,7] fun D J w hs=>Qas (vs:=[.int .u16 (d[y]!),.int .u16 (d[x]!)]) (V:=.bool (decide (d[y]!<d[x]!))) Qc0 rfl rfl (Qcl _ (d[y]!) (d[x]!)) hs fun _ hs=>Zz hs
 rintro J1 w2 J2 hJ hs
 replace hJ:J2=upd (mix (sq 10 9) J1 _) 18 (.bool (decide (d[y]!<d[x]!))):=hJ
 subst hJ
 refine Qam (t:=decide (d[y]!<d[x]!)) rfl (fun c3=>?_) (fun c3=>?_)
 ·
  replace c3:=QQ1 c3
  refine Qag (Qab (Qaa (Qac (V:=Pq sb 0) rfl (Qaa (Qcz rfl (Qaa (QaP (V:=I6 (sw:Int)) Qqr hs 0 rfl rfl rfl (Qaa (QaD (a:=(sw:Int)) (b:=1) (c:=((sw+1:Nat):Int)) rfl rfl (Qaj (by omega) (by omega)) (Qaa (Qcz rfl (Qaa (QcQ (V:=I6 ((sw+1:Nat):Int)) (cs':=[I6 ((sw+1:Nat):Int)]) Qqr hs 0 rfl rfl rfl rfl (QQ8 rfl) rfl fun w4 hs=>(Qae (Qag (Qab (Qaa (Qac (V:=I6 (y:Int)) rfl (Qaa (Qac (V:=I6 (x:Int)) rfl (Qaa (Qad (V:=I6 (y:Int)) rfl (Qaa (Qad (V:=I6 (x:Int)) rfl (Qae (Qav ?_))))))))))))))))))))))))))
  refine ⟨_,QbF (U:=I6 (y:Int)) (V:=I6 (x:Int)) Tryz.results189 rfl rfl,?_⟩
  rw [Qsv c3]
  exact ⟨(),rfl,hs.take 1,trivial⟩
 replace c3:=QQ2 c3
 refine Qap (Qag (Qab (Qaa (Qac (V:=I6 (x:Int)) rfl (Qaa (Qac (V:=I6 (y:Int)) rfl (Qaa (Qad (V:=I6 (x:Int)) rfl (Qaa (Qad (V:=I6 (y:Int)) rfl (Qae (Qav ?_))))))))))))
 refine ⟨_,QbF (U:=I6 (x:Int)) (V:=I6 (y:Int)) Tryz.results189 rfl rfl,?_⟩
 rw [Quu c3]
 exact ⟨(),rfl,hs.take 1,trivial⟩
theorem Qmo (w:World) (S:Nat->Prop) (a:Option Addr) (N c:Nat) (d:Array Int) (hsz:d.size=N) (hN:N<=2305843009213693951) (sb sw:Nat) (hsw:sw<=900) (hr:Rd w (.slice a N c) 1 (d.toList.map (ic .u16))) (hb:bkS (.slice a N c)<w.heap.size) (hm:¬S (bkS (.slice a N c))) (hR:(blk sb [.int .i64 (sw:Int)] 3).holds w S) (hlt:∀ x,S x->x<w.heap.size) (x y z:Nat) (hx:x<N) (hy:y<N) (hz:z<N):Calls Tryz.prog 187 #[.slice a N c,.int .i64 (x:Int),.int .i64 (y:Int),.int .i64 (z:Int),.pointer (some ⟨sb,0,none⟩)] w (fun e w'=>∃ _u:Unit,e = .returned (.int .i64 (((Sort.median ltInt d x y z sw).1:Nat):Int))/\Own w S w' [blk sb [.int .i64 (((Sort.median ltInt d x y z sw).2:Nat):Int)] 3]/\True):=by
 refine Qai (n:=36) Tryz.func187 rfl Tryz.ntmps187 rfl ?_
 have hs:=Own.lent hR hlt
 refine Qag (Qab (Qaa (Qad (V:=I6 0) rfl (Qae (Qag (Qab (Qaa (Qac (V:=.slice a N c) rfl (Qaa (Qac (V:=I6 (x:Int)) rfl (Qaa (Qac (V:=I6 (y:Int)) rfl (Qaa (Qac (V:=Pq sb 0) rfl (Qaa (QcS (vs:=[.slice a N c,I6 (x:Int),I6 (y:Int),Pq sb 0]) (V:=fun _:Unit=>.tuple #[I6 (((order2 ltInt d x y sw).1:Nat):Int),I6 (((order2 ltInt d x y sw).2.1:Nat):Int)]) (R:=blk sb [I6 (sw:Int)] 3) (R':=fun _=>blk sb [I6 (((order2 ltInt d x y sw).2.2:Nat):Int)] 3) (Lo:=fun _=>[]) (F:=fun _ _=>True) QmP rfl rfl hs 0 rfl (fun S hS hlt hSM=>QrE _ S a N c d hsz hN sb sw (by omega) (Rd.ownS hm hr hs) (Nat.lt_of_lt_of_le hb hs.size) (fun h=>hm (hSM _ h hb)) hS hlt x y (by omega) (by omega)) fun _ w1 hs _=>(Qaa (Qac (V:=.tuple #[I6 (((order2 ltInt d x y sw).1:Nat):Int),I6 (((order2 ltInt d x y sw).2.1:Nat):Int)]) rfl (Qaa (Qax (V:=I6 (((order2 ltInt d x y sw).1:Nat):Int)) rfl rfl (Qaa (Qax (V:=I6 (((order2 ltInt d x y sw).2.1:Nat):Int)) rfl rfl (Qaa (Qad (V:=I6 (((order2 ltInt d x y sw).1:Nat):Int)) rfl (Qaa (Qad (V:=I6 (((order2 ltInt d x y sw).2.1:Nat):Int)) rfl (Qae (Qag ?_))))))))))))))))))))))))))))
 have hq1:=QmV (d:=d) (sw:=sw) hx hy
 refine Qab (Qaa (Qac (V:=.slice a N c) rfl (Qaa (Qac (V:=I6 (((order2 ltInt d x y sw).2.1:Nat):Int)) rfl (Qaa (Qac (V:=I6 (z:Int)) rfl (Qaa (Qac (V:=Pq sb 0) rfl (Qaa (QcS (vs:=[.slice a N c,I6 (((order2 ltInt d x y sw).2.1:Nat):Int),I6 (z:Int),Pq sb 0]) (V:=fun _:Unit=>.tuple #[I6 (((order2 ltInt d ((order2 ltInt d x y sw).2.1) z ((order2 ltInt d x y sw).2.2)).1:Nat):Int),I6 (((order2 ltInt d ((order2 ltInt d x y sw).2.1) z ((order2 ltInt d x y sw).2.2)).2.1:Nat):Int)]) (R:=blk sb [I6 (((order2 ltInt d x y sw).2.2:Nat):Int)] 3) (R':=fun _=>blk sb [I6 (((order2 ltInt d ((order2 ltInt d x y sw).2.1) z ((order2 ltInt d x y sw).2.2)).2.2:Nat):Int)] 3) (Lo:=fun _=>[]) (F:=fun _ _=>True) QmP rfl rfl hs 0 rfl (fun S hS hlt hSM=>QrE _ S a N c d hsz hN sb ((order2 ltInt d x y sw).2.2) (by omega) (Rd.ownS hm hr hs) (Nat.lt_of_lt_of_le hb hs.size) (fun h=>hm (hSM _ h hb)) hS hlt ((order2 ltInt d x y sw).2.1) z (by omega) (by omega)) fun _ w2 hs _=>(Qaa (Qac (V:=.tuple #[I6 (((order2 ltInt d ((order2 ltInt d x y sw).2.1) z ((order2 ltInt d x y sw).2.2)).1:Nat):Int),I6 (((order2 ltInt d ((order2 ltInt d x y sw).2.1) z ((order2 ltInt d x y sw).2.2)).2.1:Nat):Int)]) rfl (Qaa (Qax (V:=I6 (((order2 ltInt d ((order2 ltInt d x y sw).2.1) z ((order2 ltInt d x y sw).2.2)).1:Nat):Int)) rfl rfl (Qaa (Qax (V:=I6 (((order2 ltInt d ((order2 ltInt d x y sw).2.1) z ((order2 ltInt d x y sw).2.2)).2.1:Nat):Int)) rfl rfl (Qaa (Qad (V:=I6 (((order2 ltInt d ((order2 ltInt d x y sw).2.1) z ((order2 ltInt d x y sw).2.2)).1:Nat):Int)) rfl (Qaa (Qad (V:=I6 (((order2 ltInt d ((order2 ltInt d x y sw).2.1) z ((order2 ltInt d x y sw).2.2)).2.1:Nat):Int)) rfl (Qae (Qag ?_))))))))))))))))))))))
 have hq2:=QmV (d:=d) (sw:=(order2 ltInt d x y sw).2.2) hq1.2.1 hz
 refine Qab (Qaa (Qac (V:=.slice a N c) rfl (Qaa (Qac (V:=I6 (((order2 ltInt d x y sw).1:Nat):Int)) rfl (Qaa (Qac (V:=I6 (((order2 ltInt d ((order2 ltInt d x y sw).2.1) z ((order2 ltInt d x y sw).2.2)).1:Nat):Int)) rfl (Qaa (Qac (V:=Pq sb 0) rfl (Qaa (QcS (vs:=[.slice a N c,I6 (((order2 ltInt d x y sw).1:Nat):Int),I6 (((order2 ltInt d ((order2 ltInt d x y sw).2.1) z ((order2 ltInt d x y sw).2.2)).1:Nat):Int),Pq sb 0]) (V:=fun _:Unit=>.tuple #[I6 (((order2 ltInt d ((order2 ltInt d x y sw).1) ((order2 ltInt d ((order2 ltInt d x y sw).2.1) z ((order2 ltInt d x y sw).2.2)).1) ((order2 ltInt d ((order2 ltInt d x y sw).2.1) z ((order2 ltInt d x y sw).2.2)).2.2)).1:Nat):Int),I6 (((order2 ltInt d ((order2 ltInt d x y sw).1) ((order2 ltInt d ((order2 ltInt d x y sw).2.1) z ((order2 ltInt d x y sw).2.2)).1) ((order2 ltInt d ((order2 ltInt d x y sw).2.1) z ((order2 ltInt d x y sw).2.2)).2.2)).2.1:Nat):Int)]) (R:=blk sb [I6 (((order2 ltInt d ((order2 ltInt d x y sw).2.1) z ((order2 ltInt d x y sw).2.2)).2.2:Nat):Int)] 3) (R':=fun _=>blk sb [I6 (((order2 ltInt d ((order2 ltInt d x y sw).1) ((order2 ltInt d ((order2 ltInt d x y sw).2.1) z ((order2 ltInt d x y sw).2.2)).1) ((order2 ltInt d ((order2 ltInt d x y sw).2.1) z ((order2 ltInt d x y sw).2.2)).2.2)).2.2:Nat):Int)] 3) (Lo:=fun _=>[]) (F:=fun _ _=>True) QmP rfl rfl hs 0 rfl (fun S hS hlt hSM=>QrE _ S a N c d hsz hN sb ((order2 ltInt d ((order2 ltInt d x y sw).2.1) z ((order2 ltInt d x y sw).2.2)).2.2) (by omega) (Rd.ownS hm hr hs) (Nat.lt_of_lt_of_le hb hs.size) (fun h=>hm (hSM _ h hb)) hS hlt ((order2 ltInt d x y sw).1) ((order2 ltInt d ((order2 ltInt d x y sw).2.1) z ((order2 ltInt d x y sw).2.2)).1) (by omega) (by omega)) fun _ w3 hs _=>(Qaa (Qac (V:=.tuple #[I6 (((order2 ltInt d ((order2 ltInt d x y sw).1) ((order2 ltInt d ((order2 ltInt d x y sw).2.1) z ((order2 ltInt d x y sw).2.2)).1) ((order2 ltInt d ((order2 ltInt d x y sw).2.1) z ((order2 ltInt d x y sw).2.2)).2.2)).1:Nat):Int),I6 (((order2 ltInt d ((order2 ltInt d x y sw).1) ((order2 ltInt d ((order2 ltInt d x y sw).2.1) z ((order2 ltInt d x y sw).2.2)).1) ((order2 ltInt d ((order2 ltInt d x y sw).2.1) z ((order2 ltInt d x y sw).2.2)).2.2)).2.1:Nat):Int)]) rfl (Qaa (Qax (V:=I6 (((order2 ltInt d ((order2 ltInt d x y sw).1) ((order2 ltInt d ((order2 ltInt d x y sw).2.1) z ((order2 ltInt d x y sw).2.2)).1) ((order2 ltInt d ((order2 ltInt d x y sw).2.1) z ((order2 ltInt d x y sw).2.2)).2.2)).1:Nat):Int)) rfl rfl (Qaa (Qax (V:=I6 (((order2 ltInt d ((order2 ltInt d x y sw).1) ((order2 ltInt d ((order2 ltInt d x y sw).2.1) z ((order2 ltInt d x y sw).2.2)).1) ((order2 ltInt d ((order2 ltInt d x y sw).2.1) z ((order2 ltInt d x y sw).2.2)).2.2)).2.1:Nat):Int)) rfl rfl (Qaa (Qad (V:=I6 (((order2 ltInt d ((order2 ltInt d x y sw).1) ((order2 ltInt d ((order2 ltInt d x y sw).2.1) z ((order2 ltInt d x y sw).2.2)).1) ((order2 ltInt d ((order2 ltInt d x y sw).2.1) z ((order2 ltInt d x y sw).2.2)).2.2)).1:Nat):Int)) rfl (Qaa (Qad (V:=I6 (((order2 ltInt d ((order2 ltInt d x y sw).1) ((order2 ltInt d ((order2 ltInt d x y sw).2.1) z ((order2 ltInt d x y sw).2.2)).1) ((order2 ltInt d ((order2 ltInt d x y sw).2.1) z ((order2 ltInt d x y sw).2.2)).2.2)).2.1:Nat):Int)) rfl (Qae (Qag (Qab (Qaa (Qac (V:=I6 (((order2 ltInt d ((order2 ltInt d x y sw).1) ((order2 ltInt d ((order2 ltInt d x y sw).2.1) z ((order2 ltInt d x y sw).2.2)).1) ((order2 ltInt d ((order2 ltInt d x y sw).2.1) z ((order2 ltInt d x y sw).2.2)).2.2)).2.1:Nat):Int)) rfl (Qaa (Qad (V:=I6 (((order2 ltInt d ((order2 ltInt d x y sw).1) ((order2 ltInt d ((order2 ltInt d x y sw).2.1) z ((order2 ltInt d x y sw).2.2)).1) ((order2 ltInt d ((order2 ltInt d x y sw).2.1) z ((order2 ltInt d x y sw).2.2)).2.2)).2.1:Nat):Int)) rfl (Qae (Qav ?_)))))))))))))))))))))))))))))
 refine ⟨_,Qaq (V:=I6 (((order2 ltInt d ((order2 ltInt d x y sw).1) ((order2 ltInt d ((order2 ltInt d x y sw).2.1) z ((order2 ltInt d x y sw).2.2)).1) ((order2 ltInt d ((order2 ltInt d x y sw).2.1) z ((order2 ltInt d x y sw).2.2)).2.2)).2.1:Nat):Int)) Tryz.results187 rfl,?_⟩
 exact ⟨(),rfl,hs.take 1,trivial⟩
theorem Qlu (w:World) (S:Nat->Prop) (a:Option Addr) (N c:Nat) (d:Array Int) (hsz:d.size=N) (hN:N<=2305843009213693951) (sb sw:Nat) (hsw:sw<=900) (hr:Rd w (.slice a N c) 1 (d.toList.map (ic .u16))) (hb:bkS (.slice a N c)<w.heap.size) (hm:¬S (bkS (.slice a N c))) (hR:(blk sb [.int .i64 (sw:Int)] 3).holds w S) (hlt:∀ x,S x->x<w.heap.size) (x:Nat) (hx:1<=x) (hy:x+1<N):Calls Tryz.prog 186 #[.slice a N c,.int .i64 (x:Int),.pointer (some ⟨sb,0,none⟩)] w (fun e w'=>∃ _u:Unit,e = .returned (.int .i64 (((medianAdjacent ltInt d x sw).1:Nat):Int))/\Own w S w' [blk sb [.int .i64 (((medianAdjacent ltInt d x sw).2:Nat):Int)] 3]/\True):=by
 refine Qai (n:=15) Tryz.func186 rfl Tryz.ntmps186 rfl ?_
 have hs:=Own.lent hR hlt
 refine Qag (Qab (Qaa (Qad (V:=I6 0) rfl (Qae (Qag (Qab (Qaa (Qac (V:=.slice a N c) rfl (Qaa (Qac (V:=I6 (x:Int)) rfl (Qaa (Qa3 (a:=(x:Int)) (b:=1) (c:=((x-1:Nat):Int)) rfl rfl (Qaj (by omega) (by omega)) (Qaa (Qac (V:=I6 (x:Int)) rfl (Qaa (Qac (V:=I6 (x:Int)) rfl (Qaa (QaD (a:=(x:Int)) (b:=1) (c:=((x+1:Nat):Int)) rfl rfl (Qaj (by omega) (by omega)) (Qaa (Qac (V:=Pq sb 0) rfl (Qaa (QcS (vs:=[.slice a N c,I6 ((x-1:Nat):Int),I6 (x:Int),I6 ((x+1:Nat):Int),Pq sb 0]) (V:=fun _:Unit=>I6 (((Sort.median ltInt d (x-1) x (x+1) sw).1:Nat):Int)) (R:=blk sb [I6 (sw:Int)] 3) (R':=fun _=>blk sb [I6 (((Sort.median ltInt d (x-1) x (x+1) sw).2:Nat):Int)] 3) (Lo:=fun _=>[]) (F:=fun _ _=>True) Qle rfl rfl hs 0 rfl (fun S hS hlt hSM=>Qmo _ S a N c d hsz hN sb sw (by omega) (Rd.ownS hm hr hs) (Nat.lt_of_lt_of_le hb hs.size) (fun h=>hm (hSM _ h hb)) hS hlt (x-1) x (x+1) (by omega) (by omega) (by omega)) fun _ w1 hs _=>(Qaa (Qad (V:=I6 (((Sort.median ltInt d (x-1) x (x+1) sw).1:Nat):Int)) rfl (Qae (Qav ?_))))))))))))))))))))))))))
 refine ⟨_,Qaq (V:=I6 (((Sort.median ltInt d (x-1) x (x+1) sw).1:Nat):Int)) Tryz.results186 rfl,?_⟩
 exact ⟨(),rfl,hs.take 1,trivial⟩
end Tt
end Go.Proofs
namespace Go.Proofs
open Go Go.Vx Go.RowKit
open Go.Sort (ltInt medianAdjacent order2 partition)
namespace Tt
def Qcy:Sort.Hint->Int
 | .unknown=>0
 | .increasing=>1
 | .decreasing=>2
def cpR (d:Array Int) (lo hi:Nat):Nat × Nat:=if hi-lo ≥ 8 then (if hi-lo ≥ 50 then Sort.median ltInt d (medianAdjacent ltInt d (lo+((hi-lo)/4)*1) (0)).1 (medianAdjacent ltInt d (lo+((hi-lo)/4)*2) ((medianAdjacent ltInt d (lo+((hi-lo)/4)*1) (0)).2)).1 (medianAdjacent ltInt d (lo+((hi-lo)/4)*3) ((medianAdjacent ltInt d (lo+((hi-lo)/4)*2) ((medianAdjacent ltInt d (lo+((hi-lo)/4)*1) (0)).2)).2)).1 (medianAdjacent ltInt d (lo+((hi-lo)/4)*3) ((medianAdjacent ltInt d (lo+((hi-lo)/4)*2) ((medianAdjacent ltInt d (lo+((hi-lo)/4)*1) (0)).2)).2)).2 else Sort.median ltInt d (lo+((hi-lo)/4)*1) (lo+((hi-lo)/4)*2) (lo+((hi-lo)/4)*3) 0) else (lo+((hi-lo)/4)*2,0)
theorem Qun (d:Array Int) (lo hi:Nat):Sort.choosePivot ltInt d lo hi=((cpR d lo hi).1,if (cpR d lo hi).2=0 then .increasing else if (cpR d lo hi).2=12 then .decreasing else .unknown):=rfl
theorem QiZ {d:Array Int} {lo hi:Nat} {X:Nat × Nat} {h:Sort.Hint} (hR:cpR d lo hi=X) (hh:(if X.2=0 then Sort.Hint.increasing else if X.2=12 then .decreasing else .unknown)=h):Sort.choosePivot ltInt d lo hi=(X.1,h):=by
 rw [Qun,hR,hh]
theorem Qso (w:World) (a:Option Addr) (N c:Nat) (d:Array Int) (hsz:d.size=N) (hN:N<=2305843009213693951) (hr:Rd w (.slice a N c) 1 (d.toList.map (ic .u16))) (lo hi:Nat) (h1:lo<hi) (h2:hi<=N):Calls Tryz.prog 175 #[.slice a N c,.int .i64 (lo:Int),.int .i64 (hi:Int)] w (fun e w'=>e = .returned (.tuple #[.int .i64 (((Sort.choosePivot ltInt d lo hi).1:Nat):Int),.int .i64 (Qcy (Sort.choosePivot ltInt d lo hi).2)])/\Own w no w' []):=by
 refine Qai (n:=57) Tryz.func175 rfl Tryz.ntmps175 rfl ?_
 have hs:=Own.start w
 have hb:bkS (.slice a N c)<w.heap.size:=hr.bk_lt (by simp only [QQ6,QQ9];omega)
 refine Qag (Qab (Qaa (Qad (V:=I6 0) rfl (Qaa (Qad (V:=I6 0) rfl (Qae (Qag (Qab (Qaa (Qac (V:=I6 (hi:Int)) rfl (Qaa (Qac (V:=I6 (lo:Int)) rfl (Qaa (Qa3 (a:=(hi:Int)) (b:=(lo:Int)) (c:=((hi-lo:Nat):Int)) rfl rfl (Qaj (by omega) (by omega)) (Qaa (Qad (V:=I6 ((hi-lo:Nat):Int)) rfl (Qae (Qag (Qab (Qaa (QaL (cs:=[I6 0]) QvF rfl hs fun b1 w2 hs=>(Qae (Qag (Qab (Qaa (Qac (V:=I6 (lo:Int)) rfl (Qaa (Qac (V:=I6 ((hi-lo:Nat):Int)) rfl (Qaa (QiK (a:=((hi-lo:Nat):Int)) (b:=4) (c:=(((hi-lo)/4:Nat):Int)) rfl rfl (by decide) (Qaj rfl (by omega)) (Qaa (Qgy (a:=(((hi-lo)/4:Nat):Int)) (b:=1) (c:=((((hi-lo)/4)*1:Nat):Int)) rfl rfl (Qaj (by omega) (by omega)) (Qaa (QaD (a:=(lo:Int)) (b:=((((hi-lo)/4)*1:Nat):Int)) (c:=((lo+(((hi-lo)/4)*1):Nat):Int)) rfl rfl (Qaj (by omega) (by omega)) (Qaa (Qad (V:=I6 ((lo+(((hi-lo)/4)*1):Nat):Int)) rfl (Qae (Qag (Qab (Qaa (Qac (V:=I6 (lo:Int)) rfl (Qaa (Qac (V:=I6 ((hi-lo:Nat):Int)) rfl (Qaa (QiK (a:=((hi-lo:Nat):Int)) (b:=4) (c:=(((hi-lo)/4:Nat):Int)) rfl rfl (by decide) (Qaj rfl (by omega)) (Qaa (Qgy (a:=(((hi-lo)/4:Nat):Int)) (b:=2) (c:=((((hi-lo)/4)*2:Nat):Int)) rfl rfl (Qaj (by omega) (by omega)) (Qaa (QaD (a:=(lo:Int)) (b:=((((hi-lo)/4)*2:Nat):Int)) (c:=((lo+(((hi-lo)/4)*2):Nat):Int)) rfl rfl (Qaj (by omega) (by omega)) (Qaa (Qad (V:=I6 ((lo+(((hi-lo)/4)*2):Nat):Int)) rfl (Qae (Qag (Qab (Qaa (Qac (V:=I6 (lo:Int)) rfl (Qaa (Qac (V:=I6 ((hi-lo:Nat):Int)) rfl (Qaa (QiK (a:=((hi-lo:Nat):Int)) (b:=4) (c:=(((hi-lo)/4:Nat):Int)) rfl rfl (by decide) (Qaj rfl (by omega)) (Qaa (Qgy (a:=(((hi-lo)/4:Nat):Int)) (b:=3) (c:=((((hi-lo)/4)*3:Nat):Int)) rfl rfl (Qaj (by omega) (by omega)) (Qaa (QaD (a:=(lo:Int)) (b:=((((hi-lo)/4)*3:Nat):Int)) (c:=((lo+(((hi-lo)/4)*3):Nat):Int)) rfl rfl (Qaj (by omega) (by omega)) ?_))))))))))))))))))))))))))))))))))))))))))))))))))))))))))))))))
 refine Qaa (Qad (V:=I6 ((lo+(((hi-lo)/4)*3):Nat):Int)) rfl (Qae (Qag (Qag (Qab (Qaa (Qac (V:=I6 ((hi-lo:Nat):Int)) rfl (Qaa (QcR rfl rfl (Qae (Qam (t:=decide (8<=((hi-lo:Nat):Int))) rfl (fun c3=>?_) (fun c3=>?_))))))))))))
 ·
  replace c3:=QQ1 c3
  refine Qag (Qag (Qab (Qaa (Qac (V:=I6 ((hi-lo:Nat):Int)) rfl (Qaa (QcR rfl rfl (Qae (Qam (t:=decide (50<=((hi-lo:Nat):Int))) rfl (fun c4=>?_) (fun c4=>?_)))))))))
  ·
   replace c4:=QQ1 c4
   refine Qag (Qab (Qaa (Qac (V:=.slice a N c) rfl (Qaa (Qac (V:=I6 ((lo+(((hi-lo)/4)*1):Nat):Int)) rfl (Qaa (QcS (vs:=[.slice a N c,I6 ((lo+(((hi-lo)/4)*1):Nat):Int),Pq b1 0]) (V:=fun _:Unit=>I6 (((medianAdjacent ltInt d (lo+(((hi-lo)/4)*1)) 0).1:Nat):Int)) (R:=blk b1 [I6 (0:Int)] 3) (R':=fun _=>blk b1 [I6 (((medianAdjacent ltInt d (lo+(((hi-lo)/4)*1)) 0).2:Nat):Int)] 3) (Lo:=fun _=>[]) (F:=fun _ _=>True) QmR rfl rfl hs 0 rfl (fun S hS hlt hSM=>Qlu _ S a N c d hsz hN b1 0 (by omega) (Rd.own' hr hs) (Nat.lt_of_lt_of_le hb hs.size) (fun h=>hSM _ h hb) hS hlt (lo+(((hi-lo)/4)*1)) (by omega) (by omega)) fun _ w5 hs _=>(Qaa (Qad (V:=I6 (((medianAdjacent ltInt d (lo+(((hi-lo)/4)*1)) 0).1:Nat):Int)) rfl (Qae (Qag ?_)))))))))))
   have hq1:=QlK (d:=d) (sw:=0) (N:=N) (x:=lo+((hi-lo)/4)*1) (by omega) (by omega)
   refine Qab (Qaa (Qac (V:=.slice a N c) rfl (Qaa (Qac (V:=I6 ((lo+(((hi-lo)/4)*2):Nat):Int)) rfl (Qaa (QcS (vs:=[.slice a N c,I6 ((lo+(((hi-lo)/4)*2):Nat):Int),Pq b1 0]) (V:=fun _:Unit=>I6 (((medianAdjacent ltInt d (lo+(((hi-lo)/4)*2)) ((medianAdjacent ltInt d (lo+(((hi-lo)/4)*1)) 0).2)).1:Nat):Int)) (R:=blk b1 [I6 (((medianAdjacent ltInt d (lo+(((hi-lo)/4)*1)) 0).2:Nat):Int)] 3) (R':=fun _=>blk b1 [I6 (((medianAdjacent ltInt d (lo+(((hi-lo)/4)*2)) ((medianAdjacent ltInt d (lo+(((hi-lo)/4)*1)) 0).2)).2:Nat):Int)] 3) (Lo:=fun _=>[]) (F:=fun _ _=>True) QmR rfl rfl hs 0 rfl (fun S hS hlt hSM=>Qlu _ S a N c d hsz hN b1 ((medianAdjacent ltInt d (lo+(((hi-lo)/4)*1)) 0).2) (by omega) (Rd.own' hr hs) (Nat.lt_of_lt_of_le hb hs.size) (fun h=>hSM _ h hb) hS hlt (lo+(((hi-lo)/4)*2)) (by omega) (by omega)) fun _ w6 hs _=>(Qaa (Qad (V:=I6 (((medianAdjacent ltInt d (lo+(((hi-lo)/4)*2)) ((medianAdjacent ltInt d (lo+(((hi-lo)/4)*1)) 0).2)).1:Nat):Int)) rfl (Qae ?_)))))))))
   have hq2:=QlK (d:=d) (sw:=(medianAdjacent ltInt d (lo+((hi-lo)/4)*1) (0)).2) (N:=N) (x:=lo+((hi-lo)/4)*2) (by omega) (by omega)
   refine Qab (Qaa (Qac (V:=.slice a N c) rfl (Qaa (Qac (V:=I6 ((lo+(((hi-lo)/4)*3):Nat):Int)) rfl (Qaa (QcS (vs:=[.slice a N c,I6 ((lo+(((hi-lo)/4)*3):Nat):Int),Pq b1 0]) (V:=fun _:Unit=>I6 (((medianAdjacent ltInt d (lo+(((hi-lo)/4)*3)) ((medianAdjacent ltInt d (lo+(((hi-lo)/4)*2)) ((medianAdjacent ltInt d (lo+(((hi-lo)/4)*1)) 0).2)).2)).1:Nat):Int)) (R:=blk b1 [I6 (((medianAdjacent ltInt d (lo+(((hi-lo)/4)*2)) ((medianAdjacent ltInt d (lo+(((hi-lo)/4)*1)) 0).2)).2:Nat):Int)] 3) (R':=fun _=>blk b1 [I6 (((medianAdjacent ltInt d (lo+(((hi-lo)/4)*3)) ((medianAdjacent ltInt d (lo+(((hi-lo)/4)*2)) ((medianAdjacent ltInt d (lo+(((hi-lo)/4)*1)) 0).2)).2)).2:Nat):Int)] 3) (Lo:=fun _=>[]) (F:=fun _ _=>True) QmR rfl rfl hs 0 rfl (fun S hS hlt hSM=>Qlu _ S a N c d hsz hN b1 ((medianAdjacent ltInt d (lo+(((hi-lo)/4)*2)) ((medianAdjacent ltInt d (lo+(((hi-lo)/4)*1)) 0).2)).2) (by omega) (Rd.own' hr hs) (Nat.lt_of_lt_of_le hb hs.size) (fun h=>hSM _ h hb) hS hlt (lo+(((hi-lo)/4)*3)) (by omega) (by omega)) fun _ w7 hs _=>?_))))))
   replace hs:Own w no w7 [blk b1 [I6 (((medianAdjacent ltInt d (lo+(((hi-lo)/4)*3)) ((medianAdjacent ltInt d (lo+(((hi-lo)/4)*2)) ((medianAdjacent ltInt d (lo+(((hi-lo)/4)*1)) 0).2)).2)).2:Nat):Int)] 3]:=hs
   refine Qaa (Qad (V:=I6 (((medianAdjacent ltInt d (lo+(((hi-lo)/4)*3)) ((medianAdjacent ltInt d (lo+(((hi-lo)/4)*2)) ((medianAdjacent ltInt d (lo+(((hi-lo)/4)*1)) 0).2)).2)).1:Nat):Int)) rfl (Qae ?_))
   have hq3:=QlK (d:=d) (sw:=(medianAdjacent ltInt d (lo+((hi-lo)/4)*2) ((medianAdjacent ltInt d (lo+((hi-lo)/4)*1) (0)).2)).2) (N:=N) (x:=lo+((hi-lo)/4)*3) (by omega) (by omega)
   refine Qab (Qaa (Qac (V:=.slice a N c) rfl (Qaa (Qac (V:=I6 (((medianAdjacent ltInt d (lo+(((hi-lo)/4)*1)) 0).1:Nat):Int)) rfl (Qaa (Qac (V:=I6 (((medianAdjacent ltInt d (lo+(((hi-lo)/4)*2)) ((medianAdjacent ltInt d (lo+(((hi-lo)/4)*1)) 0).2)).1:Nat):Int)) rfl (Qaa (Qac (V:=I6 (((medianAdjacent ltInt d (lo+(((hi-lo)/4)*3)) ((medianAdjacent ltInt d (lo+(((hi-lo)/4)*2)) ((medianAdjacent ltInt d (lo+(((hi-lo)/4)*1)) 0).2)).2)).1:Nat):Int)) rfl (Qaa (QcS (vs:=[.slice a N c,I6 (((medianAdjacent ltInt d (lo+(((hi-lo)/4)*1)) 0).1:Nat):Int),I6 (((medianAdjacent ltInt d (lo+(((hi-lo)/4)*2)) ((medianAdjacent ltInt d (lo+(((hi-lo)/4)*1)) 0).2)).1:Nat):Int),I6 (((medianAdjacent ltInt d (lo+(((hi-lo)/4)*3)) ((medianAdjacent ltInt d (lo+(((hi-lo)/4)*2)) ((medianAdjacent ltInt d (lo+(((hi-lo)/4)*1)) 0).2)).2)).1:Nat):Int),Pq b1 0]) (V:=fun _:Unit=>I6 (((Sort.median ltInt d ((medianAdjacent ltInt d (lo+(((hi-lo)/4)*1)) 0).1) ((medianAdjacent ltInt d (lo+(((hi-lo)/4)*2)) ((medianAdjacent ltInt d (lo+(((hi-lo)/4)*1)) 0).2)).1) ((medianAdjacent ltInt d (lo+(((hi-lo)/4)*3)) ((medianAdjacent ltInt d (lo+(((hi-lo)/4)*2)) ((medianAdjacent ltInt d (lo+(((hi-lo)/4)*1)) 0).2)).2)).1) ((medianAdjacent ltInt d (lo+(((hi-lo)/4)*3)) ((medianAdjacent ltInt d (lo+(((hi-lo)/4)*2)) ((medianAdjacent ltInt d (lo+(((hi-lo)/4)*1)) 0).2)).2)).2)).1:Nat):Int)) (R:=blk b1 [I6 (((medianAdjacent ltInt d (lo+(((hi-lo)/4)*3)) ((medianAdjacent ltInt d (lo+(((hi-lo)/4)*2)) ((medianAdjacent ltInt d (lo+(((hi-lo)/4)*1)) 0).2)).2)).2:Nat):Int)] 3) (R':=fun _=>blk b1 [I6 (((Sort.median ltInt d ((medianAdjacent ltInt d (lo+(((hi-lo)/4)*1)) 0).1) ((medianAdjacent ltInt d (lo+(((hi-lo)/4)*2)) ((medianAdjacent ltInt d (lo+(((hi-lo)/4)*1)) 0).2)).1) ((medianAdjacent ltInt d (lo+(((hi-lo)/4)*3)) ((medianAdjacent ltInt d (lo+(((hi-lo)/4)*2)) ((medianAdjacent ltInt d (lo+(((hi-lo)/4)*1)) 0).2)).2)).1) ((medianAdjacent ltInt d (lo+(((hi-lo)/4)*3)) ((medianAdjacent ltInt d (lo+(((hi-lo)/4)*2)) ((medianAdjacent ltInt d (lo+(((hi-lo)/4)*1)) 0).2)).2)).2)).2:Nat):Int)] 3) (Lo:=fun _=>[]) (F:=fun _ _=>True) Qle rfl rfl hs 0 rfl (fun S hS hlt hSM=>Qmo _ S a N c d hsz hN b1 ((medianAdjacent ltInt d (lo+(((hi-lo)/4)*3)) ((medianAdjacent ltInt d (lo+(((hi-lo)/4)*2)) ((medianAdjacent ltInt d (lo+(((hi-lo)/4)*1)) 0).2)).2)).2) (by omega) (Rd.own' hr hs) (Nat.lt_of_lt_of_le hb hs.size) (fun h=>hSM _ h hb) hS hlt ((medianAdjacent ltInt d (lo+(((hi-lo)/4)*1)) 0).1) ((medianAdjacent ltInt d (lo+(((hi-lo)/4)*2)) ((medianAdjacent ltInt d (lo+(((hi-lo)/4)*1)) 0).2)).1) ((medianAdjacent ltInt d (lo+(((hi-lo)/4)*3)) ((medianAdjacent ltInt d (lo+(((hi-lo)/4)*2)) ((medianAdjacent ltInt d (lo+(((hi-lo)/4)*1)) 0).2)).2)).1) (by omega) (by omega) (by omega)) fun _ w8 hs _=>(Qaa (Qad (V:=I6 (((Sort.median ltInt d ((medianAdjacent ltInt d (lo+(((hi-lo)/4)*1)) 0).1) ((medianAdjacent ltInt d (lo+(((hi-lo)/4)*2)) ((medianAdjacent ltInt d (lo+(((hi-lo)/4)*1)) 0).2)).1) ((medianAdjacent ltInt d (lo+(((hi-lo)/4)*3)) ((medianAdjacent ltInt d (lo+(((hi-lo)/4)*2)) ((medianAdjacent ltInt d (lo+(((hi-lo)/4)*1)) 0).2)).2)).1) ((medianAdjacent ltInt d (lo+(((hi-lo)/4)*3)) ((medianAdjacent ltInt d (lo+(((hi-lo)/4)*2)) ((medianAdjacent ltInt d (lo+(((hi-lo)/4)*1)) 0).2)).2)).2)).1:Nat):Int)) rfl (Qae (Qag (Qab (Qaa (QaP (V:=I6 (((Sort.median ltInt d ((medianAdjacent ltInt d (lo+(((hi-lo)/4)*1)) 0).1) ((medianAdjacent ltInt d (lo+(((hi-lo)/4)*2)) ((medianAdjacent ltInt d (lo+(((hi-lo)/4)*1)) 0).2)).1) ((medianAdjacent ltInt d (lo+(((hi-lo)/4)*3)) ((medianAdjacent ltInt d (lo+(((hi-lo)/4)*2)) ((medianAdjacent ltInt d (lo+(((hi-lo)/4)*1)) 0).2)).2)).1) ((medianAdjacent ltInt d (lo+(((hi-lo)/4)*3)) ((medianAdjacent ltInt d (lo+(((hi-lo)/4)*2)) ((medianAdjacent ltInt d (lo+(((hi-lo)/4)*1)) 0).2)).2)).2)).2:Nat):Int)) Qqr hs 0 rfl rfl rfl (Qae (Qan (Qag (Qab (Qaa (QaW rfl rfl (Qaa (Qad (V:=.bool (decide ((((Sort.median ltInt d ((medianAdjacent ltInt d (lo+(((hi-lo)/4)*1)) 0).1) ((medianAdjacent ltInt d (lo+(((hi-lo)/4)*2)) ((medianAdjacent ltInt d (lo+(((hi-lo)/4)*1)) 0).2)).1) ((medianAdjacent ltInt d (lo+(((hi-lo)/4)*3)) ((medianAdjacent ltInt d (lo+(((hi-lo)/4)*2)) ((medianAdjacent ltInt d (lo+(((hi-lo)/4)*1)) 0).2)).2)).1) ((medianAdjacent ltInt d (lo+(((hi-lo)/4)*3)) ((medianAdjacent ltInt d (lo+(((hi-lo)/4)*2)) ((medianAdjacent ltInt d (lo+(((hi-lo)/4)*1)) 0).2)).2)).2)).2:Nat):Int)=0))) rfl (Qae (Qam (t:=decide ((((Sort.median ltInt d ((medianAdjacent ltInt d (lo+(((hi-lo)/4)*1)) 0).1) ((medianAdjacent ltInt d (lo+(((hi-lo)/4)*2)) ((medianAdjacent ltInt d (lo+(((hi-lo)/4)*1)) 0).2)).1) ((medianAdjacent ltInt d (lo+(((hi-lo)/4)*3)) ((medianAdjacent ltInt d (lo+(((hi-lo)/4)*2)) ((medianAdjacent ltInt d (lo+(((hi-lo)/4)*1)) 0).2)).2)).1) ((medianAdjacent ltInt d (lo+(((hi-lo)/4)*3)) ((medianAdjacent ltInt d (lo+(((hi-lo)/4)*2)) ((medianAdjacent ltInt d (lo+(((hi-lo)/4)*1)) 0).2)).2)).2)).2:Nat):Int)=0)) rfl (fun c9=>?_) (fun c9=>?_))))))))))))))))))))))))))))
   ·
    replace c9:=QQ1 c9
    refine Qag (Qab (Qaa (Qac (V:=I6 (((Sort.median ltInt d ((medianAdjacent ltInt d (lo+(((hi-lo)/4)*1)) 0).1) ((medianAdjacent ltInt d (lo+(((hi-lo)/4)*2)) ((medianAdjacent ltInt d (lo+(((hi-lo)/4)*1)) 0).2)).1) ((medianAdjacent ltInt d (lo+(((hi-lo)/4)*3)) ((medianAdjacent ltInt d (lo+(((hi-lo)/4)*2)) ((medianAdjacent ltInt d (lo+(((hi-lo)/4)*1)) 0).2)).2)).1) ((medianAdjacent ltInt d (lo+(((hi-lo)/4)*3)) ((medianAdjacent ltInt d (lo+(((hi-lo)/4)*2)) ((medianAdjacent ltInt d (lo+(((hi-lo)/4)*1)) 0).2)).2)).2)).1:Nat):Int)) rfl (Qaa (Qad (V:=I6 (((Sort.median ltInt d ((medianAdjacent ltInt d (lo+(((hi-lo)/4)*1)) 0).1) ((medianAdjacent ltInt d (lo+(((hi-lo)/4)*2)) ((medianAdjacent ltInt d (lo+(((hi-lo)/4)*1)) 0).2)).1) ((medianAdjacent ltInt d (lo+(((hi-lo)/4)*3)) ((medianAdjacent ltInt d (lo+(((hi-lo)/4)*2)) ((medianAdjacent ltInt d (lo+(((hi-lo)/4)*1)) 0).2)).2)).1) ((medianAdjacent ltInt d (lo+(((hi-lo)/4)*3)) ((medianAdjacent ltInt d (lo+(((hi-lo)/4)*2)) ((medianAdjacent ltInt d (lo+(((hi-lo)/4)*1)) 0).2)).2)).2)).1:Nat):Int)) rfl (Qaa (Qad (V:=I6 1) rfl (Qae (Qav ?_)))))))))
    refine ⟨_,QbF (U:=I6 (((Sort.median ltInt d ((medianAdjacent ltInt d (lo+(((hi-lo)/4)*1)) 0).1) ((medianAdjacent ltInt d (lo+(((hi-lo)/4)*2)) ((medianAdjacent ltInt d (lo+(((hi-lo)/4)*1)) 0).2)).1) ((medianAdjacent ltInt d (lo+(((hi-lo)/4)*3)) ((medianAdjacent ltInt d (lo+(((hi-lo)/4)*2)) ((medianAdjacent ltInt d (lo+(((hi-lo)/4)*1)) 0).2)).2)).1) ((medianAdjacent ltInt d (lo+(((hi-lo)/4)*3)) ((medianAdjacent ltInt d (lo+(((hi-lo)/4)*2)) ((medianAdjacent ltInt d (lo+(((hi-lo)/4)*1)) 0).2)).2)).2)).1:Nat):Int)) (V:=I6 1) Tryz.results175 rfl rfl,?_⟩
    refine ⟨?_,hs.take 0⟩
    rw [QiZ (X:=Sort.median ltInt d (medianAdjacent ltInt d (lo+((hi-lo)/4)*1) (0)).1 (medianAdjacent ltInt d (lo+((hi-lo)/4)*2) ((medianAdjacent ltInt d (lo+((hi-lo)/4)*1) (0)).2)).1 (medianAdjacent ltInt d (lo+((hi-lo)/4)*3) ((medianAdjacent ltInt d (lo+((hi-lo)/4)*2) ((medianAdjacent ltInt d (lo+((hi-lo)/4)*1) (0)).2)).2)).1 (medianAdjacent ltInt d (lo+((hi-lo)/4)*3) ((medianAdjacent ltInt d (lo+((hi-lo)/4)*2) ((medianAdjacent ltInt d (lo+((hi-lo)/4)*1) (0)).2)).2)).2) (h:=.increasing) ((if_pos (by omega)).trans (if_pos (by omega))) (if_pos (by omega))];rfl
   replace c9:=QQ2 c9
   refine Qag (Qab (Qaa (QaW rfl rfl (Qaa (Qad (V:=.bool (decide ((((Sort.median ltInt d ((medianAdjacent ltInt d (lo+(((hi-lo)/4)*1)) 0).1) ((medianAdjacent ltInt d (lo+(((hi-lo)/4)*2)) ((medianAdjacent ltInt d (lo+(((hi-lo)/4)*1)) 0).2)).1) ((medianAdjacent ltInt d (lo+(((hi-lo)/4)*3)) ((medianAdjacent ltInt d (lo+(((hi-lo)/4)*2)) ((medianAdjacent ltInt d (lo+(((hi-lo)/4)*1)) 0).2)).2)).1) ((medianAdjacent ltInt d (lo+(((hi-lo)/4)*3)) ((medianAdjacent ltInt d (lo+(((hi-lo)/4)*2)) ((medianAdjacent ltInt d (lo+(((hi-lo)/4)*1)) 0).2)).2)).2)).2:Nat):Int)=12))) rfl (Qae (Qam (t:=decide ((((Sort.median ltInt d ((medianAdjacent ltInt d (lo+(((hi-lo)/4)*1)) 0).1) ((medianAdjacent ltInt d (lo+(((hi-lo)/4)*2)) ((medianAdjacent ltInt d (lo+(((hi-lo)/4)*1)) 0).2)).1) ((medianAdjacent ltInt d (lo+(((hi-lo)/4)*3)) ((medianAdjacent ltInt d (lo+(((hi-lo)/4)*2)) ((medianAdjacent ltInt d (lo+(((hi-lo)/4)*1)) 0).2)).2)).1) ((medianAdjacent ltInt d (lo+(((hi-lo)/4)*3)) ((medianAdjacent ltInt d (lo+(((hi-lo)/4)*2)) ((medianAdjacent ltInt d (lo+(((hi-lo)/4)*1)) 0).2)).2)).2)).2:Nat):Int)=12)) rfl (fun c10=>?_) (fun c10=>?_))))))))
   ·
    replace c10:=QQ1 c10
    refine Qag (Qab (Qaa (Qac (V:=I6 (((Sort.median ltInt d ((medianAdjacent ltInt d (lo+(((hi-lo)/4)*1)) 0).1) ((medianAdjacent ltInt d (lo+(((hi-lo)/4)*2)) ((medianAdjacent ltInt d (lo+(((hi-lo)/4)*1)) 0).2)).1) ((medianAdjacent ltInt d (lo+(((hi-lo)/4)*3)) ((medianAdjacent ltInt d (lo+(((hi-lo)/4)*2)) ((medianAdjacent ltInt d (lo+(((hi-lo)/4)*1)) 0).2)).2)).1) ((medianAdjacent ltInt d (lo+(((hi-lo)/4)*3)) ((medianAdjacent ltInt d (lo+(((hi-lo)/4)*2)) ((medianAdjacent ltInt d (lo+(((hi-lo)/4)*1)) 0).2)).2)).2)).1:Nat):Int)) rfl (Qaa (Qad (V:=I6 (((Sort.median ltInt d ((medianAdjacent ltInt d (lo+(((hi-lo)/4)*1)) 0).1) ((medianAdjacent ltInt d (lo+(((hi-lo)/4)*2)) ((medianAdjacent ltInt d (lo+(((hi-lo)/4)*1)) 0).2)).1) ((medianAdjacent ltInt d (lo+(((hi-lo)/4)*3)) ((medianAdjacent ltInt d (lo+(((hi-lo)/4)*2)) ((medianAdjacent ltInt d (lo+(((hi-lo)/4)*1)) 0).2)).2)).1) ((medianAdjacent ltInt d (lo+(((hi-lo)/4)*3)) ((medianAdjacent ltInt d (lo+(((hi-lo)/4)*2)) ((medianAdjacent ltInt d (lo+(((hi-lo)/4)*1)) 0).2)).2)).2)).1:Nat):Int)) rfl (Qaa (Qad (V:=I6 2) rfl (Qae (Qav ?_)))))))))
    refine ⟨_,QbF (U:=I6 (((Sort.median ltInt d ((medianAdjacent ltInt d (lo+(((hi-lo)/4)*1)) 0).1) ((medianAdjacent ltInt d (lo+(((hi-lo)/4)*2)) ((medianAdjacent ltInt d (lo+(((hi-lo)/4)*1)) 0).2)).1) ((medianAdjacent ltInt d (lo+(((hi-lo)/4)*3)) ((medianAdjacent ltInt d (lo+(((hi-lo)/4)*2)) ((medianAdjacent ltInt d (lo+(((hi-lo)/4)*1)) 0).2)).2)).1) ((medianAdjacent ltInt d (lo+(((hi-lo)/4)*3)) ((medianAdjacent ltInt d (lo+(((hi-lo)/4)*2)) ((medianAdjacent ltInt d (lo+(((hi-lo)/4)*1)) 0).2)).2)).2)).1:Nat):Int)) (V:=I6 2) Tryz.results175 rfl rfl,?_⟩
    refine ⟨?_,hs.take 0⟩
    rw [QiZ (X:=Sort.median ltInt d (medianAdjacent ltInt d (lo+((hi-lo)/4)*1) (0)).1 (medianAdjacent ltInt d (lo+((hi-lo)/4)*2) ((medianAdjacent ltInt d (lo+((hi-lo)/4)*1) (0)).2)).1 (medianAdjacent ltInt d (lo+((hi-lo)/4)*3) ((medianAdjacent ltInt d (lo+((hi-lo)/4)*2) ((medianAdjacent ltInt d (lo+((hi-lo)/4)*1) (0)).2)).2)).1 (medianAdjacent ltInt d (lo+((hi-lo)/4)*3) ((medianAdjacent ltInt d (lo+((hi-lo)/4)*2) ((medianAdjacent ltInt d (lo+((hi-lo)/4)*1) (0)).2)).2)).2) (h:=.decreasing) ((if_pos (by omega)).trans (if_pos (by omega))) ((if_neg (by omega)).trans (if_pos (by omega)))];rfl
   replace c10:=QQ2 c10
   refine Qag (Qab (Qaa (Qac (V:=I6 (((Sort.median ltInt d ((medianAdjacent ltInt d (lo+(((hi-lo)/4)*1)) 0).1) ((medianAdjacent ltInt d (lo+(((hi-lo)/4)*2)) ((medianAdjacent ltInt d (lo+(((hi-lo)/4)*1)) 0).2)).1) ((medianAdjacent ltInt d (lo+(((hi-lo)/4)*3)) ((medianAdjacent ltInt d (lo+(((hi-lo)/4)*2)) ((medianAdjacent ltInt d (lo+(((hi-lo)/4)*1)) 0).2)).2)).1) ((medianAdjacent ltInt d (lo+(((hi-lo)/4)*3)) ((medianAdjacent ltInt d (lo+(((hi-lo)/4)*2)) ((medianAdjacent ltInt d (lo+(((hi-lo)/4)*1)) 0).2)).2)).2)).1:Nat):Int)) rfl (Qaa (Qad (V:=I6 (((Sort.median ltInt d ((medianAdjacent ltInt d (lo+(((hi-lo)/4)*1)) 0).1) ((medianAdjacent ltInt d (lo+(((hi-lo)/4)*2)) ((medianAdjacent ltInt d (lo+(((hi-lo)/4)*1)) 0).2)).1) ((medianAdjacent ltInt d (lo+(((hi-lo)/4)*3)) ((medianAdjacent ltInt d (lo+(((hi-lo)/4)*2)) ((medianAdjacent ltInt d (lo+(((hi-lo)/4)*1)) 0).2)).2)).1) ((medianAdjacent ltInt d (lo+(((hi-lo)/4)*3)) ((medianAdjacent ltInt d (lo+(((hi-lo)/4)*2)) ((medianAdjacent ltInt d (lo+(((hi-lo)/4)*1)) 0).2)).2)).2)).1:Nat):Int)) rfl (Qaa (Qad (V:=I6 0) rfl (Qae (Qav ?_)))))))))
   refine ⟨_,QbF (U:=I6 (((Sort.median ltInt d ((medianAdjacent ltInt d (lo+(((hi-lo)/4)*1)) 0).1) ((medianAdjacent ltInt d (lo+(((hi-lo)/4)*2)) ((medianAdjacent ltInt d (lo+(((hi-lo)/4)*1)) 0).2)).1) ((medianAdjacent ltInt d (lo+(((hi-lo)/4)*3)) ((medianAdjacent ltInt d (lo+(((hi-lo)/4)*2)) ((medianAdjacent ltInt d (lo+(((hi-lo)/4)*1)) 0).2)).2)).1) ((medianAdjacent ltInt d (lo+(((hi-lo)/4)*3)) ((medianAdjacent ltInt d (lo+(((hi-lo)/4)*2)) ((medianAdjacent ltInt d (lo+(((hi-lo)/4)*1)) 0).2)).2)).2)).1:Nat):Int)) (V:=I6 0) Tryz.results175 rfl rfl,?_⟩
   refine ⟨?_,hs.take 0⟩
   rw [QiZ (X:=Sort.median ltInt d (medianAdjacent ltInt d (lo+((hi-lo)/4)*1) (0)).1 (medianAdjacent ltInt d (lo+((hi-lo)/4)*2) ((medianAdjacent ltInt d (lo+((hi-lo)/4)*1) (0)).2)).1 (medianAdjacent ltInt d (lo+((hi-lo)/4)*3) ((medianAdjacent ltInt d (lo+((hi-lo)/4)*2) ((medianAdjacent ltInt d (lo+((hi-lo)/4)*1) (0)).2)).2)).1 (medianAdjacent ltInt d (lo+((hi-lo)/4)*3) ((medianAdjacent ltInt d (lo+((hi-lo)/4)*2) ((medianAdjacent ltInt d (lo+((hi-lo)/4)*1) (0)).2)).2)).2) (h:=.unknown) ((if_pos (by omega)).trans (if_pos (by omega))) ((if_neg (by omega)).trans (if_neg (by omega)))];rfl
  replace c4:=QQ2 c4
  refine Qap (Qab (Qaa (Qac (V:=.slice a N c) rfl (Qaa (Qac (V:=I6 ((lo+(((hi-lo)/4)*1):Nat):Int)) rfl (Qaa (Qac (V:=I6 ((lo+(((hi-lo)/4)*2):Nat):Int)) rfl (Qaa (Qac (V:=I6 ((lo+(((hi-lo)/4)*3):Nat):Int)) rfl (Qaa (QcS (vs:=[.slice a N c,I6 ((lo+(((hi-lo)/4)*1):Nat):Int),I6 ((lo+(((hi-lo)/4)*2):Nat):Int),I6 ((lo+(((hi-lo)/4)*3):Nat):Int),Pq b1 0]) (V:=fun _:Unit=>I6 (((Sort.median ltInt d (lo+(((hi-lo)/4)*1)) (lo+(((hi-lo)/4)*2)) (lo+(((hi-lo)/4)*3)) 0).1:Nat):Int)) (R:=blk b1 [I6 (0:Int)] 3) (R':=fun _=>blk b1 [I6 (((Sort.median ltInt d (lo+(((hi-lo)/4)*1)) (lo+(((hi-lo)/4)*2)) (lo+(((hi-lo)/4)*3)) 0).2:Nat):Int)] 3) (Lo:=fun _=>[]) (F:=fun _ _=>True) Qle rfl rfl hs 0 rfl (fun S hS hlt hSM=>Qmo _ S a N c d hsz hN b1 0 (by omega) (Rd.own' hr hs) (Nat.lt_of_lt_of_le hb hs.size) (fun h=>hSM _ h hb) hS hlt (lo+(((hi-lo)/4)*1)) (lo+(((hi-lo)/4)*2)) (lo+(((hi-lo)/4)*3)) (by omega) (by omega) (by omega)) fun _ w11 hs _=>(Qaa (Qad (V:=I6 (((Sort.median ltInt d (lo+(((hi-lo)/4)*1)) (lo+(((hi-lo)/4)*2)) (lo+(((hi-lo)/4)*3)) 0).1:Nat):Int)) rfl (Qae (Qag (Qab (Qaa (QaP (V:=I6 (((Sort.median ltInt d (lo+(((hi-lo)/4)*1)) (lo+(((hi-lo)/4)*2)) (lo+(((hi-lo)/4)*3)) 0).2:Nat):Int)) Qqr hs 0 rfl rfl rfl (Qae (Qan (Qag (Qab (Qaa (QaW rfl rfl (Qaa (Qad (V:=.bool (decide ((((Sort.median ltInt d (lo+(((hi-lo)/4)*1)) (lo+(((hi-lo)/4)*2)) (lo+(((hi-lo)/4)*3)) 0).2:Nat):Int)=0))) rfl (Qae (Qam (t:=decide ((((Sort.median ltInt d (lo+(((hi-lo)/4)*1)) (lo+(((hi-lo)/4)*2)) (lo+(((hi-lo)/4)*3)) 0).2:Nat):Int)=0)) rfl (fun c12=>?_) (fun c12=>?_)))))))))))))))))))))))))))))
  ·
   replace c12:=QQ1 c12
   refine Qag (Qab (Qaa (Qac (V:=I6 (((Sort.median ltInt d (lo+(((hi-lo)/4)*1)) (lo+(((hi-lo)/4)*2)) (lo+(((hi-lo)/4)*3)) 0).1:Nat):Int)) rfl (Qaa (Qad (V:=I6 (((Sort.median ltInt d (lo+(((hi-lo)/4)*1)) (lo+(((hi-lo)/4)*2)) (lo+(((hi-lo)/4)*3)) 0).1:Nat):Int)) rfl (Qaa (Qad (V:=I6 1) rfl (Qae (Qav ?_)))))))))
   refine ⟨_,QbF (U:=I6 (((Sort.median ltInt d (lo+(((hi-lo)/4)*1)) (lo+(((hi-lo)/4)*2)) (lo+(((hi-lo)/4)*3)) 0).1:Nat):Int)) (V:=I6 1) Tryz.results175 rfl rfl,?_⟩
   refine ⟨?_,hs.take 0⟩
   rw [QiZ (X:=Sort.median ltInt d (lo+((hi-lo)/4)*1) (lo+((hi-lo)/4)*2) (lo+((hi-lo)/4)*3) 0) (h:=.increasing) ((if_pos (by omega)).trans (if_neg (by omega))) (if_pos (by omega))];rfl
  replace c12:=QQ2 c12
  refine Qag (Qab (Qaa (QaW rfl rfl (Qaa (Qad (V:=.bool (decide ((((Sort.median ltInt d (lo+(((hi-lo)/4)*1)) (lo+(((hi-lo)/4)*2)) (lo+(((hi-lo)/4)*3)) 0).2:Nat):Int)=12))) rfl (Qae (Qam (t:=decide ((((Sort.median ltInt d (lo+(((hi-lo)/4)*1)) (lo+(((hi-lo)/4)*2)) (lo+(((hi-lo)/4)*3)) 0).2:Nat):Int)=12)) rfl (fun c13=>?_) (fun c13=>?_))))))))
  ·
   replace c13:=QQ1 c13
   refine Qag (Qab (Qaa (Qac (V:=I6 (((Sort.median ltInt d (lo+(((hi-lo)/4)*1)) (lo+(((hi-lo)/4)*2)) (lo+(((hi-lo)/4)*3)) 0).1:Nat):Int)) rfl (Qaa (Qad (V:=I6 (((Sort.median ltInt d (lo+(((hi-lo)/4)*1)) (lo+(((hi-lo)/4)*2)) (lo+(((hi-lo)/4)*3)) 0).1:Nat):Int)) rfl (Qaa (Qad (V:=I6 2) rfl (Qae (Qav ?_)))))))))
   refine ⟨_,QbF (U:=I6 (((Sort.median ltInt d (lo+(((hi-lo)/4)*1)) (lo+(((hi-lo)/4)*2)) (lo+(((hi-lo)/4)*3)) 0).1:Nat):Int)) (V:=I6 2) Tryz.results175 rfl rfl,?_⟩
   refine ⟨?_,hs.take 0⟩
   rw [QiZ (X:=Sort.median ltInt d (lo+((hi-lo)/4)*1) (lo+((hi-lo)/4)*2) (lo+((hi-lo)/4)*3) 0) (h:=.decreasing) ((if_pos (by omega)).trans (if_neg (by omega))) ((if_neg (by omega)).trans (if_pos (by omega)))];rfl
  replace c13:=QQ2 c13
  refine Qag (Qab (Qaa (Qac (V:=I6 (((Sort.median ltInt d (lo+(((hi-lo)/4)*1)) (lo+(((hi-lo)/4)*2)) (lo+(((hi-lo)/4)*3)) 0).1:Nat):Int)) rfl (Qaa (Qad (V:=I6 (((Sort.median ltInt d (lo+(((hi-lo)/4)*1)) (lo+(((hi-lo)/4)*2)) (lo+(((hi-lo)/4)*3)) 0).1:Nat):Int)) rfl (Qaa (Qad (V:=I6 0) rfl (Qae (Qav ?_)))))))))
  refine ⟨_,QbF (U:=I6 (((Sort.median ltInt d (lo+(((hi-lo)/4)*1)) (lo+(((hi-lo)/4)*2)) (lo+(((hi-lo)/4)*3)) 0).1:Nat):Int)) (V:=I6 0) Tryz.results175 rfl rfl,?_⟩
  refine ⟨?_,hs.take 0⟩
  rw [QiZ (X:=Sort.median ltInt d (lo+((hi-lo)/4)*1) (lo+((hi-lo)/4)*2) (lo+((hi-lo)/4)*3) 0) (h:=.unknown) ((if_pos (by omega)).trans (if_neg (by omega))) ((if_neg (by omega)).trans (if_neg (by omega)))];rfl
 replace c3:=QQ2 c3
 refine Qap (Qag (Qab (Qaa (QaP (V:=I6 0) Qqr hs 0 rfl rfl rfl (Qae (Qan (Qag (Qab (Qaa (QaW rfl rfl (Qaa (Qad (V:=.bool (decide ((0:Int)=0))) rfl (Qae (Qam (t:=decide ((0:Int)=0)) rfl (fun c14=>?_) (fun c14=>?_)))))))))))))))
 ·
  replace c14:=QQ1 c14
  refine Qag (Qab (Qaa (Qac (V:=I6 ((lo+(((hi-lo)/4)*2):Nat):Int)) rfl (Qaa (Qad (V:=I6 ((lo+(((hi-lo)/4)*2):Nat):Int)) rfl (Qaa (Qad (V:=I6 1) rfl (Qae (Qav ?_)))))))))
  refine ⟨_,QbF (U:=I6 ((lo+(((hi-lo)/4)*2):Nat):Int)) (V:=I6 1) Tryz.results175 rfl rfl,?_⟩
  refine ⟨?_,hs.take 0⟩
  rw [QiZ (X:=(lo+((hi-lo)/4)*2,0)) (h:=.increasing) (if_neg (by omega)) (if_pos rfl)];rfl
 replace c14:=QQ2 c14
 refine Qag (Qab (Qaa (QaW rfl rfl (Qaa (Qad (V:=.bool (decide ((0:Int)=12))) rfl (Qae (Qam (t:=decide ((0:Int)=12)) rfl (fun c15=>?_) (fun c15=>?_))))))))
 ·
  replace c15:=QQ1 c15
  refine Qag (Qab (Qaa (Qac (V:=I6 ((lo+(((hi-lo)/4)*2):Nat):Int)) rfl (Qaa (Qad (V:=I6 ((lo+(((hi-lo)/4)*2):Nat):Int)) rfl (Qaa (Qad (V:=I6 2) rfl (Qae (Qav ?_)))))))))
  refine ⟨_,QbF (U:=I6 ((lo+(((hi-lo)/4)*2):Nat):Int)) (V:=I6 2) Tryz.results175 rfl rfl,?_⟩
  exfalso;omega
 replace c15:=QQ2 c15
 refine Qag (Qab (Qaa (Qac (V:=I6 ((lo+(((hi-lo)/4)*2):Nat):Int)) rfl (Qaa (Qad (V:=I6 ((lo+(((hi-lo)/4)*2):Nat):Int)) rfl (Qaa (Qad (V:=I6 0) rfl (Qae (Qav ?_)))))))))
 refine ⟨_,QbF (U:=I6 ((lo+(((hi-lo)/4)*2):Nat):Int)) (V:=I6 0) Tryz.results175 rfl rfl,?_⟩
 exfalso;omega
end Tt
end Go.Proofs
