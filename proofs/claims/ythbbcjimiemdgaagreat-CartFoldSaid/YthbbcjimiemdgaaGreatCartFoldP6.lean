/- A part of a proof: what functions of the program compute, and plain facts on that. -/
import Derived.Test.YthbbcjimiemdgaaGreatCartFoldP5
set_option linter.unusedVariables false
set_option linter.unusedSimpArgs false
set_option maxHeartbeats 4000000
set_option maxRecDepth 100000
namespace Go.Proofs
open Go Go.Vx Go.RowKit
namespace Tt
theorem QpV (w:World) (s:Sta) (a1:Option Addr) (c1:Nat) (a2:Option Addr) (c2:Nat) (hok:QcT s) (hle:s.ents.length≤1000) (hlt:s.ticks.length≤1000) (hr1:Rd w (.slice a1 s.ents.length c1) 7 (s.ents.map cec)) (hr2:Rd w (.slice a2 s.ticks.length c2) 2 (s.ticks.map lsc)):Calls Tryz.prog 28 #[.agg ((vc s.known)++[(.slice a1 s.ents.length c1:Value),(.slice a2 s.ticks.length c2:Value) ]).toArray] w (fun e w'=>∃ x:(Option Addr × Nat) × (Option Addr × Nat),e = .returned (.agg (vc (s).known++[(.slice x.1.1 (s).ents.length x.1.2:Value),(.slice x.2.1 (s).ticks.length x.2.2:Value)]).toArray)∧Own w no w' [row (.slice x.1.1 (s).ents.length x.1.2) ((s).ents.map cec) 59 7,row (.slice x.2.1 (s).ticks.length x.2.2) ((s).ticks.map lsc) 87 2]∧True):=by
 refine Qai (n:=12) Tryz.func28 rfl Tryz.ntmps28 rfl ?_
 have hs:=Own.start w
 refine Qag (Qab (Qaa (Qa9 (V:=.agg ((vc s.known)++[(.slice a1 s.ents.length c1:Value),(.slice a2 s.ticks.length c2:Value) ]).toArray) (cs:=(vc s.known)++[(.slice a1 s.ents.length c1:Value),(.slice a2 s.ticks.length c2:Value) ]) rfl rfl hs fun b1 w2 hs=>(Qaa (QaJ (cs:=(vc vzero)++[(.slice none 0 0:Value),(.slice none 0 0:Value) ]) Qfw rfl hs fun b3 w4 hs=>(Qae (Qag ?_)))))))
 replace hs:=hs.more emp trivial
 replace hs:=hs.more emp trivial
 refine QaC HM [some 3,some 4,some 5,some 6,some 7,some 8,some 9,some 10,some 11,none] [[],[],[],[],[7],[],[],[10],[7,10]] [0,1,0,4,12,0,32,124,255,511] [pv (Pt b1 (0+0)),pv (.agg (vc s.known).toArray),pv (Pt b1 (0+16)),pv (.slice a1 s.ents.length c1),(true,fun ρ=>.slice (aOf (ρ 7)) ((s.ents).length) (cOf (ρ 7))),pv (Pt b1 (0+17)),pv (.slice a2 s.ticks.length c2),(true,fun ρ=>.slice (aOf (ρ 10)) ((s.ticks).length) (cOf (ρ 10))),(true,fun ρ=>.agg ((vc s.known)++[(.slice (aOf (ρ 7)) ((s.ents).length) (cOf (ρ 7)):Value),(.slice (aOf (ρ 10)) ((s.ticks).length) (cOf (ρ 10)):Value) ]).toArray),pn] (fun D ρ=>[blk b1 ((vc s.known)++[(.slice a1 s.ents.length c1:Value),(.slice a2 s.ticks.length c2:Value) ]) 39,cond (D 9) (blk b3 ((vc s.known)++[(.slice (aOf (ρ 7)) ((s.ents).length) (cOf (ρ 7)):Value),(.slice (aOf (ρ 10)) ((s.ticks).length) (cOf (ρ 10)):Value) ]) 39) (blk b3 ((vc vzero)++[(.slice none 0 0:Value),(.slice none 0 0:Value) ]) 39),cond (D 4) (row (.slice (aOf (ρ 7)) ((s.ents).length) (cOf (ρ 7))) (s.ents.map cec) 59 7) (emp),cond (D 7) (row (.slice (aOf (ρ 10)) ((s.ticks).length) (cOf (ρ 10))) (s.ticks.map lsc) 87 2) (emp)]) [] (by kernel_rfl) hs ⟨?_,?_,?_,?_,?_,?_,?_,?_,?_,?_,trivial⟩ ?_
 ·exact ob [] [] rfl rfl fun D ρ w hs=>Qaf Qc9 rfl ⟨rfl,hs⟩
 ·exact ob [0] [] rfl rfl fun D ρ w hs=>QbO (vs:=vc s.known) QbT hs 0 rfl rfl rfl rfl ⟨rfl,hs⟩
 ·exact ob [] [] rfl rfl fun D ρ w hs=>Qaf QbG rfl ⟨rfl,hs⟩
 ·exact ob [2] [] rfl rfl fun D ρ w hs=>QaK (V:=.slice a1 s.ents.length c1) Qdc hs 0 rfl rfl rfl ⟨rfl,hs⟩
 ·exact ob [3] [9] rfl rfl fun D ρ w hs=>Qby (vs:=[.slice a1 s.ents.length c1]) (V:=fun x:Option Addr × Nat=>.slice x.1 (s.ents).length x.2) QtC rfl rfl (QoA _ a1 c1 s.ents (by omega) (Rd.own' hr1 hs)) hs fun _ _ hs _=>⟨rfl,hs.put 2 (QQ8 rfl)⟩
 ·exact ob [] [] rfl rfl fun D ρ w hs=>Qaf QcU rfl ⟨rfl,hs⟩
 ·exact ob [5] [] rfl rfl fun D ρ w hs=>QaK (V:=.slice a2 s.ticks.length c2) Qfu hs 0 rfl rfl rfl ⟨rfl,hs⟩
 ·exact ob [6] [9] rfl rfl fun D ρ w hs=>Qby (vs:=[.slice a2 s.ticks.length c2]) (V:=fun x:Option Addr × Nat=>.slice x.1 (s.ticks).length x.2) Qrm rfl rfl (QjL _ a2 c2 s.ticks (by omega) (Rd.own' hr2 hs)) hs fun _ _ hs _=>⟨rfl,hs.put 3 (QQ8 rfl)⟩
 ·exact ob [1,4,7] [] rfl rfl fun D ρ w hs=>QcH (vs:=[(0,.agg (vc s.known).toArray),(1,.slice (aOf (ρ 7)) ((s.ents).length) (cOf (ρ 7))),(2,.slice (aOf (ρ 10)) ((s.ticks).length) (cOf (ρ 10)))]) (cs:=(vc s.known)++[(.slice (aOf (ρ 7)) ((s.ents).length) (cOf (ρ 7)):Value),(.slice (aOf (ρ 10)) ((s.ticks).length) (cOf (ρ 10)):Value) ]) [vc vzero,[(.slice none 0 0:Value)],[(.slice none 0 0:Value)]] [vc s.known,[(.slice (aOf (ρ 7)) ((s.ents).length) (cOf (ρ 7)):Value)],[(.slice (aOf (ρ 10)) ((s.ticks).length) (cOf (ρ 10)):Value)]] QiT rfl (rfl) rfl rfl ⟨rfl,hs⟩
 ·exact ob [8] [] rfl rfl fun D ρ w hs=>QcC (V:=.agg ((vc s.known)++[(.slice (aOf (ρ 7)) ((s.ents).length) (cOf (ρ 7)):Value),(.slice (aOf (ρ 10)) ((s.ticks).length) (cOf (ρ 10)):Value) ]).toArray) (vs:=(vc s.known)++[(.slice (aOf (ρ 7)) ((s.ents).length) (cOf (ρ 7)):Value),(.slice (aOf (ρ 10)) ((s.ticks).length) (cOf (ρ 10)):Value) ]) (cs':=(vc s.known)++[(.slice (aOf (ρ 7)) ((s.ents).length) (cOf (ρ 7)):Value),(.slice (aOf (ρ 10)) ((s.ticks).length) (cOf (ρ 10)):Value) ]) Qbz.1 hs 1 rfl rfl rfl rfl rfl (QQ8 rfl) (QbU (QcJ _) (Qau rfl (Qau rfl Qbu))) (Qaw rfl) fun _ hs=>⟨trivial,hs⟩
 rintro ρ1 w8 ρ2 hρ hs
 replace hρ:ρ2=mix [3,4,5,6,7,8,9,10,11] ρ1 _:=hρ
 replace hs:Own w no w8 [blk b1 ((vc s.known)++[(.slice a1 s.ents.length c1:Value),(.slice a2 s.ticks.length c2:Value) ]) 39,blk b3 ((vc s.known)++[(.slice (aOf (ρ1 7)) ((s.ents).length) (cOf (ρ1 7)):Value),(.slice (aOf (ρ1 10)) ((s.ticks).length) (cOf (ρ1 10)):Value) ]) 39,row (.slice (aOf (ρ1 7)) ((s.ents).length) (cOf (ρ1 7))) (s.ents.map cec) 59 7,row (.slice (aOf (ρ1 10)) ((s.ticks).length) (cOf (ρ1 10))) (s.ticks.map lsc) 87 2]:=hs
 generalize (aOf (ρ1 7))=a9 at hs
 generalize (cOf (ρ1 7))=c10 at hs
 generalize (aOf (ρ1 10))=a11 at hs
 generalize (cOf (ρ1 10))=c12 at hs
 subst hρ
 refine Qas ?_
 refine ⟨_,Qcx (cs:=(vc s.known)++[(.slice a9 ((s.ents).length) c10:Value),(.slice a11 ((s.ticks).length) c12:Value) ]) Tryz.results28 Qbz hs 1 rfl rfl rfl,?_⟩
 exact ⟨((a9,c10),(a11,c12)),rfl,hs.two 2 3 (by decide) rfl rfl,trivial⟩
theorem QpN (w:World) (x:Cen):Calls Tryz.prog 32 #[.agg (cec x).toArray] w (fun e w'=>e = .returned (.agg (oc (QaS x)).toArray)∧Own w no w' []):=by
 refine Qai (n:=14) Tryz.func32 rfl Tryz.ntmps32 rfl ?_
 have hs:=Own.start w
 refine Qag (Qab (Qaa (Qa9 (V:=.agg (cec x).toArray) (cs:=cec x) rfl rfl hs fun b1 w2 hs=>(Qaa (QaJ (cs:=oc (⟨(⟨0,0⟩:Dot),0,0,0,0,0,vzero⟩:Opn)) Qj9 rfl hs fun b3 w4 hs=>(Qae (Qag (Qab (Qaa (Qaf QbW rfl (Qaa (QbO (vs:=dc x.dot) Qcv hs 0 rfl rfl rfl rfl (Qaa (Qaf Qe5 rfl (Qaa (QaK (V:=.int .u8 x.kind) QcF hs 0 rfl rfl rfl (Qaa (Qaf Qe7 rfl (Qaa (QaK (V:=I7 x.cart) Qap hs 0 rfl rfl rfl (Qaa (Qaf QdV rfl (Qaa (QaK (V:=I7 x.item) Qap hs 0 rfl rfl rfl (Qaa (Qaf Qe3 rfl (Qaa (QaK (V:=I7 x.qty) Qap hs 0 rfl rfl rfl (Qaa (QcH (vs:=[(0,.agg (dc x.dot).toArray),(1,.int .u8 x.kind),(2,I7 x.cart),(3,I7 x.item),(4,I7 x.qty)]) (cs:=oc (⟨x.dot,x.kind,x.cart,x.item,x.qty,0,vzero⟩:Opn)) [dc (⟨0,0⟩:Dot),[(.int .u8 0:Value)],[(I7 0:Value)],[(I7 0:Value)],[(I7 0:Value)],[(.int .u32 0:Value)],vc vzero] [dc x.dot,[(.int .u8 x.kind:Value)],[(I7 x.cart:Value)],[(I7 x.item:Value)],[(I7 x.qty:Value)],[(.int .u32 0:Value)],vc vzero] Qqy rfl (rfl) rfl rfl (Qaa (QcC (V:=.agg (oc (⟨x.dot,x.kind,x.cart,x.item,x.qty,0,vzero⟩:Opn)).toArray) (vs:=oc (⟨x.dot,x.kind,x.cart,x.item,x.qty,0,vzero⟩:Opn)) (cs':=oc (⟨x.dot,x.kind,x.cart,x.item,x.qty,0,vzero⟩:Opn)) Qa0.1 hs 1 rfl rfl rfl rfl rfl (QQ8 rfl) (Qfs _) (Qaw rfl) fun w5 hs=>(Qae (Qas ?_))))))))))))))))))))))))))))))))))
 refine ⟨_,Qcx (cs:=oc (⟨x.dot,x.kind,x.cart,x.item,x.qty,0,vzero⟩:Opn)) Tryz.results32 Qa0 hs 1 rfl rfl rfl,?_⟩
 refine ⟨congrArg Ending.returned ?_,hs.take 0⟩
 rfl
theorem Qmw (w:World) (x:Cen) (o:Opn) (bx:Nat) (hx:Qc8 x.dot) (hc:QcL w bx (oc o)):Calls Tryz.prog 30 #[.agg (cec x).toArray,.pointer (some ⟨bx,0,none⟩)] w (fun e w'=>e = .returned (.bool (Qay o (QaS x)))∧Own w no w' []):=by
 refine Qai (n:=8) Tryz.func30 rfl Tryz.ntmps30 rfl ?_
 have hs:=Own.start w
 refine Qag (Qab (Qaa (Qa9 (V:=.agg (cec x).toArray) (cs:=cec x) rfl rfl hs fun b1 w2 hs=>(Qaa (Qad (V:=.bool false) rfl (Qae (Qag (QaC HM [some 4,some 5,some 6,some 7,some 3] [] [0,0,2,7,15] [pv (.agg (oc o).toArray),pv (.agg (cec x).toArray),pv (.agg (oc (QaS x)).toArray),pv (.bool (Qay o (QaS x))),pv (.bool (Qay o (QaS x)))] (fun _ _=>_) [4] (by kernel_rfl) hs ⟨?_,?_,?_,?_,?_,trivial⟩ ?_))))))))
 ·exact ob [] [] rfl rfl fun D ρ w hs=>Qph (vs:=oc o) Qa0 (hc.own' hs) rfl rfl rfl ⟨rfl,hs⟩
 ·exact ob [] [] rfl rfl fun D ρ w hs=>QaR (cs:=cec x) QaA hs 0 rfl rfl rfl ⟨rfl,hs⟩
 ·exact ob [1] [] rfl rfl fun D ρ w hs=>Qar (vs:=[.agg (cec x).toArray]) (V:=.agg (oc (QaS x)).toArray) Quf rfl rfl (QpN _ x) hs fun _ hs=>⟨rfl,hs⟩
 ·exact ob [0,2] [] rfl rfl fun D ρ w hs=>Qar (vs:=[.agg (oc o).toArray,.agg (oc (QaS x)).toArray]) (V:=.bool (Qay o (QaS x))) QrX rfl rfl (Qja _ o (QaS x) hx) hs fun _ hs=>⟨rfl,hs⟩
 ·exact ob [3] [] rfl rfl fun D ρ w hs=>Qad (V:=.bool (Qay o (QaS x))) rfl ⟨rfl,hs⟩
 rintro ρ1 w5 ρ2 hρ hs
 replace hρ:ρ2=upd (mix [4,5,6,7,3] ρ1 _) 3 (.bool (Qay o (QaS x))):=hρ
 subst hρ
 refine Qas ?_
 refine ⟨_,Qao (V:=.bool (Qay o (QaS x))) Tryz.results30 rfl,?_⟩
 refine ⟨congrArg Ending.returned ?_,hs.take 0⟩
 rfl
end Tt
end Go.Proofs
namespace Go.Proofs
open Go Go.Vx Go.RowKit
namespace Tt
theorem Qnc (w:World) (a:Option Addr) (c:Nat) (l:List Cen) (g:Nat) (caps:List Value) (hg:En Tryz.prog g) (p:Cen→Bool) (hp:∀ (w1:World) (L1:List Res),Own w no w1 L1→∀ x∈l,Calls Tryz.prog g ([(.agg (cec x).toArray:Value)]++caps).toArray w1 (fun e w'=>e = .returned (.bool (p x))∧Own w1 no w' [])) (hr:Rd w (.slice a l.length c) 7 (l.map cec)):Calls Tryz.prog 72 #[.slice a l.length c,.func (.func g) #[] caps.toArray] w (fun e w'=>e = .returned (.int .i64 (Qig p l))∧Own w no w' []):=by
 refine Qai (n:=19) Tryz.func72 rfl Tryz.ntmps72 rfl ?_
 have hs:=Own.start w
 have hn:=hr.sml
 refine Qag (Qab (Qaa (Qad (V:=I6 0) rfl (Qae (Qag (Qag (Qab (Qaa (Qac (V:=.slice a l.length c) rfl (Qaa (QaX (n:=l.length) Qbm (Rd.own' hr hs) (by simp) rfl (Qaa (Qac (V:=I6 0) rfl (Qae (Qak (Qax (fun ρ μ ρ' w'=>∃ (ρo:Env) (k:Nat),ρ'=upd (mix [4,5,8,9,10,11,12,13,14,15,16,17,18] ρo ρ) 8 (I6 (k:Int))∧(k≤l.length)∧(∀ j:Nat,j<k→p (gd l j)=false)∧μ=l.length-k∧Own w no w' []) ?_ ?_))))))))))))))))
 ·exact ⟨_,_,0,Qah (Qam (ds:=[4,5,8,9,10,11,12,13,14,15,16,17,18]) (Agr.refl _ _)) rfl,(by omega),(fun j hj=>absurd hj (Nat.not_lt_zero j)),rfl,hs⟩
 ·rintro μ ρ' w1 ⟨ρo,k,rfl,hk,hno,rfl,hs⟩
  refine Qag (Qab (Qaa (QaP rfl rfl (Qae (Qag (Qal (t:=decide ((k:Int)<((l.length:Nat):Int))) rfl (fun c2=>?_) (fun c2=>?_)))))))
  ·
   replace c2:=QQ1 c2
   refine Qan (Qag (Qak (Qag (Qab (Qaa (Qac (V:=I6 (k:Int)) rfl (Qaa (Qad (V:=I6 (k:Int)) rfl (Qae (Qag (Qab (Qaa (Qac (V:=.func (.func g) #[] caps.toArray) rfl (Qaa (Qac (V:=.slice a l.length c) rfl (Qaa (Qac (V:=I6 (k:Int)) rfl (Qaa (Qat Qbm QaA.1 (Rd.own' hr hs) rfl rfl (by omega) (by rw [QQ6];omega) (Qaa (QaZ (j:=0) (vs:=cec (gd l k)) k QaA (Rd.own' hr hs) (QaY (by omega)) rfl rfl rfl (by omega) (Qaa (Qf2 (vs:=[.agg (cec (gd l k)).toArray]) (cs:=caps) (V:=.bool (p (gd l k))) hg rfl rfl (hp _ _ hs (gd l k) (Qbq (by omega))) hs fun w3 hs=>(Qae (Qal (t:=p (gd l k)) rfl (fun c4=>?_) (fun c4=>?_))))))))))))))))))))))))))
   ·
    refine Qag (Qab (Qaa (Qac (V:=I6 (k:Int)) rfl (Qaa (Qad (V:=I6 (k:Int)) rfl (Qae (Qas ?_)))))))
    refine ⟨_,Qao (V:=I6 (k:Int)) Tryz.results72 rfl,?_⟩
    refine ⟨congrArg Ending.returned ?_,hs.take 0⟩
    exact congrArg (Value.int .i64) (QpQ (by omega) hno c4).symm
   ·
    refine Qan (Qab (Qaa (Qav (a:=(k:Int)) (b:=1) (c:=(k:Int)+1) rfl rfl (Qbh (by omega) (by omega)) (Qaa (Qac (V:=I6 ((k:Int)+1)) rfl (Qae ?_))))))
    refine ⟨_,?_,_,k+1,Qah (Qam (ds:=[4,5,8,9,10,11,12,13,14,15,16,17,18]) (by repeat (first|exact Agr.refl _ _|refine Agr.upd ?_ rfl|refine Agr.mix ?_ rfl))) rfl,(by omega),(Qdh hno c4),rfl,hs.take 0⟩
    omega
  ·
   replace c2:=QQ2 c2
   refine Qaz (Qag (Qab (Qaa (Qad (V:=I6 (-1)) rfl (Qae (Qas ?_))))))
   refine ⟨_,Qao (V:=I6 (-1)) Tryz.results72 rfl,?_⟩
   refine ⟨congrArg Ending.returned ?_,hs.take 0⟩
   exact congrArg (Value.int .i64) (Qrt fun j hj=>hno j (by omega)).symm
end Tt
end Go.Proofs
namespace Go.Proofs
open Go Go.Vx Go.RowKit
namespace Tt
theorem QnB (w:World) (S:Nat→Prop) (a:Option Addr) (c:Nat) (l:List Cen) (g:Nat) (caps:List Value) (hg:En Tryz.prog g) (p:Cen→Bool) (hp:∀ (w1:World) (L1:List Res),Own w S w1 L1→∀ x∈l,Calls Tryz.prog g ([(.agg (cec x).toArray:Value)]++caps).toArray w1 (fun e w'=>e = .returned (.bool (p x))∧Own w1 no w' [])) (hR:(row (.slice a l.length c) (l.map cec) 59 7).holds w S) (hlt:∀ b,S b→b<w.heap.size):Calls Tryz.prog 29 #[.slice a l.length c,.func (.func g) #[] caps.toArray] w (fun e w'=>∃ x:Unit,e = .returned (.slice a (l.filter fun x=>!p x).length c)∧Own w S w' [row (.slice a (l.filter fun x=>!p x).length c) ((l.filter fun x=>!p x).map cec) 59 7]∧True):=by
 refine Qai (n:=42) Tryz.func29 rfl Tryz.ntmps29 rfl ?_
 have hs:=Own.lent hR hlt
 have hn:=(hs.rd 0 rfl).sml
 have hlc:=(hs.rd 0 rfl).roomM
 refine Qag (Qab (Qaa (Qad (V:=.slice none 0 0) rfl (Qae (Qag (Qab (Qaa (Qac (V:=.slice a l.length c) rfl (Qaa (Qac (V:=.func (.func g) #[] caps.toArray) rfl (Qaa (Qar (vs:=[.slice a l.length c,.func (.func g) #[] caps.toArray]) (V:=I6 (Qig p l)) Qte rfl rfl ?hc hs fun w1 hs=>?_))))))))))))
 case hc=>exact (Qnc _ a c l g caps hg p (fun w1 L1 h=>hp w1 _ (hs.call h)) (hs.rd 0 rfl))
 refine Qaa (Qad (V:=I6 (Qig p l)) rfl (Qae (Qag (Qag ?_))))
 rcases Qnn (p:=p) (l:=l) with hk2|hk2
 ·
  obtain ⟨hf1,hfl⟩:=hk2
  refine Qab (Qaa (Qbb (V:=I6 (Qig p l)) (V':=I6 (-1)) (Qac (V:=I6 (Qig p l)) rfl ⟨rfl,rfl⟩) (congrArg (Value.int .i64) hf1) (Qaa (Qbb (V:=.bool (decide ((-1:Int) = -1))) (V':=.bool true) (QaM rfl rfl ⟨rfl,rfl⟩) (congrArg Value.bool (QQ3 rfl)) (Qae (Qc6 rfl ?_))))))
  refine Qag (Qab (Qaa (Qac (V:=.slice a l.length c) rfl (Qaa (Qad (V:=.slice a l.length c) rfl (Qae (Qas ?_)))))))
  refine ⟨_,Qao (V:=.slice a l.length c) Tryz.results29 rfl,?_⟩
  rw [hfl]
  exact ⟨(),rfl,hs.take 1,trivial⟩
 ·
  obtain ⟨k0,hf1,hk0l,hpk,hft⟩:=hk2
  refine Qab (Qaa (Qbb (V:=I6 (Qig p l)) (V':=I6 (k0:Int)) (Qac (V:=I6 (Qig p l)) rfl ⟨rfl,rfl⟩) (congrArg (Value.int .i64) hf1) (Qaa (Qbb (V:=.bool (decide ((k0:Int) = -1))) (V':=.bool false) (QaM rfl rfl ⟨rfl,rfl⟩) (congrArg Value.bool (QQ4 (by omega))) (Qae (Qb3 rfl ?_))))))
  refine Qan (Qag (Qag (Qab (Qaa (Qbb (V:=I6 (Qig p l)) (V':=I6 (k0:Int)) (Qac (V:=I6 (Qig p l)) rfl ⟨rfl,rfl⟩) (congrArg (Value.int .i64) hf1) (Qaa (Qav (a:=(k0:Int)) (b:=1) (c:=((k0+1:Nat):Int)) rfl rfl (Qaj (by omega) (by omega)) (Qaa (Qad (V:=I6 ((k0+1:Nat):Int)) rfl (Qae (Qak (Qax (fun ρ μ ρ' w'=>∃ (ρo:Env) (i:Nat) (j:Nat) (m:List Cen),ρ'=upd (upd (mix [5,6,7,16,17,18,19,20,21,22,23,24,25,26,27,28,29,30,31,32,33,34,35] ρo ρ) 5 (I6 (i:Int))) 6 (I6 (j:Int))∧(i<j)∧(j≤l.length)∧(Moved p l m i j)∧μ=l.length-j∧Own w S w' [row (.slice a l.length c) (m.map cec) 59 7]) ?_ ?_))))))))))))
  ·exact ⟨_,_,k0,k0+1,l,Qah (Qah (Qam (ds:=[5,6,7,16,17,18,19,20,21,22,23,24,25,26,27,28,29,30,31,32,33,34,35]) (Agr.refl _ _)) (congrArg (Value.int .i64) hf1)) rfl,(by omega),(by omega),(QiM hk0l hpk hft),rfl,hs⟩
  ·rintro μ ρ' w2 ⟨ρo,i,j,m,rfl,hij,hj,hmv,rfl,hs⟩
   have hml:=hmv.1
   refine Qag (Qag (Qab (Qaa (Qac (V:=I6 (j:Int)) rfl (Qaa (Qac (V:=.slice a l.length c) rfl (Qaa (QaX (n:=l.length) Qbm (hs.rd 0 rfl) (by simp [hmv.1]) rfl (Qaa (QaP rfl rfl (Qae (Qal (t:=decide ((j:Int)<((l.length:Nat):Int))) rfl (fun c3=>?_) (fun c3=>?_)))))))))))))
   ·
    replace c3:=QQ1 c3
    refine Qan (Qag (Qak (Qag (Qab (Qaa (Qac (V:=.slice a l.length c) rfl (Qaa (Qac (V:=I6 (j:Int)) rfl (Qaa (Qat Qbm QaA.1 (hs.rd 0 rfl) rfl rfl (by omega) (by rw [QQ6];omega) (Qaa (QaZ (j:=0) (vs:=cec (gd m j)) j QaA (hs.rd 0 rfl) (QaY (by omega)) rfl rfl rfl (by omega) (Qaa (QaJ (cs:=cec (⟨0,0,0,0,(⟨0,0⟩:Dot),0⟩:Cen)) Qek rfl hs fun b4 w5 hs=>(Qaa (QcC (V:=.agg (cec (gd m j)).toArray) (vs:=cec (gd m j)) (cs':=cec (gd m j)) QaA.1 hs 1 rfl rfl rfl rfl rfl (QQ8 rfl) (Qa2 _) (Qaw rfl) fun w6 hs=>(Qae (Qag (Qab (Qaa (Qac (V:=.func (.func g) #[] caps.toArray) rfl (Qaa (QaR (cs:=cec (gd m j)) QaA hs 1 rfl rfl rfl (Qaa (Qf2 (vs:=[.agg (cec (gd m j)).toArray]) (cs:=caps) (V:=.bool (p (gd m j))) hg rfl rfl (hp _ _ hs (gd m j) (by rw [hmv.2.2 _ (Nat.le_refl _)];exact Qbq (by omega))) hs fun w7 hs=>(Qaa (Qbw rfl (Qae (Qal (t:=!(p (gd m j))) rfl (fun c8=>?_) (fun c8=>?_))))))))))))))))))))))))))))))
    ·
     replace c8:=QbL c8
     refine Qag (Qab (Qaa (Qac (V:=.slice a l.length c) rfl (Qaa (Qac (V:=I6 (i:Int)) rfl (Qaa (QaR (cs:=cec (gd m j)) QaA hs 1 rfl rfl rfl (Qaa (Qat Qbm QaA.1 (hs.rd 0 rfl) rfl rfl (by omega) (by rw [QQ6];omega) (Qaa (QgR (z:=gd m j) i QaA.1 hs 0 rfl rfl rfl (by first|omega|(simp only [List.length_set];omega)) rfl rfl rfl (Qa2 _) fun w9 hs=>?_)))))))))))
     replace hs:Own w S w9 [row (.slice a l.length c) ((m.set i (gd m j)).map cec) 59 7,blk b4 (cec (gd m j)) 59]:=hs
     refine Qae (Qab (Qaa (Qac (V:=I6 (i:Int)) rfl (Qaa (Qav (a:=(i:Int)) (b:=1) (c:=((i+1:Nat):Int)) rfl rfl (Qaj (by omega) (by omega)) (Qaa (Qad (V:=I6 ((i+1:Nat):Int)) rfl (Qae (Qab (Qaa (Qac (V:=I6 (j:Int)) rfl (Qaa (Qav (a:=(j:Int)) (b:=1) (c:=((j+1:Nat):Int)) rfl rfl (Qaj (by omega) (by omega)) (Qaa (Qad (V:=I6 ((j+1:Nat):Int)) rfl (Qae ?_))))))))))))))))
     refine ⟨_,?_,_,i+1,j+1,m.set i (gd m j),Qah (Qah (Qam (ds:=[5,6,7,16,17,18,19,20,21,22,23,24,25,26,27,28,29,30,31,32,33,34,35]) (by repeat (first|exact Agr.refl _ _|refine Agr.upd ?_ rfl|refine Agr.mix ?_ rfl))) rfl) rfl,(by omega),(by omega),(Qkb hmv (by omega) (by omega) c8),rfl,hs.take 1⟩
     omega
    ·
     replace c8:=Qbr c8
     refine Qan (Qab (Qaa (Qac (V:=I6 (j:Int)) rfl (Qaa (Qav (a:=(j:Int)) (b:=1) (c:=((j+1:Nat):Int)) rfl rfl (Qaj (by omega) (by omega)) (Qaa (Qad (V:=I6 ((j+1:Nat):Int)) rfl (Qae ?_))))))))
     refine ⟨_,?_,_,i,j+1,m,Qah (Qah (Qam (ds:=[5,6,7,16,17,18,19,20,21,22,23,24,25,26,27,28,29,30,31,32,33,34,35]) (by repeat (first|exact Agr.refl _ _|refine Agr.upd ?_ rfl|refine Agr.mix ?_ rfl))) rfl) rfl,(by omega),(by omega),(Qkw hmv (by omega) c8),rfl,hs.take 1⟩
     omega
   ·
    replace c3:=QQ2 c3
    refine Qaz (Qag (Qab (Qaa (Qac (V:=.slice a l.length c) rfl (Qaa (Qac (V:=I6 (i:Int)) rfl (Qaa (QoS (l:=i) (h:=l.length) (m:=c) (n':=(m.drop i).length) QcW QaA.1 (hs.rd 0 rfl) rfl (.inr ⟨_,_,rfl,rfl⟩) (.inl ⟨rfl,rfl⟩) (.inl ⟨rfl,rfl⟩) (by omega) (by omega) (Nat.le_trans (show l.length≤m.length by omega) (Rd.roomM (hs.rd 0 rfl))) (Nat.le_refl _) (by simp only [List.length_take,List.length_drop]<;>omega) ?_))))))))
    refine Qaa (QnP Qej hs 0 rfl rfl (by rw [QQ6]<;>omega) (by simp only [QQ6,List.length_drop]<;>omega) (by intro v hv;have e:=QpO hv Qek;subst e;exact (Qa2 _)) fun w10 hs=>(Qae (Qag (Qab (Qaa (Qac (V:=.slice a l.length c) rfl (Qaa (Qac (V:=I6 (i:Int)) rfl (Qaa (QdW (l:=0) (h:=i) (n':=i) QcW QaA.1 (by omega) rfl (.inl ⟨rfl,rfl⟩) (.inr ⟨_,_,rfl,rfl⟩) (by omega) (by omega) (by omega) (Qaa (Qad (V:=.slice (sla a 0 c 7) i (c-0)) rfl (Qae (Qas ?_))))))))))))))
    refine ⟨_,Qao (V:=.slice (sla a 0 c 7) i (c-0)) Tryz.results29 rfl,?_⟩
    have he:=QlC hmv (by omega)
    have hil:i=(l.filter fun x=>!p x).length:=by rw [← he,List.length_take,hmv.1];omega
    replace hs:=hs.take 1
    simp only [List.set_cons_zero,List.take_succ_cons,List.take_zero,← List.map_take,he] at hs
    rw [← hil]
    refine ⟨(),?_,hs,trivial⟩
    rw [QfF,Nat.sub_zero]
end Tt
end Go.Proofs
namespace Go.Proofs
open Go Go.Vx Go.RowKit
namespace Tt
theorem QoM (w:World) (S:Nat→Prop) (a:Option Addr) (c:Nat) (l:List Cen) (i:Nat) (hi:i≤l.length) (x:Cen) (b:Option Addr) (c2:Nat) (hv:Rd w (.slice b 1 c2) 7 (List.map cec [x])) (hpl:Qd1 w (.slice b 1 c2)) (hnS:¬S (bkS (.slice b 1 c2))) (hvb:bkS (.slice b 1 c2)<w.heap.size) (hN:(l.length+1)*25≤140737488355328) (hR:(row (.slice a l.length c) (l.map cec) 59 7).holds w S) (hlt:∀ b,S b→b<w.heap.size):Calls Tryz.prog 36 #[.slice a l.length c,.int .i64 (i:Int),.slice b 1 c2] w (fun e w'=>∃ x':Option Addr × Nat,e = .returned (.slice x'.1 (Qdo l i x).length x'.2)∧Own w S w' [row (.slice x'.1 (Qdo l i x).length x'.2) ((Qdo l i x).map cec) 59 7]∧True):=by
 refine Qai (n:=95) Tryz.func36 rfl Tryz.ntmps36 rfl ?_
 have hs:=Own.lent hR hlt
 have hn:=(hs.rd 0 rfl).sml
 have hlc:=(hs.rd 0 rfl).roomM
 have hvo:∀ (w1:World) (L1:List Res),Own w S w1 L1→Rd w1 (.slice b 1 c2) 7 (List.map cec [x]):=fun w1 L1 h=>hv.own h hnS
 refine Qag (Qab (Qaa (Qad (V:=.slice none 0 0) rfl (Qae (Qag (Qab (Qaa (Qac (V:=.slice a l.length c) rfl (Qaa (Qac (V:=I6 (i:Int)) rfl (Qaa (QoS (l:=i) (h:=l.length) (m:=c) (n':=(l.drop i).length) QcW QaA.1 (hs.rd 0 rfl) rfl (.inr ⟨_,_,rfl,rfl⟩) (.inl ⟨rfl,rfl⟩) (.inl ⟨rfl,rfl⟩) (by omega) (by omega) (Nat.le_trans (show l.length≤l.length by omega) (Rd.roomM (hs.rd 0 rfl))) (Nat.le_refl _) (by simp only [List.length_take,List.length_drop]<;>omega) ?_))))))))))))
 refine Qae (Qag (Qab (Qaa (Qac (V:=.slice b 1 c2) rfl (Qaa (Qbb (V:=I6 (1:Int)) (V':=I6 1) (QaX (n:=1) Qbm (hvo _ _ hs) (by simp) rfl ⟨rfl,rfl⟩) rfl (Qaa (Qad (V:=I6 1) rfl (Qae (Qag (Qag (Qab (Qaa (Qac (V:=I6 1) rfl (Qaa (Qbb (V:=.bool (decide ((1:Int)=0))) (V':=.bool false) (QaM rfl rfl ⟨rfl,rfl⟩) (congrArg Value.bool (by decide)) (Qae (Qb3 rfl ?_))))))))))))))))))
 refine Qan (Qag (Qab (Qaa (Qac (V:=.slice a l.length c) rfl (Qaa (QaX (n:=l.length) Qbm (hs.rd 0 rfl) (by simp) rfl (Qaa (Qad (V:=I6 ((l.length:Nat):Int)) rfl (Qae (Qag (Qag (Qab (Qaa (Qac (V:=I6 (i:Int)) rfl (Qaa (Qac (V:=I6 ((l.length:Nat):Int)) rfl (Qaa (QaM rfl rfl (Qae (Qal (t:=decide ((i:Int)=((l.length:Nat):Int))) rfl (fun c1=>?_) (fun c1=>?_)))))))))))))))))))))
 ·
  replace c1:=QQ1 c1
  refine Qag (Qab (Qaa (Qac (V:=.slice a l.length c) rfl (Qaa (Qac (V:=.slice b 1 c2) rfl (Qaa (Qdl (ls':=(l++[x]).map cec) (n:=(l++[x]).length) Qej hs 0 rfl rfl rfl (hvo _ _ hs) (QaU Qa2 _) (by simp only [QQ6,QQ7,List.length_cons,List.length_nil];omega) (by simp) (by simp) fun a2 c2 w3 hs=>(Qaa (Qad (V:=.slice a2 ((l++[x]).length) c2) rfl (Qae (Qas ?_)))))))))))
  refine ⟨_,Qao (V:=.slice a2 ((l++[x]).length) c2) Tryz.results36 rfl,?_⟩
  have hX:l++[x]=Qdo l i x:=Qje (by omega)
  rw [hX] at hs
  exact ⟨(a2,c2),by rw [← hX],hs.only 0 rfl,trivial⟩
 ·
  replace c1:=QQ2 c1
  refine Qan (Qag (Qag (Qab (Qaa (Qac (V:=I6 ((l.length:Nat):Int)) rfl (Qaa (Qac (V:=I6 1) rfl (Qaa (Qav (a:=((l.length:Nat):Int)) (b:=1) (c:=((l.length+1:Nat):Int)) rfl rfl (Qaj (by omega) (by omega)) (Qaa (Qac (V:=.slice a l.length c) rfl (Qaa (Qo8 Qbm rfl (Qaa (Qcb rfl rfl (Qae (Qal (t:=decide ((c:Int)<((l.length+1:Nat):Int))) rfl (fun c4=>?_) (fun c4=>?_))))))))))))))))))
  ·
   replace c4:=QQ1 c4
   refine Qag (Qab (Qaa (Qac (V:=.slice a l.length c) rfl (Qaa (Qac (V:=I6 (i:Int)) rfl (Qaa (QdW (l:=0) (h:=i) (n':=i) QcW QaA.1 (by omega) rfl (.inl ⟨rfl,rfl⟩) (.inr ⟨_,_,rfl,rfl⟩) (by omega) (by omega) (by omega) (Qaa (Qac (V:=I6 ((l.length:Nat):Int)) rfl (Qaa (Qac (V:=I6 1) rfl (Qaa (Qav (a:=((l.length:Nat):Int)) (b:=1) (c:=((l.length+1:Nat):Int)) rfl rfl (Qaj (by omega) (by omega)) (Qaa (Qac (V:=I6 (i:Int)) rfl (Qaa (Qa4 (a:=((l.length+1:Nat):Int)) (b:=(i:Int)) (c:=(((l.length+1)-i:Nat):Int)) rfl rfl (Qaj (by omega) (by omega)) (Qaa (QoX (zl:=cec (⟨0,0,0,0,(⟨0,0⟩:Dot),0⟩:Cen)) (ls':=(l.take i++List.replicate ((l.length+1)-i) (⟨0,0,0,0,(⟨0,0⟩:Dot),0⟩:Cen)).map cec) Qej Qso (.inl Qek) hs (hs.rd 0 rfl) rfl rfl (by rw [QQ6];omega) (by rw [QQ6];omega) (by omega) (by omega) (QaU Qa2 _) (Qa2 _) rfl (by omega) (by simp only [List.map_append,List.map_take,List.map_replicate]) (l.take i++List.replicate ((l.length+1)-i) (⟨0,0,0,0,(⟨0,0⟩:Dot),0⟩:Cen)).length (by rw [QQ6]) fun a5 c5 w6 hs=>(Qaa (Qad (V:=.slice a5 ((l.take i++List.replicate ((l.length+1)-i) (⟨0,0,0,0,(⟨0,0⟩:Dot),0⟩:Cen)).length) c5) rfl (Qae (Qag ?_)))))))))))))))))))))))
   have hq9:(l.take i++List.replicate ((l.length+1)-i) (⟨0,0,0,0,(⟨0,0⟩:Dot),0⟩:Cen)).length=l.length+1:=by simp only [QQ7,List.length_take,List.length_replicate];omega
   have hr9:=(hs.rd 1 rfl).roomM
   refine Qab (Qaa (Qac (V:=.slice a5 ((l.take i++List.replicate ((l.length+1)-i) (⟨0,0,0,0,(⟨0,0⟩:Dot),0⟩:Cen)).length) c5) rfl (Qaa (Qac (V:=I6 (i:Int)) rfl (Qaa (QdW (l:=i) (h:=(l.take i++List.replicate ((l.length+1)-i) (⟨0,0,0,0,(⟨0,0⟩:Dot),0⟩:Cen)).length) (n':=((l.take i++List.replicate ((l.length+1)-i) (⟨0,0,0,0,(⟨0,0⟩:Dot),0⟩:Cen)).length)-i) QcW QaA.1 (by omega) rfl (.inr ⟨_,_,rfl,rfl⟩) (.inl ⟨rfl,rfl⟩) (by omega) (by omega) (by omega) (Qaa (Qac (V:=.slice b 1 c2) rfl (Qaa (Qdi (lo:=i) (ms:=[x].map cec) (ls':=((l.take i++List.replicate ((l.length+1)-i) (⟨0,0,0,0,(⟨0,0⟩:Dot),0⟩:Cen)).take i++[x]++(l.take i++List.replicate ((l.length+1)-i) (⟨0,0,0,0,(⟨0,0⟩:Dot),0⟩:Cen)).drop (i+[x].length)).map cec) (n':=((l.take i++List.replicate ((l.length+1)-i) (⟨0,0,0,0,(⟨0,0⟩:Dot),0⟩:Cen)).take i++[x]++(l.take i++List.replicate ((l.length+1)-i) (⟨0,0,0,0,(⟨0,0⟩:Dot),0⟩:Cen)).drop (i+[x].length)).length) Qej hs 1 rfl rfl rfl (by simp only [QQ6,List.length_drop,List.length_take,List.length_cons,List.length_nil,QQ7,List.length_replicate];omega) (Rd.srcs (hvo _ _ hs)) (Qbl (enc:=cec) (fun _=>rfl) _) (QaU Qa2 _) (by simp only [QQ6,List.length_drop,List.length_take,List.length_cons,List.length_nil,QQ7,List.length_replicate];omega) (by simp only [QQ6,List.length_drop,List.length_take,List.length_cons,List.length_nil,QQ7,List.length_replicate];omega) (by simp only [List.map_append,List.map_take,List.map_drop,List.map_cons,List.map_nil,QQ6,List.length_drop,List.length_take,List.length_cons,List.length_nil]) (by rw [QQ6]) fun w7 hs=>(Qae (Qag (QaC HM [some 46,some 47,some 48,some 49,some 50,some 51,some 52,some 53,some 54] [] [0,0,0,6,15,0,0,96,255] [pv (.slice a5 ((l.take i++List.replicate ((l.length+1)-i) (⟨0,0,0,0,(⟨0,0⟩:Dot),0⟩:Cen)).length) c5),pv (I6 (i:Int)),pv (I6 1),pv (I6 ((i+1:Nat):Int)),pv (.slice (sla a5 (i+1) c5 7) (((l.take i++List.replicate ((l.length+1)-i) (⟨0,0,0,0,(⟨0,0⟩:Dot),0⟩:Cen)).length)-(i+1)) (c5-(i+1))),pv (.slice a l.length c),pv (I6 (i:Int)),pv (.slice (sla a i c 7) ((l.drop i).length) (c-i)),pv (I6 (((List.map cec (l.drop i)).length:Nat):Int))] (fun D ρ=>[row (.slice a l.length c) (l.map cec) 59 7,cond (D 8) (row (.slice a5 ((((l.take i++List.replicate ((l.length+1)-i) (⟨0,0,0,0,(⟨0,0⟩:Dot),0⟩:Cen)).take i++[x]++(l.take i++List.replicate ((l.length+1)-i) (⟨0,0,0,0,(⟨0,0⟩:Dot),0⟩:Cen)).drop (i+[x].length)).take (i+1)++l.drop i++((l.take i++List.replicate ((l.length+1)-i) (⟨0,0,0,0,(⟨0,0⟩:Dot),0⟩:Cen)).take i++[x]++(l.take i++List.replicate ((l.length+1)-i) (⟨0,0,0,0,(⟨0,0⟩:Dot),0⟩:Cen)).drop (i+[x].length)).drop (i+1+(l.drop i).length)).length) c5) ((((l.take i++List.replicate ((l.length+1)-i) (⟨0,0,0,0,(⟨0,0⟩:Dot),0⟩:Cen)).take i++[x]++(l.take i++List.replicate ((l.length+1)-i) (⟨0,0,0,0,(⟨0,0⟩:Dot),0⟩:Cen)).drop (i+[x].length)).take (i+1)++l.drop i++((l.take i++List.replicate ((l.length+1)-i) (⟨0,0,0,0,(⟨0,0⟩:Dot),0⟩:Cen)).take i++[x]++(l.take i++List.replicate ((l.length+1)-i) (⟨0,0,0,0,(⟨0,0⟩:Dot),0⟩:Cen)).drop (i+[x].length)).drop (i+1+(l.drop i).length)).map cec) 59 7) (row (.slice a5 (((l.take i++List.replicate ((l.length+1)-i) (⟨0,0,0,0,(⟨0,0⟩:Dot),0⟩:Cen)).take i++[x]++(l.take i++List.replicate ((l.length+1)-i) (⟨0,0,0,0,(⟨0,0⟩:Dot),0⟩:Cen)).drop (i+[x].length)).length) c5) (((l.take i++List.replicate ((l.length+1)-i) (⟨0,0,0,0,(⟨0,0⟩:Dot),0⟩:Cen)).take i++[x]++(l.take i++List.replicate ((l.length+1)-i) (⟨0,0,0,0,(⟨0,0⟩:Dot),0⟩:Cen)).drop (i+[x].length)).map cec) 59 7)]) [] (by kernel_rfl) hs ⟨?_,?_,?_,?_,?_,?_,?_,?_,?_,trivial⟩ ?_)))))))))))))
   ·exact ob [] [] rfl rfl fun D ρ w hs=>Qac (V:=.slice a5 ((l.take i++List.replicate ((l.length+1)-i) (⟨0,0,0,0,(⟨0,0⟩:Dot),0⟩:Cen)).length) c5) rfl ⟨rfl,hs⟩
   ·exact ob [] [] rfl rfl fun D ρ w hs=>Qac (V:=I6 (i:Int)) rfl ⟨rfl,hs⟩
   ·exact ob [] [] rfl rfl fun D ρ w hs=>Qac (V:=I6 1) rfl ⟨rfl,hs⟩
   ·exact ob [1,2] [] rfl rfl fun D ρ w hs=>Qav (a:=(i:Int)) (b:=1) (c:=((i+1:Nat):Int)) rfl rfl (Qaj (by omega) (by omega)) ⟨rfl,hs⟩
   ·exact ob [0,3] [] rfl rfl fun D ρ w hs=>QdW (l:=i+1) (h:=(l.take i++List.replicate ((l.length+1)-i) (⟨0,0,0,0,(⟨0,0⟩:Dot),0⟩:Cen)).length) (n':=((l.take i++List.replicate ((l.length+1)-i) (⟨0,0,0,0,(⟨0,0⟩:Dot),0⟩:Cen)).length)-(i+1)) QcW QaA.1 (by omega) rfl (.inr ⟨_,_,rfl,rfl⟩) (.inl ⟨rfl,rfl⟩) (by omega) (by omega) (by omega) ⟨rfl,hs⟩
   ·exact ob [] [] rfl rfl fun D ρ w hs=>Qac (V:=.slice a l.length c) rfl ⟨rfl,hs⟩
   ·exact ob [] [] rfl rfl fun D ρ w hs=>Qac (V:=I6 (i:Int)) rfl ⟨rfl,hs⟩
   ·exact ob [5,6] [] rfl rfl fun D ρ w hs=>QoS (l:=i) (h:=l.length) (m:=c) (n':=(l.drop i).length) QcW QaA.1 (hs.rd 0 rfl) rfl (.inr ⟨_,_,rfl,rfl⟩) (.inl ⟨rfl,rfl⟩) (.inl ⟨rfl,rfl⟩) (by omega) (by omega) (Nat.le_trans (show l.length≤l.length by omega) (Rd.roomM (hs.rd 0 rfl))) (Nat.le_refl _) (by simp only [List.length_take,List.length_drop]<;>omega) ⟨rfl,hs⟩
   ·exact ob [4,7] [] rfl rfl fun D ρ w hs=>Qdi (lo:=i+1) (ms:=(l.drop i).map cec) (ls':=(((l.take i++List.replicate ((l.length+1)-i) (⟨0,0,0,0,(⟨0,0⟩:Dot),0⟩:Cen)).take i++[x]++(l.take i++List.replicate ((l.length+1)-i) (⟨0,0,0,0,(⟨0,0⟩:Dot),0⟩:Cen)).drop (i+[x].length)).take (i+1)++l.drop i++((l.take i++List.replicate ((l.length+1)-i) (⟨0,0,0,0,(⟨0,0⟩:Dot),0⟩:Cen)).take i++[x]++(l.take i++List.replicate ((l.length+1)-i) (⟨0,0,0,0,(⟨0,0⟩:Dot),0⟩:Cen)).drop (i+[x].length)).drop (i+1+(l.drop i).length)).map cec) (n':=(((l.take i++List.replicate ((l.length+1)-i) (⟨0,0,0,0,(⟨0,0⟩:Dot),0⟩:Cen)).take i++[x]++(l.take i++List.replicate ((l.length+1)-i) (⟨0,0,0,0,(⟨0,0⟩:Dot),0⟩:Cen)).drop (i+[x].length)).take (i+1)++l.drop i++((l.take i++List.replicate ((l.length+1)-i) (⟨0,0,0,0,(⟨0,0⟩:Dot),0⟩:Cen)).take i++[x]++(l.take i++List.replicate ((l.length+1)-i) (⟨0,0,0,0,(⟨0,0⟩:Dot),0⟩:Cen)).drop (i+[x].length)).drop (i+1+(l.drop i).length)).length) Qej hs 1 rfl rfl rfl (by simp only [QQ6,List.length_drop,List.length_take,List.length_cons,List.length_nil,QQ7,List.length_replicate];omega) (Rd.srcs (Rd.dropM (hs.rd 0 rfl) i hi _ rfl)) (Qbl (enc:=cec) (fun _=>rfl) _) (QaU Qa2 _) (by simp only [QQ6,List.length_drop,List.length_take,List.length_cons,List.length_nil,QQ7,List.length_replicate];omega) (by simp only [QQ6,List.length_drop,List.length_take,List.length_cons,List.length_nil,QQ7,List.length_replicate];omega) (by simp only [List.map_append,List.map_take,List.map_drop,List.map_cons,List.map_nil,QQ6,List.length_drop,List.length_take,List.length_cons,List.length_nil]) (by rw [QQ6]) fun _ hs=>⟨rfl,hs⟩
   rintro ρ1 w9 ρ2 hρ hs
   replace hρ:ρ2=mix [46,47,48,49,50,51,52,53,54] ρ1 _:=hρ
   replace hs:Own w S w9 [row (.slice a l.length c) (l.map cec) 59 7,row (.slice a5 ((((l.take i++List.replicate ((l.length+1)-i) (⟨0,0,0,0,(⟨0,0⟩:Dot),0⟩:Cen)).take i++[x]++(l.take i++List.replicate ((l.length+1)-i) (⟨0,0,0,0,(⟨0,0⟩:Dot),0⟩:Cen)).drop (i+[x].length)).take (i+1)++l.drop i++((l.take i++List.replicate ((l.length+1)-i) (⟨0,0,0,0,(⟨0,0⟩:Dot),0⟩:Cen)).take i++[x]++(l.take i++List.replicate ((l.length+1)-i) (⟨0,0,0,0,(⟨0,0⟩:Dot),0⟩:Cen)).drop (i+[x].length)).drop (i+1+(l.drop i).length)).length) c5) ((((l.take i++List.replicate ((l.length+1)-i) (⟨0,0,0,0,(⟨0,0⟩:Dot),0⟩:Cen)).take i++[x]++(l.take i++List.replicate ((l.length+1)-i) (⟨0,0,0,0,(⟨0,0⟩:Dot),0⟩:Cen)).drop (i+[x].length)).take (i+1)++l.drop i++((l.take i++List.replicate ((l.length+1)-i) (⟨0,0,0,0,(⟨0,0⟩:Dot),0⟩:Cen)).take i++[x]++(l.take i++List.replicate ((l.length+1)-i) (⟨0,0,0,0,(⟨0,0⟩:Dot),0⟩:Cen)).drop (i+[x].length)).drop (i+1+(l.drop i).length)).map cec) 59 7]:=hs
   subst hρ
   refine Qag (Qab (Qaa (Qac (V:=.slice a5 ((l.take i++List.replicate ((l.length+1)-i) (⟨0,0,0,0,(⟨0,0⟩:Dot),0⟩:Cen)).length) c5) rfl (Qaa (Qad (V:=.slice a5 ((l.take i++List.replicate ((l.length+1)-i) (⟨0,0,0,0,(⟨0,0⟩:Dot),0⟩:Cen)).length) c5) rfl (Qae (Qas ?_)))))))
   refine ⟨_,Qao (V:=.slice a5 ((l.take i++List.replicate ((l.length+1)-i) (⟨0,0,0,0,(⟨0,0⟩:Dot),0⟩:Cen)).length) c5) Tryz.results36 rfl,?_⟩
   have hX:((l.take i++List.replicate ((l.length+1)-i) (⟨0,0,0,0,(⟨0,0⟩:Dot),0⟩:Cen)).take i++[x]++(l.take i++List.replicate ((l.length+1)-i) (⟨0,0,0,0,(⟨0,0⟩:Dot),0⟩:Cen)).drop (i+[x].length)).take (i+1)++l.drop i++((l.take i++List.replicate ((l.length+1)-i) (⟨0,0,0,0,(⟨0,0⟩:Dot),0⟩:Cen)).take i++[x]++(l.take i++List.replicate ((l.length+1)-i) (⟨0,0,0,0,(⟨0,0⟩:Dot),0⟩:Cen)).drop (i+[x].length)).drop (i+1+(l.drop i).length)=Qdo l i x:=Qjf hi
   rw [hX] at hs
   exact ⟨(a5,c5),by rw [hq9,QfD hi],hs.only 1 rfl,trivial⟩
  ·
   replace c4:=QQ2 c4
   refine Qan (Qag (Qab (Qaa (Qac (V:=.slice a l.length c) rfl (Qaa (Qac (V:=I6 ((l.length:Nat):Int)) rfl (Qaa (Qac (V:=I6 1) rfl (Qaa (Qav (a:=((l.length:Nat):Int)) (b:=1) (c:=((l.length+1:Nat):Int)) rfl rfl (Qaj (by omega) (by omega)) (Qaa (Qbb (V:=.slice (sla a 0 c 7) (l.length+1) (c-0)) (V':=.slice a (l.length+1) c) (QdW (l:=0) (h:=l.length+1) (n':=l.length+1) QcW QaA.1 (by omega) rfl (.inl ⟨rfl,rfl⟩) (.inr ⟨_,_,rfl,rfl⟩) (by omega) (by omega) (by omega) ⟨rfl,rfl⟩) (by rw [QfF];rfl) (Qaa (Qad (V:=.slice a (l.length+1) c) rfl (Qae (Qag (Qag (Qab (Qaa (Qac (V:=.slice b 1 c2) rfl (Qaa (Qac (V:=.slice a (l.length+1) c) rfl (Qaa (Qac (V:=I6 (i:Int)) rfl (Qaa (Qac (V:=I6 1) rfl (Qaa (Qav (a:=(i:Int)) (b:=1) (c:=((i+1:Nat):Int)) rfl rfl (Qaj (by omega) (by omega)) (Qaa (QdW (l:=i+1) (h:=l.length+1) (n':=(l.length+1)-(i+1)) QcW QaA.1 (by omega) rfl (.inr ⟨_,_,rfl,rfl⟩) (.inl ⟨rfl,rfl⟩) (by omega) (by omega) (by omega) (Qaa (Qls (f:=78) (tR:=4) (lo:=i+1) Tryz.func78 (by kernel_rfl) (by kernel_rfl) (by kernel_rfl) (by kernel_rfl) QcW QaA.1 rfl hs 0 rfl (by rw [QQ6];omega) (by decide) rfl (hpl.own hs hnS) hnS hvb (by omega) rfl (Qaa (Qbw rfl (Qae (Qc6 rfl ?_))))))))))))))))))))))))))))))))))))
   refine Qag (QaC HM [some 69,some 70,some 71,some 72,some 73,some 74,some 75,some 76,some 77] [] [0,0,0,6,15,0,0,96,255] [pv (.slice a (l.length+1) c),pv (I6 (i:Int)),pv (I6 1),pv (I6 ((i+1:Nat):Int)),pv (.slice (sla a (i+1) c 7) ((l.length+1)-(i+1)) (c-(i+1))),pv (.slice a (l.length+1) c),pv (I6 (i:Int)),pv (.slice (sla a i c 7) ((l.length+1)-i) (c-i)),pv (I6 (((List.map cec (l.drop i)).length:Nat):Int))] (fun D ρ=>[cond (D 8) (row (.slice a ((l.take (i+1)++l.drop i++l.drop (i+1+(l.drop i).length)).length) c) ((l.take (i+1)++l.drop i++l.drop (i+1+(l.drop i).length)).map cec) 59 7) (row (.slice a l.length c) (l.map cec) 59 7)]) [] (by kernel_rfl) hs ⟨?_,?_,?_,?_,?_,?_,?_,?_,?_,trivial⟩ ?_)
   ·exact ob [] [] rfl rfl fun D ρ w hs=>Qac (V:=.slice a (l.length+1) c) rfl ⟨rfl,hs⟩
   ·exact ob [] [] rfl rfl fun D ρ w hs=>Qac (V:=I6 (i:Int)) rfl ⟨rfl,hs⟩
   ·exact ob [] [] rfl rfl fun D ρ w hs=>Qac (V:=I6 1) rfl ⟨rfl,hs⟩
   ·exact ob [1,2] [] rfl rfl fun D ρ w hs=>Qav (a:=(i:Int)) (b:=1) (c:=((i+1:Nat):Int)) rfl rfl (Qaj (by omega) (by omega)) ⟨rfl,hs⟩
   ·exact ob [0,3] [] rfl rfl fun D ρ w hs=>QdW (l:=i+1) (h:=l.length+1) (n':=(l.length+1)-(i+1)) QcW QaA.1 (by omega) rfl (.inr ⟨_,_,rfl,rfl⟩) (.inl ⟨rfl,rfl⟩) (by omega) (by omega) (by omega) ⟨rfl,hs⟩
   ·exact ob [] [] rfl rfl fun D ρ w hs=>Qac (V:=.slice a (l.length+1) c) rfl ⟨rfl,hs⟩
   ·exact ob [] [] rfl rfl fun D ρ w hs=>Qac (V:=I6 (i:Int)) rfl ⟨rfl,hs⟩
   ·exact ob [5,6] [] rfl rfl fun D ρ w hs=>QdW (l:=i) (h:=l.length+1) (n':=(l.length+1)-i) QcW QaA.1 (by omega) rfl (.inr ⟨_,_,rfl,rfl⟩) (.inl ⟨rfl,rfl⟩) (by omega) (by omega) (by omega) ⟨rfl,hs⟩
   ·exact ob [4,7] [] rfl rfl fun D ρ w hs=>Qdi (lo:=i+1) (ms:=(l.drop i).map cec) (ls':=(l.take (i+1)++l.drop i++l.drop (i+1+(l.drop i).length)).map cec) (n':=(l.take (i+1)++l.drop i++l.drop (i+1+(l.drop i).length)).length) Qej hs 0 rfl rfl rfl (by simp only [QQ6,List.length_drop,List.length_take,List.length_cons,List.length_nil,QQ7,List.length_replicate];omega) (Rd.srcs (Rd.dropM (hs.rd 0 rfl) i hi _ rfl)) (Qbl (enc:=cec) (fun _=>rfl) _) (QaU Qa2 _) (by simp only [QQ6,List.length_drop,List.length_take,List.length_cons,List.length_nil,QQ7,List.length_replicate];omega) (by simp only [QQ6,List.length_drop,List.length_take,List.length_cons,List.length_nil,QQ7,List.length_replicate];omega) (by simp only [List.map_append,List.map_take,List.map_drop,List.map_cons,List.map_nil,QQ6,List.length_drop,List.length_take,List.length_cons,List.length_nil]) (by rw [QQ6]) fun _ hs=>⟨rfl,hs⟩
   rintro ρ1 w11 ρ2 hρ hs
   replace hρ:ρ2=mix [69,70,71,72,73,74,75,76,77] ρ1 _:=hρ
   replace hs:Own w S w11 [row (.slice a ((l.take (i+1)++l.drop i++l.drop (i+1+(l.drop i).length)).length) c) ((l.take (i+1)++l.drop i++l.drop (i+1+(l.drop i).length)).map cec) 59 7]:=hs
   subst hρ
   refine Qag (Qab (Qaa (Qac (V:=.slice a (l.length+1) c) rfl (Qaa (Qac (V:=I6 (i:Int)) rfl (Qaa (QdW (l:=i) (h:=l.length+1) (n':=(l.length+1)-i) QcW QaA.1 (by omega) rfl (.inr ⟨_,_,rfl,rfl⟩) (.inl ⟨rfl,rfl⟩) (by omega) (by omega) (by omega) (Qaa (Qac (V:=.slice b 1 c2) rfl (Qaa (Qdi (lo:=i) (ms:=[x].map cec) (ls':=((l.take (i+1)++l.drop i++l.drop (i+1+(l.drop i).length)).take i++[x]++(l.take (i+1)++l.drop i++l.drop (i+1+(l.drop i).length)).drop (i+[x].length)).map cec) (n':=((l.take (i+1)++l.drop i++l.drop (i+1+(l.drop i).length)).take i++[x]++(l.take (i+1)++l.drop i++l.drop (i+1+(l.drop i).length)).drop (i+[x].length)).length) Qej hs 0 rfl rfl rfl (by simp only [QQ6,List.length_drop,List.length_take,List.length_cons,List.length_nil,QQ7,List.length_replicate];omega) (Rd.srcs (hvo _ _ hs)) (Qbl (enc:=cec) (fun _=>rfl) _) (QaU Qa2 _) (by simp only [QQ6,List.length_drop,List.length_take,List.length_cons,List.length_nil,QQ7,List.length_replicate];omega) (by simp only [QQ6,List.length_drop,List.length_take,List.length_cons,List.length_nil,QQ7,List.length_replicate];omega) (by simp only [List.map_append,List.map_take,List.map_drop,List.map_cons,List.map_nil,QQ6,List.length_drop,List.length_take,List.length_cons,List.length_nil]) (by rw [QQ6]) fun w12 hs=>(Qae (Qag (Qab (Qaa (Qac (V:=.slice a (l.length+1) c) rfl (Qaa (Qad (V:=.slice a (l.length+1) c) rfl (Qae (Qas ?_))))))))))))))))))))
   refine ⟨_,Qao (V:=.slice a (l.length+1) c) Tryz.results36 rfl,?_⟩
   have hX:(l.take (i+1)++l.drop i++l.drop (i+1+(l.drop i).length)).take i++[x]++(l.take (i+1)++l.drop i++l.drop (i+1+(l.drop i).length)).drop (i+[x].length)=Qdo l i x:=Qjz (by omega)
   rw [hX] at hs
   exact ⟨(a,c),by rw [QfD hi],hs.only 0 rfl,trivial⟩
end Tt
end Go.Proofs
namespace Go.Proofs
open Go Go.Vx Go.RowKit
namespace Tt
theorem QhK (w:World) (s:Sta) (a1:Option Addr) (c1:Nat) (a2:Option Addr) (c2:Nat) (o:Opn) (hO:QbH o) (hok:QcT s) (hle:s.ents.length≤1000) (hlt:s.ticks.length≤1000) (hr1:Rd w (.slice a1 s.ents.length c1) 7 (s.ents.map cec)) (hr2:Rd w (.slice a2 s.ticks.length c2) 2 (s.ticks.map lsc)):Calls Tryz.prog 7 #[.agg ((vc s.known)++[(.slice a1 s.ents.length c1:Value),(.slice a2 s.ticks.length c2:Value) ]).toArray,.agg (oc o).toArray] w (fun e w'=>∃ x:(Option Addr × Nat) × (Option Addr × Nat),e = .returned (.tuple #[.agg (vc (QaE s o).known++[(.slice x.1.1 (QaE s o).ents.length x.1.2:Value),(.slice x.2.1 (QaE s o).ticks.length x.2.2:Value)]).toArray,.int .i64 (Qcg s o)])∧Own w no w' [row (.slice x.1.1 (QaE s o).ents.length x.1.2) ((QaE s o).ents.map cec) 59 7,row (.slice x.2.1 (QaE s o).ticks.length x.2.2) ((QaE s o).ticks.map lsc) 87 2]∧True):=by
 refine Qai (n:=85) Tryz.func7 rfl Tryz.ntmps7 rfl ?_
 have hs:=Own.start w
 have ⟨hdo,_,_,_,_,_,hctx⟩:=hO
 have ⟨hv0,hE0,hT0⟩:=hok
 refine Qag (Qab (Qaa (Qa9 (V:=.agg ((vc s.known)++[(.slice a1 s.ents.length c1:Value),(.slice a2 s.ticks.length c2:Value) ]).toArray) (cs:=(vc s.known)++[(.slice a1 s.ents.length c1:Value),(.slice a2 s.ticks.length c2:Value) ]) rfl rfl hs fun b1 w2 hs=>(Qaa (Qa9 (V:=.agg (oc o).toArray) (cs:=oc o) rfl rfl hs fun b3 w4 hs=>(Qaa (QaJ (cs:=(vc vzero)++[(.slice none 0 0:Value),(.slice none 0 0:Value) ]) Qfw rfl hs fun b5 w6 hs=>(Qaa (Qad (V:=I6 0) rfl (Qae (Qag (Qag (Qab (Qaa (QaR (cs:=(vc s.known)++[(.slice a1 s.ents.length c1:Value),(.slice a2 s.ticks.length c2:Value) ]) Qbz hs 0 rfl rfl rfl (Qaa (Qar (vs:=[.agg ((vc s.known)++[(.slice a1 s.ents.length c1:Value),(.slice a2 s.ticks.length c2:Value) ]).toArray]) (V:=.bool (QaO s)) QiA rfl rfl ?hc hs fun w7 hs=>?_)))))))))))))))))
 case hc=>exact (Qc7 _ s a1 c1 a2 c2 hok (by omega) (by omega) (Rd.own' hr1 hs) (Rd.own' hr2 hs))
 refine Qaa (Qbw rfl (Qae (Qal (t:=!(QaO s)) rfl (fun c8=>?_) (fun c8=>?_))))
 ·
  replace c8:=QbL c8
  refine Qag (Qab (Qaa (QcH (vs:=[]) (cs:=(vc vzero)++[(.slice none 0 0:Value),(.slice none 0 0:Value) ]) [vc vzero,[(.slice none 0 0:Value)],[(.slice none 0 0:Value)]] [vc vzero,[(.slice none 0 0:Value)],[(.slice none 0 0:Value)]] QiT rfl (rfl) rfl rfl (Qaa (QcC (V:=.agg ((vc vzero)++[(.slice none 0 0:Value),(.slice none 0 0:Value) ]).toArray) (vs:=(vc vzero)++[(.slice none 0 0:Value),(.slice none 0 0:Value) ]) (cs':=(vc vzero)++[(.slice none 0 0:Value),(.slice none 0 0:Value) ]) Qbz.1 hs 2 rfl rfl rfl rfl rfl (QQ8 rfl) (QbU (QcJ _) (Qau rfl (Qau rfl Qbu))) (Qaw rfl) fun w9 hs=>?_)))))
  replace hs:Own w no w9 [blk b1 ((vc s.known)++[(.slice a1 s.ents.length c1:Value),(.slice a2 s.ticks.length c2:Value) ]) 39,blk b3 (oc o) 33,blk b5 ((vc vzero)++[(.slice none 0 0:Value),(.slice none 0 0:Value) ]) 39]:=hs
  refine Qaa (Qad (V:=I6 2) rfl (Qae (Qas ?_)))
  refine ⟨_,Qc4 (cs:=(vc vzero)++[(.slice none 0 0:Value),(.slice none 0 0:Value) ]) (V:=I6 2) Tryz.results7 Qbz hs 2 rfl rfl rfl rfl,?_⟩
  have hI:Qcg s o=2:=by unfold Qcg;rw [if_neg (by rw [c8];decide)]
  have hR:QaE s o=szero:=by unfold QaE;rw [if_neg (by rw [hI];decide)]
  rw [hI,hR]
  exact ⟨((none,0),(none,0)),rfl,((hs.take 0).more _ (QbF _ _ 59 7)).more _ (QbF _ _ 87 2),trivial⟩
 ·
  replace c8:=Qbr c8
  refine Qan (Qag (Qag (Qab (Qaa (Qaf Qc9 rfl (Qaa (QbO (vs:=vc s.known) QbT hs 0 rfl rfl rfl rfl (Qaa (QaR (cs:=oc o) Qa0 hs 1 rfl rfl rfl (Qaa (Qar (vs:=[.agg (vc s.known).toArray,.agg (oc o).toArray]) (V:=I6 (QbE s.known o)) Qts rfl rfl ?hc hs fun w10 hs=>?_)))))))))))
  case hc=>exact (QlS _ s.known o (by assumption))
  refine Qaa (Qad (V:=I6 (QbE s.known o)) rfl (Qae (Qag (Qab (Qaa (Qac (V:=I6 (QbE s.known o)) rfl (Qaa (Qcr rfl rfl (Qae (Qal (t:=!decide (QbE s.known o=0)) rfl (fun c11=>?_) (fun c11=>?_)))))))))))
  ·
   replace c11:=QbL c11
   replace c11:=QQ2 c11
   refine Qag (Qab (Qaa (QcH (vs:=[]) (cs:=(vc vzero)++[(.slice none 0 0:Value),(.slice none 0 0:Value) ]) [vc vzero,[(.slice none 0 0:Value)],[(.slice none 0 0:Value)]] [vc vzero,[(.slice none 0 0:Value)],[(.slice none 0 0:Value)]] QiT rfl (rfl) rfl rfl (Qaa (Qac (V:=I6 (QbE s.known o)) rfl (Qaa (QcC (V:=.agg ((vc vzero)++[(.slice none 0 0:Value),(.slice none 0 0:Value) ]).toArray) (vs:=(vc vzero)++[(.slice none 0 0:Value),(.slice none 0 0:Value) ]) (cs':=(vc vzero)++[(.slice none 0 0:Value),(.slice none 0 0:Value) ]) Qbz.1 hs 2 rfl rfl rfl rfl rfl (QQ8 rfl) (QbU (QcJ _) (Qau rfl (Qau rfl Qbu))) (Qaw rfl) fun w12 hs=>?_)))))))
   replace hs:Own w no w12 [blk b1 ((vc s.known)++[(.slice a1 s.ents.length c1:Value),(.slice a2 s.ticks.length c2:Value) ]) 39,blk b3 (oc o) 33,blk b5 ((vc vzero)++[(.slice none 0 0:Value),(.slice none 0 0:Value) ]) 39]:=hs
   refine Qaa (Qad (V:=I6 (QbE s.known o)) rfl (Qae (Qas ?_)))
   refine ⟨_,Qc4 (cs:=(vc vzero)++[(.slice none 0 0:Value),(.slice none 0 0:Value) ]) (V:=I6 (QbE s.known o)) Tryz.results7 Qbz hs 2 rfl rfl rfl rfl,?_⟩
   have hI:Qcg s o=QbE s.known o:=by unfold Qcg;rw [if_pos c8]
   have hR:QaE s o=szero:=by unfold QaE;rw [if_neg (by rw [hI];exact c11)]
   rw [hI,hR]
   exact ⟨((none,0),(none,0)),rfl,((hs.take 0).more _ (QbF _ _ 59 7)).more _ (QbF _ _ 87 2),trivial⟩
  ·
   replace c11:=Qbr c11
   replace c11:=QQ1 c11
   refine Qan (Qag (Qab (Qaa (QaR (cs:=(vc s.known)++[(.slice a1 s.ents.length c1:Value),(.slice a2 s.ticks.length c2:Value) ]) Qbz hs 0 rfl rfl rfl (Qaa (Qby (α:=(Option Addr × Nat) × (Option Addr × Nat)) (vs:=[.agg ((vc s.known)++[(.slice a1 s.ents.length c1:Value),(.slice a2 s.ticks.length c2:Value) ]).toArray]) Qt6 rfl rfl (QpV _ s a1 c1 a2 c2 hok (by omega) (by omega) (Rd.own' hr1 hs) (Rd.own' hr2 hs)) hs fun x13 w14 hs _=>?_))))))
   replace hs:Own w no w14 [blk b1 ((vc s.known)++[(.slice a1 s.ents.length c1:Value),(.slice a2 s.ticks.length c2:Value) ]) 39,blk b3 (oc o) 33,blk b5 ((vc vzero)++[(.slice none 0 0:Value),(.slice none 0 0:Value) ]) 39,row (.slice x13.1.1 s.ents.length x13.1.2) (s.ents.map cec) 59 7,row (.slice x13.2.1 s.ticks.length x13.2.2) (s.ticks.map lsc) 87 2]:=hs
   refine Qaa (QaJ (cs:=(vc vzero)++[(.slice none 0 0:Value),(.slice none 0 0:Value) ]) Qfw rfl hs fun b15 w16 hs=>(Qaa (QcC (V:=.agg ((vc s.known)++[(.slice x13.1.1 s.ents.length x13.1.2:Value),(.slice x13.2.1 s.ticks.length x13.2.2:Value) ]).toArray) (vs:=(vc s.known)++[(.slice x13.1.1 s.ents.length x13.1.2:Value),(.slice x13.2.1 s.ticks.length x13.2.2:Value) ]) (cs':=(vc s.known)++[(.slice x13.1.1 s.ents.length x13.1.2:Value),(.slice x13.2.1 s.ticks.length x13.2.2:Value) ]) Qbz.1 hs 5 rfl rfl rfl rfl rfl (QQ8 rfl) (QbU (QcJ _) (Qau rfl (Qau rfl Qbu))) (Qaw rfl) fun w17 hs=>(Qae (Qag ?_)))))
   have hrc:=QbP.1 c8
   have hrd:=QgC hO c11
   have ⟨hd0,hd1,hd2,hd3⟩:=hrd.1
   have hfd:=Qlv hrc hrd.2
   refine Qab (Qaa (Qaf Qbg rfl (Qaa (Qaf QbK rfl (Qaa (QaK (V:=.int .u8 o.dot.rep) QcF hs 1 rfl rfl rfl (Qaa (Qaf Qbg rfl (Qaa (Qaf QbN rfl (Qaa (QaK (V:=.int .u32 o.dot.seq) Qa7 hs 1 rfl rfl rfl (Qaa (Qaf Qc9 rfl (Qaa (QbZ Qd5 Qa7.1 rfl rfl (by omega) (by omega) (Qaa (Qdd (V:=.int .u32 o.dot.seq) (cs':=(vc (vset s.known o.dot.rep.toNat o.dot.seq))++[(.slice x13.1.1 s.ents.length x13.1.2:Value),(.slice x13.2.1 s.ticks.length x13.2.2:Value) ]) Qa7 hs 5 rfl rfl rfl rfl (QsT (by omega)) (QqN (by omega) (by omega)) fun w18 hs=>(Qae (Qag (Qab (Qaa (Qaf QbG rfl (Qaa (QaK (V:=.slice x13.1.1 s.ents.length x13.1.2) Qdc hs 5 rfl rfl rfl (Qaa (Qe2 (cs:=[Pt b3 0]) rfl rfl (Qaa (Qpw (α:=Unit) (vs:=[.slice x13.1.1 s.ents.length x13.1.2,.func (.func 30) #[] #[Pt b3 0]]) (V:=fun _=>.slice x13.1.1 (s.ents.filter fun x=>!(fun x=>Qay o (QaS x)) x).length x13.1.2) (R:=row (.slice x13.1.1 s.ents.length x13.1.2) (s.ents.map cec) 59 7) (R':=fun _=>row (.slice x13.1.1 (s.ents.filter fun x=>!(fun x=>Qay o (QaS x)) x).length x13.1.2) ((s.ents.filter fun x=>!(fun x=>Qay o (QaS x)) x).map cec) 59 7) (Lo:=fun _=>[]) (F:=fun _ _=>True) QtF rfl rfl hs 3 1 (by decide) rfl rfl (fun S hS hlS hSb hc=>QnB _ S x13.1.1 x13.1.2 s.ents 30 [Pt b3 0] Que (fun x=>Qay o (QaS x)) (fun w1 L1 h x hx=>Qmw w1 x o b3 (hE0 x hx).2.2.2.2.1 (hc.own h hSb)) hS hlS) fun _ w19 hs _=>?_)))))))))))))))))))))))))))))
   replace hs:Own w no w19 [blk b1 ((vc s.known)++[(.slice a1 s.ents.length c1:Value),(.slice a2 s.ticks.length c2:Value) ]) 39,blk b3 (oc o) 33,blk b5 ((vc vzero)++[(.slice none 0 0:Value),(.slice none 0 0:Value) ]) 39,row (.slice x13.1.1 ((s.ents.filter fun x=>!(fun x=>Qay o (QaS x)) x).length) x13.1.2) ((s.ents.filter fun x=>!(fun x=>Qay o (QaS x)) x).map cec) 59 7,row (.slice x13.2.1 s.ticks.length x13.2.2) (s.ticks.map lsc) 87 2,blk b15 ((vc (vset s.known o.dot.rep.toNat o.dot.seq))++[(.slice x13.1.1 s.ents.length x13.1.2:Value),(.slice x13.2.1 s.ticks.length x13.2.2:Value) ]) 39]:=hs
   refine Qaa (Qaf QbG rfl (Qaa (Qdd (V:=.slice x13.1.1 ((s.ents.filter fun x=>!(fun x=>Qay o (QaS x)) x).length) x13.1.2) (cs':=(vc (vset s.known o.dot.rep.toNat o.dot.seq))++[(.slice x13.1.1 ((s.ents.filter fun x=>!(fun x=>Qay o (QaS x)) x).length) x13.1.2:Value),(.slice x13.2.1 s.ticks.length x13.2.2:Value) ]) Qdc hs 5 rfl rfl rfl rfl (QQ8 rfl) rfl fun w20 hs=>(Qae (Qag (Qag (Qbi [some 38,some 39,some 40,some 41,some 42,some 43,some 44,some 45,some 46,some 47,some 48,some 49,some 50] [] [0,1,3,7,15,31,63,127,255,511,1023,2047,4095] [pv (Pt b3 (0+2)),pv (.int .u8 o.kind),pv (.bool (decide (o.kind=1))),pv (.bool (decide (o.kind=1))),pg ((decide (o.kind=1)) == false) (Pt b3 (0+2)),pg ((decide (o.kind=1)) == false) (.int .u8 o.kind),pg ((decide (o.kind=1)) == false) (.bool (decide (o.kind=2))),pv (.bool ((decide (o.kind=1))||(decide (o.kind=2)))),pv (.bool ((decide (o.kind=1))||(decide (o.kind=2)))),pg (((decide (o.kind=1))||(decide (o.kind=2))) == false) (Pt b3 (0+2)),pg (((decide (o.kind=1))||(decide (o.kind=2))) == false) (.int .u8 o.kind),pg (((decide (o.kind=1))||(decide (o.kind=2))) == false) (.bool (decide (o.kind=4))),pv (.bool (QaF o))] (fun _ _=>_) [12] (by kernel_rfl) hs ⟨?_,?_,?_,?_,?_,?_,?_,?_,?_,?_,?_,?_,?_,trivial⟩ ?_)))))))
   ·exact ob [] [] rfl rfl fun D ρ w hs=>Qaf Qbt rfl ⟨rfl,hs⟩
   ·exact ob [0] [] rfl rfl fun D ρ w hs=>QaK (V:=.int .u8 o.kind) QcF hs 1 rfl rfl rfl ⟨rfl,hs⟩
   ·exact ob [1] [] rfl rfl fun D ρ w hs=>QaM rfl rfl ⟨rfl,hs⟩
   ·exact ob [2] [] rfl rfl fun D ρ w hs=>Qac (V:=.bool (decide (o.kind=1))) rfl ⟨rfl,hs⟩
   ·exact obg [3] [] (decide (o.kind=1)) rfl (fun _=>rfl) rfl (fun _ _ _ _ h=>h) fun D ρ w hG hs=>Qaf Qbt rfl ⟨rfl,hs⟩
   ·exact obgy [3,4] [] [4] (decide (o.kind=1)) rfl (fun _=>rfl) rfl (fun _ _ _ _ h=>h) (fun hG=>⟨hG,trivial⟩) fun D ρ w hG hs=>QaK (V:=.int .u8 o.kind) QcF hs 1 rfl rfl rfl ⟨rfl,hs⟩
   ·exact obgy [3,5] [] [5] (decide (o.kind=1)) rfl (fun _=>rfl) rfl (fun _ _ _ _ h=>h) (fun hG=>⟨hG,trivial⟩) fun D ρ w hG hs=>QaM rfl rfl ⟨rfl,hs⟩
   ·exact ob [3,6] [] rfl rfl fun D ρ w hs=>QbS (h':=decide (o.kind=2)) rfl rfl rfl ⟨rfl,hs⟩
   ·exact ob [7] [] rfl rfl fun D ρ w hs=>Qac (V:=.bool ((decide (o.kind=1))||(decide (o.kind=2)))) rfl ⟨rfl,hs⟩
   ·exact obg [8] [] ((decide (o.kind=1))||(decide (o.kind=2))) rfl (fun _=>rfl) rfl (fun _ _ _ _ h=>h) fun D ρ w hG hs=>Qaf Qbt rfl ⟨rfl,hs⟩
   ·exact obgy [8,9] [] [9] ((decide (o.kind=1))||(decide (o.kind=2))) rfl (fun _=>rfl) rfl (fun _ _ _ _ h=>h) (fun hG=>⟨hG,trivial⟩) fun D ρ w hG hs=>QaK (V:=.int .u8 o.kind) QcF hs 1 rfl rfl rfl ⟨rfl,hs⟩
   ·exact obgy [8,10] [] [10] ((decide (o.kind=1))||(decide (o.kind=2))) rfl (fun _=>rfl) rfl (fun _ _ _ _ h=>h) (fun hG=>⟨hG,trivial⟩) fun D ρ w hG hs=>QaM rfl rfl ⟨rfl,hs⟩
   ·exact ob [8,11] [] rfl rfl fun D ρ w hs=>Qbb (V:=.bool (((decide (o.kind=1))||(decide (o.kind=2)))||(decide (o.kind=4)))) (V':=.bool (QaF o)) (QbS (h':=decide (o.kind=4)) rfl rfl rfl ⟨rfl,rfl⟩) (congrArg Value.bool (QqL o)) ⟨rfl,hs⟩
   rintro ρ1 w21 ρ2 hρ hs
   replace hρ:ρ2=upd (mix [38,39,40,41,42,43,44,45,46,47,48,49,50] ρ1 _) 50 (.bool (QaF o)):=hρ
   subst hρ
   refine Qfx (fun ρ ρ' w'=>∃ (ρo:Env) (a9:Option Addr) (c9:Nat) (L9:List Cen),ρ'=mix [8,9,10,51,52,53,54,55,56,57,58,59,60,61,62,63,64,65,66,67,68,69,70,71,72,73,74,75,76,77] ρo ρ∧(L9=(QdU s o).ents)∧Own w no w' [blk b1 ((vc s.known)++[(.slice a1 s.ents.length c1:Value),(.slice a2 s.ticks.length c2:Value) ]) 39,blk b3 (oc o) 33,blk b5 ((vc vzero)++[(.slice none 0 0:Value),(.slice none 0 0:Value) ]) 39,row (.slice a9 L9.length c9) (L9.map cec) 59 7,row (.slice x13.2.1 s.ticks.length x13.2.2) (s.ticks.map lsc) 87 2,blk b15 ((vc (vset s.known o.dot.rep.toNat o.dot.seq))++[(.slice a9 L9.length c9:Value),(.slice x13.2.1 s.ticks.length x13.2.2:Value) ]) 39]) ?_ ?_
   ·
    refine Qal (t:=QaF o) rfl (fun c22=>?_) (fun c22=>?_)
    ·
     refine Qag ?_
     replace hs:=hs.more emp trivial
     refine QaC HM [some 51,some 52,some 53,some 54,some 55,some 56,some 57,some 58,some 59,some 60,some 61,some 62,some 63,some 8,none] [[],[],[],[],[],[],[],[],[],[],[],[],[],[8]] [0,1,0,4,0,16,0,64,0,256,0,1024,4095,0,16383] [pv (Pt b3 (0+3)),pv (I7 o.cart),pv (Pt b3 (0+4)),pv (I7 o.item),pv (Pt b3 (0+5)),pv (I7 o.qty),pv (Pt b3 (0+2)),pv (.int .u8 o.kind),pv (Pt b3 (0+0)),pv (.agg (dc o.dot).toArray),pv (.agg (oc o).toArray),pv (.int .u64 (Qa6 o)),pv (.agg (cec (⟨o.cart,o.item,o.qty,o.kind,o.dot,Qa6 o⟩:Cen)).toArray),(true,fun ρ=>.pointer (some ⟨(bOf (ρ 8)),0,none⟩)),pn] (fun D ρ=>[blk b1 ((vc s.known)++[(.slice a1 s.ents.length c1:Value),(.slice a2 s.ticks.length c2:Value) ]) 39,blk b3 (oc o) 33,blk b5 ((vc vzero)++[(.slice none 0 0:Value),(.slice none 0 0:Value) ]) 39,row (.slice x13.1.1 ((s.ents.filter fun x=>!(fun x=>Qay o (QaS x)) x).length) x13.1.2) ((s.ents.filter fun x=>!(fun x=>Qay o (QaS x)) x).map cec) 59 7,row (.slice x13.2.1 s.ticks.length x13.2.2) (s.ticks.map lsc) 87 2,blk b15 ((vc (vset s.known o.dot.rep.toNat o.dot.seq))++[(.slice x13.1.1 ((s.ents.filter fun x=>!(fun x=>Qay o (QaS x)) x).length) x13.1.2:Value),(.slice x13.2.1 s.ticks.length x13.2.2:Value) ]) 39,cond (D 14) (blk (bOf (ρ 8)) (cec (⟨o.cart,o.item,o.qty,o.kind,o.dot,Qa6 o⟩:Cen)) 59) (cond (D 13) (blk (bOf (ρ 8)) (cec (⟨0,0,0,0,(⟨0,0⟩:Dot),0⟩:Cen)) 59) (emp))]) [13] (by kernel_rfl) hs ⟨?_,?_,?_,?_,?_,?_,?_,?_,?_,?_,?_,?_,?_,?_,?_,trivial⟩ ?_
     ·exact ob [] [] rfl rfl fun D ρ w hs=>Qaf QcS rfl ⟨rfl,hs⟩
     ·exact ob [0] [] rfl rfl fun D ρ w hs=>QaK (V:=I7 o.cart) Qap hs 1 rfl rfl rfl ⟨rfl,hs⟩
     ·exact ob [] [] rfl rfl fun D ρ w hs=>Qaf Qcc rfl ⟨rfl,hs⟩
     ·exact ob [2] [] rfl rfl fun D ρ w hs=>QaK (V:=I7 o.item) Qap hs 1 rfl rfl rfl ⟨rfl,hs⟩
     ·exact ob [] [] rfl rfl fun D ρ w hs=>Qaf Qcu rfl ⟨rfl,hs⟩
     ·exact ob [4] [] rfl rfl fun D ρ w hs=>QaK (V:=I7 o.qty) Qap hs 1 rfl rfl rfl ⟨rfl,hs⟩
     ·exact ob [] [] rfl rfl fun D ρ w hs=>Qaf Qbt rfl ⟨rfl,hs⟩
     ·exact ob [6] [] rfl rfl fun D ρ w hs=>QaK (V:=.int .u8 o.kind) QcF hs 1 rfl rfl rfl ⟨rfl,hs⟩
     ·exact ob [] [] rfl rfl fun D ρ w hs=>Qaf Qbg rfl ⟨rfl,hs⟩
     ·exact ob [8] [] rfl rfl fun D ρ w hs=>QbO (vs:=dc o.dot) Qcv hs 1 rfl rfl rfl rfl ⟨rfl,hs⟩
     ·exact ob [] [] rfl rfl fun D ρ w hs=>QaR (cs:=oc o) Qa0 hs 1 rfl rfl rfl ⟨rfl,hs⟩
     ·exact ob [10] [] rfl rfl fun D ρ w hs=>Qar (vs:=[.agg (oc o).toArray]) (V:=.int .u64 (Qa6 o)) QpL rfl rfl (Qf5 _ o (by assumption)) hs fun _ hs=>⟨rfl,hs⟩
     ·exact ob [1,3,5,7,9,11] [] rfl rfl fun D ρ w hs=>Qcy (vs:=[(0,I7 o.cart),(1,I7 o.item),(2,I7 o.qty),(3,.int .u8 o.kind),(4,.agg (dc o.dot).toArray),(5,.int .u64 (Qa6 o))]) (cs:=cec (⟨o.cart,o.item,o.qty,o.kind,o.dot,Qa6 o⟩:Cen)) QtK (rfl) rfl ⟨rfl,hs⟩
     ·exact ob [] [14] rfl rfl fun D ρ w hs=>QaJ (cs:=cec (⟨0,0,0,0,(⟨0,0⟩:Dot),0⟩:Cen)) Qek rfl hs fun _ _ hs=>⟨rfl,hs.put 6 (QQ8 rfl)⟩
     ·exact ob [12,13] [] rfl rfl fun D ρ w hs=>QcC (V:=.agg (cec (⟨o.cart,o.item,o.qty,o.kind,o.dot,Qa6 o⟩:Cen)).toArray) (vs:=cec (⟨o.cart,o.item,o.qty,o.kind,o.dot,Qa6 o⟩:Cen)) (cs':=cec (⟨o.cart,o.item,o.qty,o.kind,o.dot,Qa6 o⟩:Cen)) QaA.1 hs 6 rfl rfl rfl rfl rfl (QQ8 rfl) (Qa2 _) (Qaw rfl) fun _ hs=>⟨trivial,hs⟩
     rintro ρ1 w26 ρ2 hρ hs
     replace hρ:ρ2=upd (mix [51,52,53,54,55,56,57,58,59,60,61,62,63,8] ρ1 _) 8 (.pointer (some ⟨(bOf (ρ1 8)),0,none⟩)):=hρ
     replace hs:Own w no w26 [blk b1 ((vc s.known)++[(.slice a1 s.ents.length c1:Value),(.slice a2 s.ticks.length c2:Value) ]) 39,blk b3 (oc o) 33,blk b5 ((vc vzero)++[(.slice none 0 0:Value),(.slice none 0 0:Value) ]) 39,row (.slice x13.1.1 ((s.ents.filter fun x=>!(fun x=>Qay o (QaS x)) x).length) x13.1.2) ((s.ents.filter fun x=>!(fun x=>Qay o (QaS x)) x).map cec) 59 7,row (.slice x13.2.1 s.ticks.length x13.2.2) (s.ticks.map lsc) 87 2,blk b15 ((vc (vset s.known o.dot.rep.toNat o.dot.seq))++[(.slice x13.1.1 ((s.ents.filter fun x=>!(fun x=>Qay o (QaS x)) x).length) x13.1.2:Value),(.slice x13.2.1 s.ticks.length x13.2.2:Value) ]) 39,blk (bOf (ρ1 8)) (cec (⟨o.cart,o.item,o.qty,o.kind,o.dot,Qa6 o⟩:Cen)) 59]:=hs
     generalize (bOf (ρ1 8))=b27 at hρ hs
     subst hρ
     refine Qag ?_
     have hfl:=List.length_filter_le (fun x=>!(fun x=>Qay o (QaS x)) x) s.ents
     refine Qab (Qaa (Qaf QbG rfl (Qaa (QaK (V:=.slice x13.1.1 ((s.ents.filter fun x=>!(fun x=>Qay o (QaS x)) x).length) x13.1.2) Qdc hs 5 rfl rfl rfl (Qaa (QaR (cs:=cec (⟨o.cart,o.item,o.qty,o.kind,o.dot,Qa6 o⟩:Cen)) QaA hs 6 rfl rfl rfl (Qaa (QdD (vs:=[.slice x13.1.1 ((s.ents.filter fun x=>!(fun x=>Qay o (QaS x)) x).length) x13.1.2,.agg (cec (⟨o.cart,o.item,o.qty,o.kind,o.dot,Qa6 o⟩:Cen)).toArray,.func (.func 35) #[] #[]]) (V:=.tuple #[I6 ((Qci (fun x=>decide ((fun x:Cen=>QbM x (⟨o.cart,o.item,o.qty,o.kind,o.dot,Qa6 o⟩:Cen)) x<0)) (s.ents.filter fun x=>!(fun x=>Qay o (QaS x)) x):Nat):Int),.bool (decide (Qci (fun x=>decide ((fun x:Cen=>QbM x (⟨o.cart,o.item,o.qty,o.kind,o.dot,Qa6 o⟩:Cen)) x<0)) (s.ents.filter fun x=>!(fun x=>Qay o (QaS x)) x)<(s.ents.filter fun x=>!(fun x=>Qay o (QaS x)) x).length)&&decide ((fun x:Cen=>QbM x (⟨o.cart,o.item,o.qty,o.kind,o.dot,Qa6 o⟩:Cen)) (gd (s.ents.filter fun x=>!(fun x=>Qay o (QaS x)) x) (Qci (fun x=>decide ((fun x:Cen=>QbM x (⟨o.cart,o.item,o.qty,o.kind,o.dot,Qa6 o⟩:Cen)) x<0)) (s.ents.filter fun x=>!(fun x=>Qay o (QaS x)) x)))=0))]) (V':=.tuple #[I6 ((Qci (QeC (⟨o.cart,o.item,o.qty,o.kind,o.dot,Qa6 o⟩:Cen)) (s.ents.filter fun x=>!(fun x=>Qay o (QaS x)) x):Nat):Int),.bool (decide (Qci (QeC (⟨o.cart,o.item,o.qty,o.kind,o.dot,Qa6 o⟩:Cen)) (s.ents.filter fun x=>!(fun x=>Qay o (QaS x)) x)<(s.ents.filter fun x=>!(fun x=>Qay o (QaS x)) x).length)&&decide (QbM (gd (s.ents.filter fun x=>!(fun x=>Qay o (QaS x)) x) (Qci (QeC (⟨o.cart,o.item,o.qty,o.kind,o.dot,Qa6 o⟩:Cen)) (s.ents.filter fun x=>!(fun x=>Qay o (QaS x)) x))) (⟨o.cart,o.item,o.qty,o.kind,o.dot,Qa6 o⟩:Cen)=0))]) rfl Quo rfl rfl (Qnq _ x13.1.1 x13.1.2 (s.ents.filter fun x=>!(fun x=>Qay o (QaS x)) x) (⟨o.cart,o.item,o.qty,o.kind,o.dot,Qa6 o⟩:Cen) (by omega) 35 Qsa (fun x:Cen=>QbM x (⟨o.cart,o.item,o.qty,o.kind,o.dot,Qa6 o⟩:Cen)) (fun w x=>place_ok w x (⟨o.cart,o.item,o.qty,o.kind,o.dot,Qa6 o⟩:Cen)) (Qms (List.Pairwise.sublist List.filter_sublist hrc.re) (⟨o.cart,o.item,o.qty,o.kind,o.dot,Qa6 o⟩:Cen)) (hs.rd 3 rfl)) hs fun w28 hs=>(Qaa (Qac (V:=.tuple #[I6 ((Qci (QeC (⟨o.cart,o.item,o.qty,o.kind,o.dot,Qa6 o⟩:Cen)) (s.ents.filter fun x=>!(fun x=>Qay o (QaS x)) x):Nat):Int),.bool (decide (Qci (QeC (⟨o.cart,o.item,o.qty,o.kind,o.dot,Qa6 o⟩:Cen)) (s.ents.filter fun x=>!(fun x=>Qay o (QaS x)) x)<(s.ents.filter fun x=>!(fun x=>Qay o (QaS x)) x).length)&&decide (QbM (gd (s.ents.filter fun x=>!(fun x=>Qay o (QaS x)) x) (Qci (QeC (⟨o.cart,o.item,o.qty,o.kind,o.dot,Qa6 o⟩:Cen)) (s.ents.filter fun x=>!(fun x=>Qay o (QaS x)) x))) (⟨o.cart,o.item,o.qty,o.kind,o.dot,Qa6 o⟩:Cen)=0))]) rfl (Qaa (QaB (V:=I6 ((Qci (QeC (⟨o.cart,o.item,o.qty,o.kind,o.dot,Qa6 o⟩:Cen)) (s.ents.filter fun x=>!(fun x=>Qay o (QaS x)) x):Nat):Int)) rfl rfl (Qaa (QaB (V:=.bool (decide (Qci (QeC (⟨o.cart,o.item,o.qty,o.kind,o.dot,Qa6 o⟩:Cen)) (s.ents.filter fun x=>!(fun x=>Qay o (QaS x)) x)<(s.ents.filter fun x=>!(fun x=>Qay o (QaS x)) x).length)&&decide (QbM (gd (s.ents.filter fun x=>!(fun x=>Qay o (QaS x)) x) (Qci (QeC (⟨o.cart,o.item,o.qty,o.kind,o.dot,Qa6 o⟩:Cen)) (s.ents.filter fun x=>!(fun x=>Qay o (QaS x)) x))) (⟨o.cart,o.item,o.qty,o.kind,o.dot,Qa6 o⟩:Cen)=0))) rfl rfl (Qaa (Qad (V:=I6 ((Qci (QeC (⟨o.cart,o.item,o.qty,o.kind,o.dot,Qa6 o⟩:Cen)) (s.ents.filter fun x=>!(fun x=>Qay o (QaS x)) x):Nat):Int)) rfl (Qaa (Qad (V:=.bool (decide (Qci (QeC (⟨o.cart,o.item,o.qty,o.kind,o.dot,Qa6 o⟩:Cen)) (s.ents.filter fun x=>!(fun x=>Qay o (QaS x)) x)<(s.ents.filter fun x=>!(fun x=>Qay o (QaS x)) x).length)&&decide (QbM (gd (s.ents.filter fun x=>!(fun x=>Qay o (QaS x)) x) (Qci (QeC (⟨o.cart,o.item,o.qty,o.kind,o.dot,Qa6 o⟩:Cen)) (s.ents.filter fun x=>!(fun x=>Qay o (QaS x)) x))) (⟨o.cart,o.item,o.qty,o.kind,o.dot,Qa6 o⟩:Cen)=0))) rfl (Qae ?_)))))))))))))))))))
     have hpe:=QfJ (f:=QeC (⟨o.cart,o.item,o.qty,o.kind,o.dot,Qa6 o⟩:Cen)) (l:=s.ents.filter fun x=>!(fun x=>Qay o (QaS x)) x)
     refine Qab (Qaa (Qaf QbG rfl (Qaa (QaK (V:=.slice x13.1.1 ((s.ents.filter fun x=>!(fun x=>Qay o (QaS x)) x).length) x13.1.2) Qdc hs 5 rfl rfl rfl (Qaa (Qac (V:=I6 ((Qci (QeC (⟨o.cart,o.item,o.qty,o.kind,o.dot,Qa6 o⟩:Cen)) (s.ents.filter fun x=>!(fun x=>Qay o (QaS x)) x):Nat):Int)) rfl (Qaa (QaR (cs:=cec (⟨o.cart,o.item,o.qty,o.kind,o.dot,Qa6 o⟩:Cen)) QaA hs 6 rfl rfl rfl (Qaa (QhD (vals:=[.agg (cec (⟨o.cart,o.item,o.qty,o.kind,o.dot,Qa6 o⟩:Cen)).toArray]) (ls:=List.map cec ([(⟨o.cart,o.item,o.qty,o.kind,o.dot,Qa6 o⟩:Cen)]:List Cen)) Qej rfl rfl rfl (Qbl (enc:=cec) (fun _=>rfl) _) (QaU Qa2 _) (QQ8 rfl) hs fun b29 w30 hs=>(Qaa (Ql0 (α:=Option Addr × Nat) (vs:=[.slice x13.1.1 ((s.ents.filter fun x=>!(fun x=>Qay o (QaS x)) x).length) x13.1.2,I6 ((Qci (QeC (⟨o.cart,o.item,o.qty,o.kind,o.dot,Qa6 o⟩:Cen)) (s.ents.filter fun x=>!(fun x=>Qay o (QaS x)) x):Nat):Int),.slice (some ⟨b29,0,none⟩) 1 1]) (V:=fun x=>.slice x.1 (Qdo (s.ents.filter fun x=>!(fun x=>Qay o (QaS x)) x) (Qci (QeC (⟨o.cart,o.item,o.qty,o.kind,o.dot,Qa6 o⟩:Cen)) (s.ents.filter fun x=>!(fun x=>Qay o (QaS x)) x)) (⟨o.cart,o.item,o.qty,o.kind,o.dot,Qa6 o⟩:Cen)).length x.2) (R:=row (.slice x13.1.1 ((s.ents.filter fun x=>!(fun x=>Qay o (QaS x)) x).length) x13.1.2) ((s.ents.filter fun x=>!(fun x=>Qay o (QaS x)) x).map cec) 59 7) (R':=fun x=>row (.slice x.1 (Qdo (s.ents.filter fun x=>!(fun x=>Qay o (QaS x)) x) (Qci (QeC (⟨o.cart,o.item,o.qty,o.kind,o.dot,Qa6 o⟩:Cen)) (s.ents.filter fun x=>!(fun x=>Qay o (QaS x)) x)) (⟨o.cart,o.item,o.qty,o.kind,o.dot,Qa6 o⟩:Cen)).length x.2) ((Qdo (s.ents.filter fun x=>!(fun x=>Qay o (QaS x)) x) (Qci (QeC (⟨o.cart,o.item,o.qty,o.kind,o.dot,Qa6 o⟩:Cen)) (s.ents.filter fun x=>!(fun x=>Qay o (QaS x)) x)) (⟨o.cart,o.item,o.qty,o.kind,o.dot,Qa6 o⟩:Cen)).map cec) 59 7) (Lo:=fun _=>[]) (F:=fun _ _=>True) Qtr rfl rfl hs 3 7 (by decide) rfl rfl (QQ8 rfl) (fun S hS hlt hnS hpl9=>QoM _ S x13.1.1 x13.1.2 (s.ents.filter fun x=>!(fun x=>Qay o (QaS x)) x) (Qci (QeC (⟨o.cart,o.item,o.qty,o.kind,o.dot,Qa6 o⟩:Cen)) (s.ents.filter fun x=>!(fun x=>Qay o (QaS x)) x)) hpe (⟨o.cart,o.item,o.qty,o.kind,o.dot,Qa6 o⟩:Cen) (some ⟨b29,0,none⟩) 1 (hs.rd 7 rfl) hpl9 hnS hpl9.lt (by omega) hS hlt) fun x32 w31 hs _=>(Qaa (Qaf QbG rfl (Qaa (Qdd (V:=.slice x32.1 ((Qdo (s.ents.filter fun x=>!(fun x=>Qay o (QaS x)) x) (Qci (QeC (⟨o.cart,o.item,o.qty,o.kind,o.dot,Qa6 o⟩:Cen)) (s.ents.filter fun x=>!(fun x=>Qay o (QaS x)) x)) (⟨o.cart,o.item,o.qty,o.kind,o.dot,Qa6 o⟩:Cen)).length) x32.2) (cs':=(vc (vset s.known o.dot.rep.toNat o.dot.seq))++[(.slice x32.1 ((Qdo (s.ents.filter fun x=>!(fun x=>Qay o (QaS x)) x) (Qci (QeC (⟨o.cart,o.item,o.qty,o.kind,o.dot,Qa6 o⟩:Cen)) (s.ents.filter fun x=>!(fun x=>Qay o (QaS x)) x)) (⟨o.cart,o.item,o.qty,o.kind,o.dot,Qa6 o⟩:Cen)).length) x32.2:Value),(.slice x13.2.1 s.ticks.length x13.2.2:Value) ]) Qdc hs 5 rfl rfl rfl rfl (QQ8 rfl) rfl fun w33 hs=>?_))))))))))))))))
     replace hs:Own w no w33 [blk b1 ((vc s.known)++[(.slice a1 s.ents.length c1:Value),(.slice a2 s.ticks.length c2:Value) ]) 39,blk b3 (oc o) 33,blk b5 ((vc vzero)++[(.slice none 0 0:Value),(.slice none 0 0:Value) ]) 39,row (.slice x32.1 ((Qdo (s.ents.filter fun x=>!(fun x=>Qay o (QaS x)) x) (Qci (QeC (⟨o.cart,o.item,o.qty,o.kind,o.dot,Qa6 o⟩:Cen)) (s.ents.filter fun x=>!(fun x=>Qay o (QaS x)) x)) (⟨o.cart,o.item,o.qty,o.kind,o.dot,Qa6 o⟩:Cen)).length) x32.2) ((Qdo (s.ents.filter fun x=>!(fun x=>Qay o (QaS x)) x) (Qci (QeC (⟨o.cart,o.item,o.qty,o.kind,o.dot,Qa6 o⟩:Cen)) (s.ents.filter fun x=>!(fun x=>Qay o (QaS x)) x)) (⟨o.cart,o.item,o.qty,o.kind,o.dot,Qa6 o⟩:Cen)).map cec) 59 7,row (.slice x13.2.1 s.ticks.length x13.2.2) (s.ticks.map lsc) 87 2,blk b15 ((vc (vset s.known o.dot.rep.toNat o.dot.seq))++[(.slice x32.1 ((Qdo (s.ents.filter fun x=>!(fun x=>Qay o (QaS x)) x) (Qci (QeC (⟨o.cart,o.item,o.qty,o.kind,o.dot,Qa6 o⟩:Cen)) (s.ents.filter fun x=>!(fun x=>Qay o (QaS x)) x)) (⟨o.cart,o.item,o.qty,o.kind,o.dot,Qa6 o⟩:Cen)).length) x32.2:Value),(.slice x13.2.1 s.ticks.length x13.2.2:Value) ]) 39,blk b27 (cec (⟨o.cart,o.item,o.qty,o.kind,o.dot,Qa6 o⟩:Cen)) 59,row (.slice (some ⟨b29,0,none⟩) 1 1) ([(⟨o.cart,o.item,o.qty,o.kind,o.dot,Qa6 o⟩:Cen)].map cec) 59 7]:=hs
     refine Qae ?_
     exact ⟨_,x32.1,x32.2,Qdo (s.ents.filter fun x=>!(fun x=>Qay o (QaS x)) x) (Qci (QeC (⟨o.cart,o.item,o.qty,o.kind,o.dot,Qa6 o⟩:Cen)) (s.ents.filter fun x=>!(fun x=>Qay o (QaS x)) x)) (⟨o.cart,o.item,o.qty,o.kind,o.dot,Qa6 o⟩:Cen),Qam (ds:=[8,9,10,51,52,53,54,55,56,57,58,59,60,61,62,63,64,65,66,67,68,69,70,71,72,73,74,75,76,77]) (by repeat (first|exact Agr.refl _ _|refine Agr.upd ?_ rfl|refine Agr.mix ?_ rfl)),(by unfold QdU;rw [if_pos c22];exact (QjM (fun hm=>hfd (QkU hm))).symm),hs.take 6⟩
    ·
     refine Qan ?_
     exact ⟨_,x13.1.1,x13.1.2,(s.ents.filter fun x=>!(fun x=>Qay o (QaS x)) x),Qam (ds:=[8,9,10,51,52,53,54,55,56,57,58,59,60,61,62,63,64,65,66,67,68,69,70,71,72,73,74,75,76,77]) (by repeat (first|exact Agr.refl _ _|refine Agr.upd ?_ rfl|refine Agr.mix ?_ rfl)),(by unfold QdU;rw [if_neg (by rw [c22];decide)]),hs.take 6⟩
   ·rintro ρ' w34 ⟨ρo,a9,c9,L9,rfl,hL9,hs⟩
    refine Qag (Qab (Qaa (Qaf QcS rfl (Qaa (QaK (V:=I7 o.cart) Qap hs 1 rfl rfl rfl (Qaa (Qaf Qf0 rfl (Qaa (QaK (V:=.int .u32 o.tick) Qa7 hs 1 rfl rfl rfl (Qaa (Qcy (vs:=[(0,I7 o.cart),(1,.int .u32 o.tick)]) (cs:=lsc (⟨o.cart,o.tick⟩:Lst)) QtV (rfl) rfl ?_)))))))))))
    replace hs:=hs.join 5 4 (by decide) rfl rfl
    refine Qaa (Qbn (α:=Option Addr × Nat) (vs:=[Pt b15 0,.agg (lsc (⟨o.cart,o.tick⟩:Lst)).toArray]) (V:=fun _=>.tuple #[]) (R:=star [blk b15 (vc (vset s.known o.dot.rep.toNat o.dot.seq)++[(.slice a9 L9.length c9:Value),(.slice x13.2.1 s.ticks.length x13.2.2:Value)]) 39,row (.slice x13.2.1 s.ticks.length x13.2.2) (s.ticks.map lsc) 87 2]) (R':=fun x=>star [blk b15 (vc (vset s.known o.dot.rep.toNat o.dot.seq)++[(.slice a9 L9.length c9:Value),(.slice x.1 (Qdb o.cart o.tick s.ticks).length x.2:Value)]) 39,row (.slice x.1 (Qdb o.cart o.tick s.ticks).length x.2) ((Qdb o.cart o.tick s.ticks).map lsc) 87 2]) (Lo:=fun _=>[]) (F:=fun _ _=>True) QsK rfl rfl hs 5 rfl (fun S hS hlS=>Qlx _ S b15 (vset s.known o.dot.rep.toNat o.dot.seq) (.slice a9 L9.length c9) x13.2.1 x13.2.2 s.ticks (⟨o.cart,o.tick⟩:Lst) (by omega) hrc.rt hS hlS) fun x35 w36 hs _=>?_)
    replace hs:=hs.split 5 rfl
    replace hs:=hs.put 4 (QQ8 rfl)
    refine Qae (Qag (Qab (Qaa (QaR (cs:=(vc (vset s.known o.dot.rep.toNat o.dot.seq))++[(.slice a9 L9.length c9:Value),(.slice x35.1 ((Qdb o.cart o.tick s.ticks).length) x35.2:Value) ]) Qbz hs 5 rfl rfl rfl (Qaa (QcC (V:=.agg ((vc (vset s.known o.dot.rep.toNat o.dot.seq))++[(.slice a9 L9.length c9:Value),(.slice x35.1 ((Qdb o.cart o.tick s.ticks).length) x35.2:Value) ]).toArray) (vs:=(vc (vset s.known o.dot.rep.toNat o.dot.seq))++[(.slice a9 L9.length c9:Value),(.slice x35.1 ((Qdb o.cart o.tick s.ticks).length) x35.2:Value) ]) (cs':=(vc (vset s.known o.dot.rep.toNat o.dot.seq))++[(.slice a9 L9.length c9:Value),(.slice x35.1 ((Qdb o.cart o.tick s.ticks).length) x35.2:Value) ]) Qbz.1 hs 2 rfl rfl rfl rfl rfl (QQ8 rfl) (QbU (QcJ _) (Qau rfl (Qau rfl Qbu))) (Qaw rfl) fun w37 hs=>(Qaa (Qad (V:=I6 0) rfl (Qae (Qas ?_))))))))))
    refine ⟨_,Qc4 (cs:=(vc (vset s.known o.dot.rep.toNat o.dot.seq))++[(.slice a9 L9.length c9:Value),(.slice x35.1 ((Qdb o.cart o.tick s.ticks).length) x35.2:Value) ]) (V:=I6 0) Tryz.results7 Qbz hs 2 rfl rfl rfl rfl,?_⟩
    have hI:Qcg s o=0:=by unfold Qcg;rw [if_pos c8];exact c11
    have hR:QaE s o=(⟨vset s.known o.dot.rep.toNat o.dot.seq,L9,Qdb o.cart o.tick s.ticks⟩:Sta):=by unfold QaE;rw [if_pos hI,hL9];rfl
    rw [hI,hR]
    exact ⟨((a9,c9),(x35.1,x35.2)),rfl,hs.two 3 4 (by decide) rfl rfl,trivial⟩
end Tt
end Go.Proofs
namespace Go.Proofs
open Go Go.Vx Go.RowKit
namespace Tt
theorem QqY (w:World) (a:Option Addr) (c:Nat) (l:List Opn) (hl:∀ o∈l,QbH o) (hlen:l.length≤40) (hq:Seq l) (hr:Rd w (.slice a l.length c) 23 (l.map oc)):Calls Tryz.prog 15 #[.slice a l.length c] w (fun e w'=>∃ x:(Option Addr × Nat) × (Option Addr × Nat),e = .returned (.tuple #[.agg (vc (Qaq l).known++[(.slice x.1.1 (Qaq l).ents.length x.1.2:Value),(.slice x.2.1 (Qaq l).ticks.length x.2.2:Value)]).toArray,.bool true])∧Own w no w' [row (.slice x.1.1 (Qaq l).ents.length x.1.2) ((Qaq l).ents.map cec) 59 7,row (.slice x.2.1 (Qaq l).ticks.length x.2.2) ((Qaq l).ticks.map lsc) 87 2]∧True):=by
 refine Qai (n:=27) Tryz.func15 rfl Tryz.ntmps15 rfl ?_
 have hs:=Own.start w
 have hn:=hr.sml
 refine Qag (Qab (Qaa (QaJ (cs:=(vc vzero)++[(.slice none 0 0:Value),(.slice none 0 0:Value) ]) Qfw rfl hs fun b1 w2 hs=>(Qaa (Qad (V:=.bool false) rfl (Qae (Qag (Qab (Qaa (QaJ (cs:=(vc vzero)++[(.slice none 0 0:Value),(.slice none 0 0:Value) ]) Qfw rfl hs fun b3 w4 hs=>(Qae (Qag (Qag (Qab (Qaa (Qac (V:=.slice a l.length c) rfl (Qaa (QaX (n:=l.length) Qbv (Rd.own' hr hs) (by simp) rfl (Qaa (Qac (V:=I6 0) rfl (Qae (Qak ?_))))))))))))))))))))))
 replace hs:=hs.more (row (.slice none 0 0) (List.map cec []) 59 7) (QbF _ _ _ _)
 replace hs:=hs.more (row (.slice none 0 0) (List.map lsc []) 87 2) (QbF _ _ _ _)
 refine Qax (fun ρ μ ρ' w'=>∃ (ρo:Env) (k:Nat) (s:Sta) (ae:Option Addr) (ce:Nat) (at_:Option Addr) (ct:Nat),ρ'=upd (mix [3,6,7,8,11,12,13,14,15,16,17,18,19,20,21,22,23,24,25] ρo ρ) 11 (I6 (k:Int))∧(k≤l.length)∧(s=Qaq (l.take k))∧μ=l.length-k∧Own w no w' [blk b1 ((vc vzero)++[(.slice none 0 0:Value),(.slice none 0 0:Value) ]) 39,blk b3 ((vc s.known)++[(.slice ae s.ents.length ce:Value),(.slice at_ s.ticks.length ct:Value) ]) 39,row (.slice ae s.ents.length ce) (s.ents.map cec) 59 7,row (.slice at_ s.ticks.length ct) (s.ticks.map lsc) 87 2]) ?_ ?_
 ·exact ⟨_,_,0,szero,none,0,none,0,Qah (Qam (ds:=[3,6,7,8,11,12,13,14,15,16,17,18,19,20,21,22,23,24,25]) (Agr.refl _ _)) rfl,(by omega),rfl,rfl,hs⟩
 ·rintro μ ρ' w5 ⟨ρo,k,s,ae,ce,at_,ct,rfl,hk,hsk,rfl,hs⟩
  have hao:=Qrh hq hsk
  refine Qag (Qab (Qaa (QaP rfl rfl (Qae (Qag (Qal (t:=decide ((k:Int)<((l.length:Nat):Int))) rfl (fun c6=>?_) (fun c6=>?_)))))))
  ·
   replace c6:=QQ1 c6
   refine Qan (Qag (Qak (Qag (Qab (Qaa (Qat Qbv Qa0.1 (Rd.own' hr hs) rfl rfl (by omega) (by rw [QQ6];omega) (Qaa (QaZ (j:=0) (vs:=oc (gd l k)) k Qa0 (Rd.own' hr hs) (QaY (by omega)) rfl rfl rfl (by omega) (Qaa (QaJ (cs:=oc (⟨(⟨0,0⟩:Dot),0,0,0,0,0,vzero⟩:Opn)) Qj9 rfl hs fun b7 w8 hs=>(Qaa (QcC (V:=.agg (oc (gd l k)).toArray) (vs:=oc (gd l k)) (cs':=oc (gd l k)) Qa0.1 hs 4 rfl rfl rfl rfl rfl (QQ8 rfl) (Qfs _) (Qaw rfl) fun w9 hs=>?_))))))))))))
   replace hs:Own w no w9 [blk b1 ((vc vzero)++[(.slice none 0 0:Value),(.slice none 0 0:Value) ]) 39,blk b3 ((vc s.known)++[(.slice ae s.ents.length ce:Value),(.slice at_ s.ticks.length ct:Value) ]) 39,row (.slice ae s.ents.length ce) (s.ents.map cec) 59 7,row (.slice at_ s.ticks.length ct) (s.ticks.map lsc) 87 2,blk b7 (oc (gd l k)) 33]:=hs
   refine Qae (Qag ?_)
   have han:=Qod hq hsk (by omega)
   refine Qab (Qaa (QaR (cs:=(vc s.known)++[(.slice ae s.ents.length ce:Value),(.slice at_ s.ticks.length ct:Value) ]) Qbz hs 1 rfl rfl rfl (Qaa (QaR (cs:=oc (gd l k)) Qa0 hs 4 rfl rfl rfl (Qaa (Qby (α:=(Option Addr × Nat) × (Option Addr × Nat)) (vs:=[.agg ((vc s.known)++[(.slice ae s.ents.length ce:Value),(.slice at_ s.ticks.length ct:Value) ]).toArray,.agg (oc (gd l k)).toArray]) (V:=fun x:(Option Addr × Nat) × (Option Addr × Nat)=>.tuple #[.agg (vc (QaE s (gd l k)).known++[(.slice x.1.1 ((QaE s (gd l k)).ents).length x.1.2:Value),(.slice x.2.1 ((QaE s (gd l k)).ticks).length x.2.2:Value)]).toArray,I6 (Qcg s (gd l k))]) (Lo:=fun x=>[row (.slice x.1.1 ((QaE s (gd l k)).ents).length x.1.2) (((QaE s (gd l k)).ents).map cec) 59 7,row (.slice x.2.1 ((QaE s (gd l k)).ticks).length x.2.2) (((QaE s (gd l k)).ticks).map lsc) 87 2]) (F:=fun _ _=>True) Qth rfl rfl ?hc hs fun x11 w10 hs _=>?_))))))
   case hc=>exact (QhK _ s ae ce at_ ct (gd l k) (hl _ (Qbq (by omega))) hao.1 (by omega) (by omega) (hs.rd 2 rfl) (hs.rd 3 rfl))
   refine Qaa (Qac (V:=.tuple #[.agg ((vc ((QaE s (gd l k)).known))++[(.slice x11.1.1 (((QaE s (gd l k)).ents).length) x11.1.2:Value),(.slice x11.2.1 (((QaE s (gd l k)).ticks).length) x11.2.2:Value) ]).toArray,I6 (Qcg s (gd l k))]) rfl (Qaa (QaB (V:=.agg ((vc ((QaE s (gd l k)).known))++[(.slice x11.1.1 (((QaE s (gd l k)).ents).length) x11.1.2:Value),(.slice x11.2.1 (((QaE s (gd l k)).ticks).length) x11.2.2:Value) ]).toArray) rfl rfl (Qaa (QaB (V:=I6 (Qcg s (gd l k))) rfl rfl (Qaa (QaJ (cs:=(vc vzero)++[(.slice none 0 0:Value),(.slice none 0 0:Value) ]) Qfw rfl hs fun b12 w13 hs=>(Qaa (QcC (V:=.agg ((vc ((QaE s (gd l k)).known))++[(.slice x11.1.1 (((QaE s (gd l k)).ents).length) x11.1.2:Value),(.slice x11.2.1 (((QaE s (gd l k)).ticks).length) x11.2.2:Value) ]).toArray) (vs:=(vc ((QaE s (gd l k)).known))++[(.slice x11.1.1 (((QaE s (gd l k)).ents).length) x11.1.2:Value),(.slice x11.2.1 (((QaE s (gd l k)).ticks).length) x11.2.2:Value) ]) (cs':=(vc ((QaE s (gd l k)).known))++[(.slice x11.1.1 (((QaE s (gd l k)).ents).length) x11.1.2:Value),(.slice x11.2.1 (((QaE s (gd l k)).ticks).length) x11.2.2:Value) ]) Qbz.1 hs 7 rfl rfl rfl rfl rfl (QQ8 rfl) (QbU (QcJ _) (Qau rfl (Qau rfl Qbu))) (Qaw rfl) fun w14 hs=>(Qaa (Qad (V:=I6 (Qcg s (gd l k))) rfl (Qae (Qag (Qag (Qab (Qaa (Qac (V:=I6 (Qcg s (gd l k))) rfl (Qaa (Qbb (V:=.bool (!decide (Qcg s (gd l k)=0))) (V':=.bool false) (Qcr rfl rfl ⟨rfl,rfl⟩) (congrArg Value.bool (by rw [han.1];rfl)) (Qae (Qb3 rfl ?_)))))))))))))))))))))
   refine Qan (Qab (Qaa (QaR (cs:=(vc ((QaE s (gd l k)).known))++[(.slice x11.1.1 (((QaE s (gd l k)).ents).length) x11.1.2:Value),(.slice x11.2.1 (((QaE s (gd l k)).ticks).length) x11.2.2:Value) ]) Qbz hs 7 rfl rfl rfl (Qaa (QcC (V:=.agg ((vc ((QaE s (gd l k)).known))++[(.slice x11.1.1 (((QaE s (gd l k)).ents).length) x11.1.2:Value),(.slice x11.2.1 (((QaE s (gd l k)).ticks).length) x11.2.2:Value) ]).toArray) (vs:=(vc ((QaE s (gd l k)).known))++[(.slice x11.1.1 (((QaE s (gd l k)).ents).length) x11.1.2:Value),(.slice x11.2.1 (((QaE s (gd l k)).ticks).length) x11.2.2:Value) ]) (cs':=(vc ((QaE s (gd l k)).known))++[(.slice x11.1.1 (((QaE s (gd l k)).ents).length) x11.1.2:Value),(.slice x11.2.1 (((QaE s (gd l k)).ticks).length) x11.2.2:Value) ]) Qbz.1 hs 1 rfl rfl rfl rfl rfl (QQ8 rfl) (QbU (QcJ _) (Qau rfl (Qau rfl Qbu))) (Qaw rfl) fun w15 hs=>?_)))))
   replace hs:Own w no w15 [blk b1 ((vc vzero)++[(.slice none 0 0:Value),(.slice none 0 0:Value) ]) 39,blk b3 ((vc ((QaE s (gd l k)).known))++[(.slice x11.1.1 (((QaE s (gd l k)).ents).length) x11.1.2:Value),(.slice x11.2.1 (((QaE s (gd l k)).ticks).length) x11.2.2:Value) ]) 39,row (.slice ae s.ents.length ce) (s.ents.map cec) 59 7,row (.slice at_ s.ticks.length ct) (s.ticks.map lsc) 87 2,blk b7 (oc (gd l k)) 33,row (.slice x11.1.1 (((QaE s (gd l k)).ents).length) x11.1.2) (((QaE s (gd l k)).ents).map cec) 59 7,row (.slice x11.2.1 (((QaE s (gd l k)).ticks).length) x11.2.2) (((QaE s (gd l k)).ticks).map lsc) 87 2,blk b12 ((vc ((QaE s (gd l k)).known))++[(.slice x11.1.1 (((QaE s (gd l k)).ents).length) x11.1.2:Value),(.slice x11.2.1 (((QaE s (gd l k)).ticks).length) x11.2.2:Value) ]) 39]:=hs
   refine Qae (Qab (Qaa (Qav (a:=(k:Int)) (b:=1) (c:=((k+1:Nat):Int)) rfl rfl (Qaj (by omega) (by omega)) (Qaa (Qac (V:=I6 ((k+1:Nat):Int)) rfl (Qae ?_))))))
   have ho:=hs.sel [0,1,5,6] (L':=[blk b1 ((vc vzero)++[(.slice none 0 0:Value),(.slice none 0 0:Value) ]) 39,blk b3 ((vc ((QaE s (gd l k)).known))++[(.slice x11.1.1 (((QaE s (gd l k)).ents).length) x11.1.2:Value),(.slice x11.2.1 (((QaE s (gd l k)).ticks).length) x11.2.2:Value) ]) 39,row (.slice x11.1.1 (((QaE s (gd l k)).ents).length) x11.1.2) (((QaE s (gd l k)).ents).map cec) 59 7,row (.slice x11.2.1 (((QaE s (gd l k)).ticks).length) x11.2.2) (((QaE s (gd l k)).ticks).map lsc) 87 2]) (by decide) rfl
   replace hs:=ho
   refine ⟨_,?_,_,k+1,(QaE s (gd l k)),x11.1.1,x11.1.2,x11.2.1,x11.2.2,Qah (Qam (ds:=[3,6,7,8,11,12,13,14,15,16,17,18,19,20,21,22,23,24,25]) (by repeat (first|exact Agr.refl _ _|refine Agr.upd ?_ rfl|refine Agr.mix ?_ rfl))) rfl,(by omega),han.2,rfl,hs.take 4⟩
   omega
  ·
   replace c6:=QQ2 c6
   refine Qaz (Qag (Qab (Qaa (QaR (cs:=(vc s.known)++[(.slice ae s.ents.length ce:Value),(.slice at_ s.ticks.length ct:Value) ]) Qbz hs 1 rfl rfl rfl (Qaa (QcC (V:=.agg ((vc s.known)++[(.slice ae s.ents.length ce:Value),(.slice at_ s.ticks.length ct:Value) ]).toArray) (vs:=(vc s.known)++[(.slice ae s.ents.length ce:Value),(.slice at_ s.ticks.length ct:Value) ]) (cs':=(vc s.known)++[(.slice ae s.ents.length ce:Value),(.slice at_ s.ticks.length ct:Value) ]) Qbz.1 hs 0 rfl rfl rfl rfl rfl (QQ8 rfl) (QbU (QcJ _) (Qau rfl (Qau rfl Qbu))) (Qaw rfl) fun w16 hs=>(Qaa (Qad (V:=.bool true) rfl (Qae (Qas ?_))))))))))
   refine ⟨_,Qc4 (cs:=(vc s.known)++[(.slice ae s.ents.length ce:Value),(.slice at_ s.ticks.length ct:Value) ]) (V:=.bool true) Tryz.results15 Qbz hs 0 rfl rfl rfl rfl,?_⟩
   have hX:s=Qaq l:=by rw [hsk,Qb6 (by omega)]
   rw [hX] at hs ⊢
   exact ⟨((ae,ce),(at_,ct)),rfl,hs.two 2 3 (by decide) rfl rfl,trivial⟩
end Tt
end Go.Proofs
namespace Go.Proofs
open Go Go.Vx Go.RowKit
namespace Tt
theorem Qrw (w:World) (x y:Cen):Calls Tryz.prog 92 #[.agg (cec x).toArray,.agg (cec y).toArray] w (fun e w'=>e = .returned (.int .i64 (QsN x y))∧Own w no w' []):=by
 refine Qai (n:=26) Tryz.func92 rfl Tryz.ntmps92 rfl ?_
 have hs:=Own.start w
 refine Qag (Qab (Qaa (Qa9 (V:=.agg (cec x).toArray) (cs:=cec x) rfl rfl hs fun b1 w2 hs=>(Qaa (Qa9 (V:=.agg (cec y).toArray) (cs:=cec y) rfl rfl hs fun b3 w4 hs=>(Qaa (Qad (V:=I6 0) rfl (Qae (Qag ?_)))))))))
 replace hs:=hs.more emp trivial
 refine QaC HM [some 5,some 6,some 7,some 8,some 9,some 10,some 11,some 12,some 13,some 14,some 15,some 16,some 17,some 18,some 19,some 20,some 21,some 22,some 23,some 24,some 25,some 4] [[],[],[],[],[],[],[],[],[],[],[],[],[],[],[],[],[],[],[],[24]] [0,1,0,4,15,0,32,96,0,256,768,2047,0,4096,12288,0,32768,98304,262143,524287,1048575,2097151] [pv (Pt b1 (0+6)),pv (.int .u64 x.count),pv (Pt b3 (0+6)),pv (.int .u64 y.count),pv (I6 (QaW x.count y.count)),pv (Pt b1 (0+4)),pv (Pt b1 (0+4+0)),pv (.int .u8 x.dot.rep),pv (Pt b3 (0+4)),pv (Pt b3 (0+4+0)),pv (.int .u8 y.dot.rep),pv (I6 (QaW x.dot.rep y.dot.rep)),pv (Pt b1 (0+4)),pv (Pt b1 (0+4+1)),pv (.int .u32 x.dot.seq),pv (Pt b3 (0+4)),pv (Pt b3 (0+4+1)),pv (.int .u32 y.dot.seq),pv (I6 (QaW x.dot.seq y.dot.seq)),(true,fun ρ=>.slice (some ⟨(bOf (ρ 24)),0,none⟩) 3 3),pv (I6 (orI [QaW x.count y.count,QaW x.dot.rep y.dot.rep,QaW x.dot.seq y.dot.seq])),pv (I6 (orI [QaW x.count y.count,QaW x.dot.rep y.dot.rep,QaW x.dot.seq y.dot.seq]))] (fun D ρ=>[blk b1 (cec x) 59,blk b3 (cec y) 59,cond (D 19) (row (.slice (some ⟨(bOf (ρ 24)),0,none⟩) 3 3) ([QaW x.count y.count,QaW x.dot.rep y.dot.rep,QaW x.dot.seq y.dot.seq].map (ic .i64)) 3 1) (emp)]) [21] (by kernel_rfl) hs ⟨?_,?_,?_,?_,?_,?_,?_,?_,?_,?_,?_,?_,?_,?_,?_,?_,?_,?_,?_,?_,?_,?_,trivial⟩ ?_
 ·exact ob [] [] rfl rfl fun D ρ w hs=>Qaf QfK rfl ⟨rfl,hs⟩
 ·exact ob [0] [] rfl rfl fun D ρ w hs=>QaK (V:=.int .u64 x.count) QmK hs 0 rfl rfl rfl ⟨rfl,hs⟩
 ·exact ob [] [] rfl rfl fun D ρ w hs=>Qaf QfK rfl ⟨rfl,hs⟩
 ·exact ob [2] [] rfl rfl fun D ρ w hs=>QaK (V:=.int .u64 y.count) QmK hs 1 rfl rfl rfl ⟨rfl,hs⟩
 ·exact ob [1,3] [] rfl rfl fun D ρ w hs=>Qar (vs:=[.int .u64 x.count,.int .u64 y.count]) (V:=I6 (QaW x.count y.count)) Qo5 rfl rfl (QeP _ x.count y.count) hs fun _ hs=>⟨rfl,hs⟩
 ·exact ob [] [] rfl rfl fun D ρ w hs=>Qaf QbW rfl ⟨rfl,hs⟩
 ·exact ob [5] [] rfl rfl fun D ρ w hs=>Qaf QbK rfl ⟨rfl,hs⟩
 ·exact ob [6] [] rfl rfl fun D ρ w hs=>QaK (V:=.int .u8 x.dot.rep) QcF hs 0 rfl rfl rfl ⟨rfl,hs⟩
 ·exact ob [] [] rfl rfl fun D ρ w hs=>Qaf QbW rfl ⟨rfl,hs⟩
 ·exact ob [8] [] rfl rfl fun D ρ w hs=>Qaf QbK rfl ⟨rfl,hs⟩
 ·exact ob [9] [] rfl rfl fun D ρ w hs=>QaK (V:=.int .u8 y.dot.rep) QcF hs 1 rfl rfl rfl ⟨rfl,hs⟩
 ·exact ob [7,10] [] rfl rfl fun D ρ w hs=>Qar (vs:=[.int .u8 x.dot.rep,.int .u8 y.dot.rep]) (V:=I6 (QaW x.dot.rep y.dot.rep)) Qpr rfl rfl (QdT _ x.dot.rep y.dot.rep) hs fun _ hs=>⟨rfl,hs⟩
 ·exact ob [] [] rfl rfl fun D ρ w hs=>Qaf QbW rfl ⟨rfl,hs⟩
 ·exact ob [12] [] rfl rfl fun D ρ w hs=>Qaf QbN rfl ⟨rfl,hs⟩
 ·exact ob [13] [] rfl rfl fun D ρ w hs=>QaK (V:=.int .u32 x.dot.seq) Qa7 hs 0 rfl rfl rfl ⟨rfl,hs⟩
 ·exact ob [] [] rfl rfl fun D ρ w hs=>Qaf QbW rfl ⟨rfl,hs⟩
 ·exact ob [15] [] rfl rfl fun D ρ w hs=>Qaf QbN rfl ⟨rfl,hs⟩
 ·exact ob [16] [] rfl rfl fun D ρ w hs=>QaK (V:=.int .u32 y.dot.seq) Qa7 hs 1 rfl rfl rfl ⟨rfl,hs⟩
 ·exact ob [14,17] [] rfl rfl fun D ρ w hs=>Qar (vs:=[.int .u32 x.dot.seq,.int .u32 y.dot.seq]) (V:=I6 (QaW x.dot.seq y.dot.seq)) Qqe rfl rfl (QdH _ x.dot.seq y.dot.seq) hs fun _ hs=>⟨rfl,hs⟩
 ·exact ob [4,11,18] [] rfl rfl fun D ρ w hs=>QhD (vals:=[I6 (QaW x.count y.count),I6 (QaW x.dot.rep y.dot.rep),I6 (QaW x.dot.seq y.dot.seq)]) (ls:=List.map (ic .i64) ([QaW x.count y.count,QaW x.dot.rep y.dot.rep,QaW x.dot.seq y.dot.seq]:List Int)) QlA rfl rfl rfl (Qbl (enc:=(ic .i64)) (fun _=>rfl) _) (QaU (QeL .i64) _) (QQ8 rfl) hs fun _ _ hs=>⟨rfl,hs.put 2 (QQ8 rfl)⟩
 ·exact ob [19] [] rfl rfl fun D ρ w hs=>Qar (vs:=[.slice (some ⟨(bOf (ρ 24)),0,none⟩) 3 3]) (V:=I6 (orI [QaW x.count y.count,QaW x.dot.rep y.dot.rep,QaW x.dot.seq y.dot.seq])) QpT rfl rfl (Qqk _ (some ⟨(bOf (ρ 24)),0,none⟩) 3 [QaW x.count y.count,QaW x.dot.rep y.dot.rep,QaW x.dot.seq y.dot.seq] (hs.rd 2 rfl)) hs fun _ hs=>⟨rfl,hs⟩
 ·exact ob [20] [] rfl rfl fun D ρ w hs=>Qad (V:=I6 (orI [QaW x.count y.count,QaW x.dot.rep y.dot.rep,QaW x.dot.seq y.dot.seq])) rfl ⟨rfl,hs⟩
 rintro ρ1 w10 ρ2 hρ hs
 replace hρ:ρ2=upd (mix [5,6,7,8,9,10,11,12,13,14,15,16,17,18,19,20,21,22,23,24,25,4] ρ1 _) 4 (I6 (orI [QaW x.count y.count,QaW x.dot.rep y.dot.rep,QaW x.dot.seq y.dot.seq])):=hρ
 replace hs:Own w no w10 [blk b1 (cec x) 59,blk b3 (cec y) 59,row (.slice (some ⟨(bOf (ρ1 24)),0,none⟩) 3 3) ([QaW x.count y.count,QaW x.dot.rep y.dot.rep,QaW x.dot.seq y.dot.seq].map (ic .i64)) 3 1]:=hs
 generalize (bOf (ρ1 24))=b11 at hs
 subst hρ
 refine Qas ?_
 refine ⟨_,Qao (V:=I6 (orI [QaW x.count y.count,QaW x.dot.rep y.dot.rep,QaW x.dot.seq y.dot.seq])) Tryz.results92 rfl,?_⟩
 refine ⟨congrArg Ending.returned ?_,hs.take 0⟩
 rfl
theorem QnN (w:World) (x y:Cen):Calls Tryz.prog 56 #[.agg (cec x).toArray,.agg (cec y).toArray] w (fun e w'=>e = .returned (.int .i64 (QaW x.item y.item))∧Own w no w' []):=by
 refine Qai (n:=10) Tryz.func56 rfl Tryz.ntmps56 rfl ?_
 have hs:=Own.start w
 refine Qag (Qab (Qaa (Qa9 (V:=.agg (cec x).toArray) (cs:=cec x) rfl rfl hs fun b1 w2 hs=>(Qaa (Qa9 (V:=.agg (cec y).toArray) (cs:=cec y) rfl rfl hs fun b3 w4 hs=>(Qaa (Qad (V:=I6 0) rfl (Qae (Qag (Qab (Qaa (Qaf QdV rfl (Qaa (QaK (V:=I7 x.item) Qap hs 0 rfl rfl rfl (Qaa (Qaf QdV rfl (Qaa (QaK (V:=I7 y.item) Qap hs 1 rfl rfl rfl (Qaa (Qar (vs:=[I7 x.item,I7 y.item]) (V:=I6 (QaW x.item y.item)) Qqm rfl rfl ?hc hs fun w5 hs=>?_))))))))))))))))))))
 case hc=>exact (QdE _ x.item y.item)
 refine Qaa (Qad (V:=I6 (QaW x.item y.item)) rfl (Qae (Qas ?_)))
 refine ⟨_,Qao (V:=I6 (QaW x.item y.item)) Tryz.results56 rfl,?_⟩
 refine ⟨congrArg Ending.returned ?_,hs.take 0⟩
 rfl
theorem Qqo (w:World) (item:Int) (a:Option Addr) (c:Nat) (l:List Cen) (hl:∀ e∈l,QiJ e∧1≤e.count) (hr:Rd w (.slice a l.length c) 7 (l.map cec)):Calls Tryz.prog 58 #[.int .u16 item,.slice a l.length c] w (fun e w'=>e = .returned (.agg (lc ⟨item,QdQ l⟩).toArray)∧Own w no w' []):=by
 refine Qai (n:=38) Tryz.func58 rfl Tryz.ntmps58 rfl ?_
 have hs:=Own.start w
 have hn1:=hr.sml
 refine Qag (Qab (Qaa (QaJ (cs:=lc (⟨0,0⟩:Line)) QtY rfl hs fun b1 w2 hs=>(Qae (Qag (Qab (Qaa (QaJ (cs:=cec (⟨0,0,0,0,(⟨0,0⟩:Dot),0⟩:Cen)) Qek rfl hs fun b3 w4 hs=>(Qae (Qag (Qab (Qaa (Qad (V:=.int .u32 0) rfl (Qae (Qag (Qag (Qab (Qaa (Qac (V:=.slice a l.length c) rfl (Qaa (QaX (n:=l.length) Qbm (Rd.own' hr hs) (by simp) rfl (Qaa (Qac (V:=I6 0) rfl (Qae (Qak (Qax (fun ρ μ ρ' w'=>∃ (ρo:Env) (k:Nat) (sm:Int) (u:Cen),ρ'=upd (upd (mix [6,8,11,12,13,14,15,16,17,18,19,20,21,22,23,24,25,26,27,28,29,30] ρo ρ) 11 (I6 (k:Int))) 6 (.int .u32 sm)∧(k≤l.length)∧(sm=QeE (l.take k))∧(u=(l.take k).foldl Qez cz)∧μ=l.length-k∧Own w no w' [blk b1 (lc (⟨0,0⟩:Line)) 74,blk b3 (cec u) 59]) ?_ ?_))))))))))))))))))))))))))
 ·exact ⟨_,_,0,0,cz,Qah (Qah (Qam (ds:=[6,8,11,12,13,14,15,16,17,18,19,20,21,22,23,24,25,26,27,28,29,30]) (Agr.refl _ _)) rfl) rfl,(by omega),rfl,rfl,rfl,hs⟩
 ·rintro μ ρ' w5 ⟨ρo,k,sm,u,rfl,hk,hsm,hset,rfl,hs⟩
  refine Qag (Qab (Qaa (QaP rfl rfl (Qae (Qag (Qal (t:=decide ((k:Int)<((l.length:Nat):Int))) rfl (fun c6=>?_) (fun c6=>?_)))))))
  ·
   replace c6:=QQ1 c6
   refine Qan (Qag (Qak (Qag (Qab (Qaa (Qat Qbm QaA.1 (Rd.own' hr hs) rfl rfl (by omega) (by rw [QQ6];omega) (Qaa (QaZ (j:=0) (vs:=cec (gd l k)) k QaA (Rd.own' hr hs) (QaY (by omega)) rfl rfl rfl (by omega) (Qaa (QaJ (cs:=cec (⟨0,0,0,0,(⟨0,0⟩:Dot),0⟩:Cen)) Qek rfl hs fun b7 w8 hs=>(Qaa (QcC (V:=.agg (cec (gd l k)).toArray) (vs:=cec (gd l k)) (cs':=cec (gd l k)) QaA.1 hs 2 rfl rfl rfl rfl rfl (QQ8 rfl) (Qa2 _) (Qaw rfl) fun w9 hs=>?_))))))))))))
   replace hs:Own w no w9 [blk b1 (lc (⟨0,0⟩:Line)) 74,blk b3 (cec u) 59,blk b7 (cec (gd l k)) 59]:=hs
   refine Qae (Qak (Qag (Qab (Qaa (Qaf Qe5 rfl (Qaa (QaK (V:=.int .u8 ((gd l k).kind)) QcF hs 2 rfl rfl rfl (Qaa (QaM rfl rfl (Qaa (Qad (V:=.bool (decide ((gd l k).kind=1))) rfl (Qae (Qal (t:=decide ((gd l k).kind=1)) rfl (fun c10=>?_) (fun c10=>?_))))))))))))))
   ·
    replace c10:=QQ1 c10
    have ⟨hq1,hq2⟩:=(hl _ (Qbq (l:=l) (i:=k) (by omega))).1.2.2.1
    refine Qab (Qaa (Qac (V:=.int .u32 sm) rfl (Qaa (Qaf Qe3 rfl (Qaa (QaK (V:=I7 ((gd l k).qty)) Qap hs 2 rfl rfl rfl (Qaa (QbD Qf4 Qh9 rfl (QeO (by omega) (by omega)) (Qaa (Qav (a:=sm) (b:=(gd l k).qty) (c:=(sm+((gd l k).qty))%4294967296) rfl rfl (QgP _) (Qaa (Qad (V:=.int .u32 ((sm+((gd l k).qty))%4294967296)) rfl (Qae (Qab (Qaa (Qav (a:=(k:Int)) (b:=1) (c:=((k+1:Nat):Int)) rfl rfl (Qaj (by omega) (by omega)) (Qaa (Qac (V:=I6 ((k+1:Nat):Int)) rfl (Qae ?_)))))))))))))))))))
    refine ⟨_,?_,_,k+1,(sm+((gd l k).qty))%4294967296,u,Qah (Qah (Qam (ds:=[6,8,11,12,13,14,15,16,17,18,19,20,21,22,23,24,25,26,27,28,29,30]) (by repeat (first|exact Agr.refl _ _|refine Agr.upd ?_ rfl|refine Agr.mix ?_ rfl))) rfl) rfl,(by omega),(Qna hsm (by omega) c10),(by rw [← Qgi hset (by omega),Qmk c10]),rfl,hs.take 2⟩
    omega
   ·
    replace c10:=QQ2 c10
    refine Qag (Qab (Qaa (QaR (cs:=cec (gd l k)) QaA hs 2 rfl rfl rfl (Qaa (QaR (cs:=cec u) QaA hs 1 rfl rfl rfl (Qaa (Qar (vs:=[.agg (cec (gd l k)).toArray,.agg (cec u).toArray]) (V:=I6 (QsN (gd l k) u)) Qs9 rfl rfl ?hc hs fun w11 hs=>?_)))))))
    case hc=>exact (Qrw _ (gd l k) u)
    refine Qaa (Qbb (V:=.bool (decide (0<QsN (gd l k) u))) (V':=.bool (QdY u (gd l k))) (Qcb rfl rfl ⟨rfl,rfl⟩) (congrArg Value.bool (QrH _ _)) (Qaa (Qad (V:=.bool (QdY u (gd l k))) rfl (Qae (Qal (t:=QdY u (gd l k)) rfl (fun c12=>?_) (fun c12=>?_))))))
    ·
     refine Qab (Qaa (QaR (cs:=cec (gd l k)) QaA hs 2 rfl rfl rfl (Qaa (QcC (V:=.agg (cec (gd l k)).toArray) (vs:=cec (gd l k)) (cs':=cec (gd l k)) QaA.1 hs 1 rfl rfl rfl rfl rfl (QQ8 rfl) (Qa2 _) (Qaw rfl) fun w13 hs=>(Qae (Qab (Qaa (Qav (a:=(k:Int)) (b:=1) (c:=((k+1:Nat):Int)) rfl rfl (Qaj (by omega) (by omega)) (Qaa (Qac (V:=I6 ((k+1:Nat):Int)) rfl (Qae ?_)))))))))))
     refine ⟨_,?_,_,k+1,sm,gd l k,Qah (Qah (Qam (ds:=[6,8,11,12,13,14,15,16,17,18,19,20,21,22,23,24,25,26,27,28,29,30]) (by repeat (first|exact Agr.refl _ _|refine Agr.upd ?_ rfl|refine Agr.mix ?_ rfl))) rfl) rfl,(by omega),(QmR hsm (by omega) c10),(by rw [← Qgi hset (by omega),Qor c10 c12]),rfl,hs.take 2⟩
     omega
    ·
     refine Qan (Qab (Qaa (Qav (a:=(k:Int)) (b:=1) (c:=((k+1:Nat):Int)) rfl rfl (Qaj (by omega) (by omega)) (Qaa (Qac (V:=I6 ((k+1:Nat):Int)) rfl (Qae ?_))))))
     refine ⟨_,?_,_,k+1,sm,u,Qah (Qah (Qam (ds:=[6,8,11,12,13,14,15,16,17,18,19,20,21,22,23,24,25,26,27,28,29,30]) (by repeat (first|exact Agr.refl _ _|refine Agr.upd ?_ rfl|refine Agr.mix ?_ rfl))) rfl) rfl,(by omega),(QmR hsm (by omega) c10),(by rw [← Qgi hset (by omega),QqC c10 c12]),rfl,hs.take 2⟩
     omega
  ·
   replace c6:=QQ2 c6
   refine Qaz (Qag ?_)
   have ⟨hq1,hq2⟩:0≤u.qty∧u.qty<65536:=by rw [hset];exact Qoy fun e he=>(hl e (List.mem_of_mem_take he)).1
   refine Qab (Qaa (Qac (V:=I7 item) rfl (Qaa (Qac (V:=.int .u32 sm) rfl (Qaa (Qaf Qe3 rfl (Qaa (QaK (V:=I7 u.qty) Qap hs 1 rfl rfl rfl (Qaa (QbD Qf4 Qh9 rfl (QeO (by omega) (by omega)) (Qaa (Qav (a:=sm) (b:=u.qty) (c:=(sm+u.qty)%4294967296) rfl rfl (QgP _) (Qaa (Qcy (vs:=[(0,I7 item),(1,.int .u32 ((sm+u.qty)%4294967296))]) (cs:=lc (⟨item,(sm+u.qty)%4294967296⟩:Line)) QpG (rfl) rfl (Qaa (QcC (V:=.agg (lc (⟨item,(sm+u.qty)%4294967296⟩:Line)).toArray) (vs:=lc (⟨item,(sm+u.qty)%4294967296⟩:Line)) (cs':=lc (⟨item,(sm+u.qty)%4294967296⟩:Line)) Qis.1 hs 0 rfl rfl rfl rfl rfl (QQ8 rfl) (QfV _) (Qaw rfl) fun w14 hs=>(Qae (Qas ?_))))))))))))))))))
   refine ⟨_,Qcx (cs:=lc (⟨item,(sm+u.qty)%4294967296⟩:Line)) Tryz.results58 Qis hs 0 rfl rfl rfl,?_⟩
   refine ⟨congrArg Ending.returned ?_,hs.take 0⟩
   have hT:=Qb6 (l:=l) (k:=k) (by omega)
   rw [hT] at hsm hset
   subst hsm hset
   rw [Qnp fun e he=>(hl e he).2]
end Tt
end Go.Proofs
namespace Go.Proofs
open Go Go.Vx Go.RowKit
namespace Tt
theorem QoP (w:World) (S:Nat→Prop) (a:Option Addr) (N c:Nat) (l:List Cen) (hz:l.length=N) (hN:N≤2305843009213693951) (lo hi:Nat) (hlo:lo≤hi) (hhi:hi≤N) (g:Nat) (hg:En Tryz.prog g) (cf:Cen→Cen→Int) (hc:CmpO cf) (hcmp:∀ (w:World) (x y:Cen),Calls Tryz.prog g #[.agg (cec x).toArray,.agg (cec y).toArray] w (fun e w'=>e = .returned (.int .i64 (cf x y))∧Own w no w' [])) (hR:(row (.slice a N c) (l.map cec) 59 7).holds w S) (hlt:∀ b,S b→b<w.heap.size):Calls Tryz.prog 110 #[.slice a N c,.int .i64 (lo:Int),.int .i64 (hi:Int),.func (.func g) #[] #[]] w (fun e w'=>∃ x:List Cen,e = .returned (.tuple #[])∧Own w S w' [row (.slice a N c) (x.map cec) 59 7]∧(x.length=N∧Merged cf l x lo hi)):=by
 refine Qai (n:=53) Tryz.func110 rfl Tryz.ntmps110 rfl ?_
 have hs:=Own.lent hR hlt
 refine Qag (Qab (Qaa (Qac (V:=I6 (lo:Int)) rfl (Qaa (Qav (a:=(lo:Int)) (b:=1) (c:=((lo+1:Nat):Int)) rfl rfl (Qaj (by omega) (by omega)) (Qaa (Qad (V:=I6 ((lo+1:Nat):Int)) rfl (Qae (Qak (Qax (fun ρ μ ρ' w'=>∃ (ρo:Env) (k:Nat) (m:List Cen),ρ'=upd (mix [8,9,12,13,14,15,16,17,18,19,20,21,22,23,24,25,26,27,28,29,30,31,32,33,34,35,36,37,38,39,40,41,42,43,44,45,46,47,48,49,50,51,52] ρo ρ) 8 (I6 (k:Int))∧(lo+1≤k)∧(k≤hi∨k=lo+1)∧(m.length=N)∧(Qa8 l m lo hi)∧(Qbe cf m lo k)∧μ=hi-k∧Own w S w' [row (.slice a N c) (m.map cec) 59 7]) ?_ ?_))))))))))
 ·exact ⟨_,_,lo+1,l,Qah (Qam (ds:=[8,9,12,13,14,15,16,17,18,19,20,21,22,23,24,25,26,27,28,29,30,31,32,33,34,35,36,37,38,39,40,41,42,43,44,45,46,47,48,49,50,51,52]) (Agr.refl _ _)) rfl,(Nat.le_refl _),(Or.inr rfl),hz,(Qa8.refl l hlo (by omega)),(Qbe.small (Nat.le_refl _)),rfl,hs⟩
 ·rintro μ ρ' w1 ⟨ρo,k,m,rfl,hk0,hk,hz1,hpm,hor,rfl,hs⟩
  refine Qag (Qag (Qab (Qaa (Qac (V:=I6 (k:Int)) rfl (Qaa (Qac (V:=I6 (hi:Int)) rfl (Qaa (QaP rfl rfl (Qae (Qal (t:=decide ((k:Int)<(hi:Int))) rfl (fun c2=>?_) (fun c2=>?_)))))))))))
  ·
   replace c2:=QQ1 c2
   refine Qan (Qag (Qak (Qag (Qab (Qaa (Qac (V:=I6 (k:Int)) rfl (Qaa (Qad (V:=I6 (k:Int)) rfl (Qae (Qak (Qax (fun ρ μ ρ' w'=>∃ (ρo:Env) (j:Nat) (m2:List Cen),ρ'=upd (mix [9,18,19,20,21,22,23,24,25,26,27,28,29,30,31,32,33,34,35,36,37,38,39,40,41,42,43,44,45,46,47,48,49,50,51,52] ρo ρ) 9 (I6 (j:Int))∧(lo≤j)∧(j≤k)∧(m2.length=N)∧(Qa8 l m2 lo hi)∧(Qq8 cf m2 lo k j)∧μ=j+1∧Own w S w' [row (.slice a N c) (m2.map cec) 59 7]) ?_ ?_)))))))))))
   ·exact ⟨_,_,k,m,Qah (Qam (ds:=[9,18,19,20,21,22,23,24,25,26,27,28,29,30,31,32,33,34,35,36,37,38,39,40,41,42,43,44,45,46,47,48,49,50,51,52]) (Agr.refl _ _)) rfl,(by omega),(Nat.le_refl _),hz1,hpm,(QkZ hor),rfl,hs⟩
   ·rintro μ ρ' w3 ⟨ρo,j,m2,rfl,hj0,hj,hz2,hpm2,hin,rfl,hs⟩
    refine Qag (Qag (QaC HM [some 18,some 19,some 20,some 21,some 22,some 23,some 24,some 25,some 26,some 27,some 28,some 29,some 30,some 31,some 32,some 33,some 34] [] [0,0,3,7,15,15,15,111,239,15,15,1039,3599,7695,16383,32767,65535] [pv (I6 (j:Int)),pv (I6 (lo:Int)),pv (.bool (decide ((lo:Int)<(j:Int)))),pv (.bool (decide ((lo:Int)<(j:Int)))),pg ((decide ((lo:Int)<(j:Int))) == true) (.func (.func g) #[] #[]),pg ((decide ((lo:Int)<(j:Int))) == true) (.slice a N c),pg ((decide ((lo:Int)<(j:Int))) == true) (I6 (j:Int)),pg ((decide ((lo:Int)<(j:Int))) == true) (.pointer (some ⟨bkS (.slice a N c),ofS (.slice a N c)+(j:Int).toNat*7,none⟩)),pg ((decide ((lo:Int)<(j:Int))) == true) (.agg (cec (gd m2 j)).toArray),pg ((decide ((lo:Int)<(j:Int))) == true) (.slice a N c),pg ((decide ((lo:Int)<(j:Int))) == true) (I6 (j:Int)),pg ((decide ((lo:Int)<(j:Int))) == true) (I6 ((j-1:Nat):Int)),pg ((decide ((lo:Int)<(j:Int))) == true) (.pointer (some ⟨bkS (.slice a N c),ofS (.slice a N c)+((j-1:Nat):Int).toNat*7,none⟩)),pg ((decide ((lo:Int)<(j:Int))) == true) (.agg (cec (gd m2 (j-1))).toArray),pg ((decide ((lo:Int)<(j:Int))) == true) (I6 (cf (gd m2 j) (gd m2 (j-1)))),pg ((decide ((lo:Int)<(j:Int))) == true) (.bool (decide (cf (gd m2 j) (gd m2 (j-1))<0))),pv (.bool ((decide ((lo:Int)<(j:Int)))&&(decide (cf (gd m2 j) (gd m2 (j-1))<0))))] (fun _ _=>_) [16] (by kernel_rfl) hs ⟨?_,?_,?_,?_,?_,?_,?_,?_,?_,?_,?_,?_,?_,?_,?_,?_,?_,trivial⟩ ?_))
    ·exact ob [] [] rfl rfl fun D ρ w hs=>Qac (V:=I6 (j:Int)) rfl ⟨rfl,hs⟩
    ·exact ob [] [] rfl rfl fun D ρ w hs=>Qac (V:=I6 (lo:Int)) rfl ⟨rfl,hs⟩
    ·exact ob [0,1] [] rfl rfl fun D ρ w hs=>Qcb rfl rfl ⟨rfl,hs⟩
    ·exact ob [2] [] rfl rfl fun D ρ w hs=>Qac (V:=.bool (decide ((lo:Int)<(j:Int)))) rfl ⟨rfl,hs⟩
    ·exact obg [3] [] (decide ((lo:Int)<(j:Int))) rfl (fun _=>rfl) rfl (fun _ _ _ _ h=>h) fun D ρ w hG hs=>Qac (V:=.func (.func g) #[] #[]) rfl ⟨rfl,hs⟩
    ·exact obg [3] [] (decide ((lo:Int)<(j:Int))) rfl (fun _=>rfl) rfl (fun _ _ _ _ h=>h) fun D ρ w hG hs=>Qac (V:=.slice a N c) rfl ⟨rfl,hs⟩
    ·exact obg [3] [] (decide ((lo:Int)<(j:Int))) rfl (fun _=>rfl) rfl (fun _ _ _ _ h=>h) fun D ρ w hG hs=>Qac (V:=I6 (j:Int)) rfl ⟨rfl,hs⟩
    ·refine obgy [3,5,6] [] [5,6] (decide ((lo:Int)<(j:Int))) rfl (fun _=>rfl) rfl (fun _ _ _ _ h=>h) (fun hG=>⟨hG,hG,trivial⟩) fun D ρ w hG hs=>?_
     have hgd:=QQ1 (eq_of_beq (hG))
     exact Qat Qbm QaA.1 (hs.rd 0 rfl) rfl rfl (by omega) (by rw [QQ6];omega) ⟨rfl,hs⟩
    ·refine obgy [3,7] [] [7] (decide ((lo:Int)<(j:Int))) rfl (fun _=>rfl) rfl (fun _ _ _ _ h=>h) (fun hG=>⟨hG,trivial⟩) fun D ρ w hG hs=>?_
     have hgd:=QQ1 (eq_of_beq (hG))
     exact QaZ (j:=0) (vs:=cec (gd m2 j)) j QaA (hs.rd 0 rfl) (QaY (by omega)) rfl rfl rfl (by omega) ⟨rfl,hs⟩
    ·exact obg [3] [] (decide ((lo:Int)<(j:Int))) rfl (fun _=>rfl) rfl (fun _ _ _ _ h=>h) fun D ρ w hG hs=>Qac (V:=.slice a N c) rfl ⟨rfl,hs⟩
    ·exact obg [3] [] (decide ((lo:Int)<(j:Int))) rfl (fun _=>rfl) rfl (fun _ _ _ _ h=>h) fun D ρ w hG hs=>Qac (V:=I6 (j:Int)) rfl ⟨rfl,hs⟩
    ·refine obgy [3,10] [] [10] (decide ((lo:Int)<(j:Int))) rfl (fun _=>rfl) rfl (fun _ _ _ _ h=>h) (fun hG=>⟨hG,trivial⟩) fun D ρ w hG hs=>?_
     have hgd:=QQ1 (eq_of_beq (hG))
     exact Qa4 (a:=(j:Int)) (b:=1) (c:=((j-1:Nat):Int)) rfl rfl (Qaj (by omega) (by omega)) ⟨rfl,hs⟩
    ·refine obgy [3,9,11] [] [9,11] (decide ((lo:Int)<(j:Int))) rfl (fun _=>rfl) rfl (fun _ _ _ _ h=>h) (fun hG=>⟨hG,hG,trivial⟩) fun D ρ w hG hs=>?_
     have hgd:=QQ1 (eq_of_beq (hG))
     exact Qat Qbm QaA.1 (hs.rd 0 rfl) rfl rfl (by omega) (by rw [QQ6];omega) ⟨rfl,hs⟩
    ·refine obgy [3,12] [] [12] (decide ((lo:Int)<(j:Int))) rfl (fun _=>rfl) rfl (fun _ _ _ _ h=>h) (fun hG=>⟨hG,trivial⟩) fun D ρ w hG hs=>?_
     have hgd:=QQ1 (eq_of_beq (hG))
     exact QaZ (j:=0) (vs:=cec (gd m2 (j-1))) (j-1) QaA (hs.rd 0 rfl) (QaY (by omega)) rfl rfl rfl (by omega) ⟨rfl,hs⟩
    ·exact obgy [3,4,8,13] [] [4,8,13] (decide ((lo:Int)<(j:Int))) rfl (fun _=>rfl) rfl (fun _ _ _ _ h=>h) (fun hG=>⟨hG,hG,hG,trivial⟩) fun D ρ w hG hs=>Qf2 (vs:=[.agg (cec (gd m2 j)).toArray,.agg (cec (gd m2 (j-1))).toArray]) (cs:=[]) (V:=I6 (cf (gd m2 j) (gd m2 (j-1)))) hg rfl rfl (hcmp _ (gd m2 j) (gd m2 (j-1))) hs fun _ hs=>⟨rfl,hs⟩
    ·exact obgy [3,14] [] [14] (decide ((lo:Int)<(j:Int))) rfl (fun _=>rfl) rfl (fun _ _ _ _ h=>h) (fun hG=>⟨hG,trivial⟩) fun D ρ w hG hs=>QaP rfl rfl ⟨rfl,hs⟩
    ·exact ob [3,15] [] rfl rfl fun D ρ w hs=>Qa3 (h':=decide (cf (gd m2 j) (gd m2 (j-1))<0)) rfl rfl rfl ⟨rfl,hs⟩
    rintro ρ1 w5 ρ2 hρ hs
    replace hρ:ρ2=upd (mix [18,19,20,21,22,23,24,25,26,27,28,29,30,31,32,33,34] ρ1 _) 34 (.bool ((decide ((lo:Int)<(j:Int)))&&(decide (cf (gd m2 j) (gd m2 (j-1))<0)))):=hρ
    subst hρ
    refine Qal (t:=(decide ((lo:Int)<(j:Int)))&&(decide (cf (gd m2 j) (gd m2 (j-1))<0))) rfl (fun c6=>?_) (fun c6=>?_)
    ·
     have c6r:=Qcd c6
     replace c6:=QbQ c6
     replace c6:=QQ1 c6
     replace c6r:=QQ1 c6r
     refine Qan (Qag (Qak (QaC HM [some 37,some 38,some 39,some 40,some 41,some 42,some 43,some 44,some 45,some 46,some 47,some 48,some 49,some 50,some 51,none,some 52,none] [] [0,0,0,0,8,0,0,64,224,480,0,0,3072,7168,16355,32739,65535,131071] [pv (.slice a N c),pv (I6 (j:Int)),pv (.slice a N c),pv (I6 (j:Int)),pv (I6 ((j-1:Nat):Int)),pv (.slice a N c),pv (I6 (j:Int)),pv (I6 ((j-1:Nat):Int)),pv (.pointer (some ⟨bkS (.slice a N c),ofS (.slice a N c)+((j-1:Nat):Int).toNat*7,none⟩)),pv (.agg (cec (gd m2 (j-1))).toArray),pv (.slice a N c),pv (I6 (j:Int)),pv (.pointer (some ⟨bkS (.slice a N c),ofS (.slice a N c)+(j:Int).toNat*7,none⟩)),pv (.agg (cec (gd m2 j)).toArray),pv (.pointer (some ⟨bkS (.slice a N c),ofS (.slice a N c)+(j:Int).toNat*7,none⟩)),pn,pv (.pointer (some ⟨bkS (.slice a N c),ofS (.slice a N c)+((j-1:Nat):Int).toNat*7,none⟩)),pn] (fun D ρ=>[cond (D 17) (row (.slice a N c) (((m2.set j (gd m2 (j-1))).set (j-1) (gd m2 j)).map cec) 59 7) (cond (D 15) (row (.slice a N c) ((m2.set j (gd m2 (j-1))).map cec) 59 7) (row (.slice a N c) (m2.map cec) 59 7))]) [] (by kernel_rfl) hs ⟨?_,?_,?_,?_,?_,?_,?_,?_,?_,?_,?_,?_,?_,?_,?_,?_,?_,?_,trivial⟩ ?_)))
     ·exact ob [] [] rfl rfl fun D ρ w hs=>Qac (V:=.slice a N c) rfl ⟨rfl,hs⟩
     ·exact ob [] [] rfl rfl fun D ρ w hs=>Qac (V:=I6 (j:Int)) rfl ⟨rfl,hs⟩
     ·exact ob [] [] rfl rfl fun D ρ w hs=>Qac (V:=.slice a N c) rfl ⟨rfl,hs⟩
     ·exact ob [] [] rfl rfl fun D ρ w hs=>Qac (V:=I6 (j:Int)) rfl ⟨rfl,hs⟩
     ·exact ob [3] [] rfl rfl fun D ρ w hs=>Qa4 (a:=(j:Int)) (b:=1) (c:=((j-1:Nat):Int)) rfl rfl (Qaj (by omega) (by omega)) ⟨rfl,hs⟩
     ·exact ob [] [] rfl rfl fun D ρ w hs=>Qac (V:=.slice a N c) rfl ⟨rfl,hs⟩
     ·exact ob [] [] rfl rfl fun D ρ w hs=>Qac (V:=I6 (j:Int)) rfl ⟨rfl,hs⟩
     ·exact ob [6] [] rfl rfl fun D ρ w hs=>Qa4 (a:=(j:Int)) (b:=1) (c:=((j-1:Nat):Int)) rfl rfl (Qaj (by omega) (by omega)) ⟨rfl,hs⟩
     ·exact ob [5,7] [15,17] rfl rfl fun D ρ w hs=>Qat Qbm QaA.1 (hs.rd 0 rfl) rfl rfl (by omega) (by rw [QQ6];omega) ⟨rfl,hs⟩
     ·exact ob [8] [15,17] rfl rfl fun D ρ w hs=>QaZ (j:=0) (vs:=cec (gd m2 (j-1))) (j-1) QaA (hs.rd 0 rfl) (QaY (by omega)) rfl rfl rfl (by omega) ⟨rfl,hs⟩
     ·exact ob [] [] rfl rfl fun D ρ w hs=>Qac (V:=.slice a N c) rfl ⟨rfl,hs⟩
     ·exact ob [] [] rfl rfl fun D ρ w hs=>Qac (V:=I6 (j:Int)) rfl ⟨rfl,hs⟩
     ·exact ob [10,11] [15,17] rfl rfl fun D ρ w hs=>Qat Qbm QaA.1 (hs.rd 0 rfl) rfl rfl (by omega) (by rw [QQ6];omega) ⟨rfl,hs⟩
     ·exact ob [12] [15,17] rfl rfl fun D ρ w hs=>QaZ (j:=0) (vs:=cec (gd m2 j)) j QaA (hs.rd 0 rfl) (QaY (by omega)) rfl rfl rfl (by omega) ⟨rfl,hs⟩
     ·exact ob [0,1] [15,17] rfl rfl fun D ρ w hs=>Qat Qbm QaA.1 (hs.rd 0 rfl) rfl rfl (by omega) (by rw [QQ6];omega) ⟨rfl,hs⟩
     ·exact ob [9,14] [17] rfl rfl fun D ρ w hs=>QgR (z:=gd m2 (j-1)) j QaA.1 hs 0 rfl rfl rfl (by first|omega|(simp only [List.length_set];omega)) rfl rfl rfl (Qa2 _) fun _ hs=>⟨trivial,hs⟩
     ·exact ob [2,4,15] [17] rfl rfl fun D ρ w hs=>Qat Qbm QaA.1 (hs.rd 0 rfl) rfl rfl (by omega) (by simp only [QQ6,List.length_set];omega) ⟨rfl,hs⟩
     ·exact ob [13,15,16] [] rfl rfl fun D ρ w hs=>QgR (z:=gd m2 j) (j-1) QaA.1 hs 0 rfl rfl rfl (by first|omega|(simp only [List.length_set];omega)) rfl rfl rfl (Qa2 _) fun _ hs=>⟨trivial,hs⟩
     rintro ρ1 w9 ρ2 hρ hs
     replace hρ:ρ2=mix [37,38,39,40,41,42,43,44,45,46,47,48,49,50,51,52] ρ1 _:=hρ
     replace hs:Own w S w9 [row (.slice a N c) (((m2.set j (gd m2 (j-1))).set (j-1) (gd m2 j)).map cec) 59 7]:=hs
     subst hρ
     replace hs:Own w S _ [row (.slice a N c) ((swL m2 j (j-1)).map cec) 59 7]:=hs.take 1
     refine Qab (Qaa (Qac (V:=I6 (j:Int)) rfl (Qaa (Qa4 (a:=(j:Int)) (b:=1) (c:=((j-1:Nat):Int)) rfl rfl (Qaj (by omega) (by omega)) (Qaa (Qad (V:=I6 ((j-1:Nat):Int)) rfl (Qae ?_)))))))
     refine ⟨_,?_,_,j-1,swL m2 j (j-1),Qah (Qam (ds:=[9,18,19,20,21,22,23,24,25,26,27,28,29,30,31,32,33,34,35,36,37,38,39,40,41,42,43,44,45,46,47,48,49,50,51,52]) (by repeat (first|exact Agr.refl _ _|refine Agr.upd ?_ rfl|refine Agr.mix ?_ rfl))) rfl,(by omega),(by omega),(by rw [Qha];exact hz2),(hpm2.trans (Qp9 (by omega) (by omega) (by omega) (by omega) (by omega))),(Qoc hc hin (by omega) (by omega) (by omega) c6r),rfl,hs.take 1⟩
     omega
    ·
     refine Qaz ?_
     have hor2:Qbe cf m2 lo (k+1):=QqX hc hin hj0 (by
      have ht:=c6
      rcases Nat.lt_or_ge lo j with q|q
      ·right;intro h;simp [q,h] at ht
      ·left;omega)
     refine Qab (Qaa (Qac (V:=I6 (k:Int)) rfl (Qaa (Qav (a:=(k:Int)) (b:=1) (c:=((k+1:Nat):Int)) rfl rfl (Qaj (by omega) (by omega)) (Qaa (Qad (V:=I6 ((k+1:Nat):Int)) rfl (Qae ?_)))))))
     refine ⟨_,?_,_,k+1,m2,Qah (Qam (ds:=[8,9,12,13,14,15,16,17,18,19,20,21,22,23,24,25,26,27,28,29,30,31,32,33,34,35,36,37,38,39,40,41,42,43,44,45,46,47,48,49,50,51,52]) (by repeat (first|exact Agr.refl _ _|refine Agr.upd ?_ rfl|refine Agr.mix ?_ rfl))) rfl,(by omega),(by omega),hz2,hpm2,hor2,rfl,hs.take 1⟩
     omega
  ·
   replace c2:=QQ2 c2
   refine Qaz ?_
   refine ⟨_,Qbo Tryz.results110,?_⟩
   refine ⟨m,rfl,hs.take 1,hz1,hpm,?_⟩
   rcases Nat.lt_or_ge k hi with q|q
   ·omega
   ·exact hor.sub (Nat.le_refl _) q
end Tt
end Go.Proofs
namespace Go.Proofs
open Go Go.Vx Go.RowKit
namespace Tt
theorem QlN (w:World) (S:Nat→Prop) (a:Option Addr) (N c:Nat) (l:List Cen) (hz:l.length=N) (hN:N≤2305843009213693951) (p q n:Nat) (hp:p+n≤N) (hq:q+n≤N) (g:Nat) (hg:En Tryz.prog g) (cf:Cen→Cen→Int) (hc:CmpO cf) (hcmp:∀ (w:World) (x y:Cen),Calls Tryz.prog g #[.agg (cec x).toArray,.agg (cec y).toArray] w (fun e w'=>e = .returned (.int .i64 (cf x y))∧Own w no w' [])) (hR:(row (.slice a N c) (l.map cec) 59 7).holds w S) (hlt:∀ b,S b→b<w.heap.size):Calls Tryz.prog 144 #[.slice a N c,.int .i64 (p:Int),.int .i64 (q:Int),.int .i64 (n:Int),.func (.func g) #[] #[]] w (fun e w'=>∃ x:List Cen,e = .returned (.tuple #[])∧Own w S w' [row (.slice a N c) (x.map cec) 59 7]∧(x.length=N∧x=swN l p q n)):=by
 refine Qai (n:=38) Tryz.func144 rfl Tryz.ntmps144 rfl ?_
 have hs:=Own.lent hR hlt
 refine Qag (Qab (Qaa (Qad (V:=I6 0) rfl (Qae (Qak (Qax (fun ρ μ ρ' w'=>∃ (ρo:Env) (k:Nat) (m:List Cen),ρ'=upd (mix [10,11,12,13,14,15,16,17,18,19,20,21,22,23,24,25,26,27,28,29,30,31,32,33,34,35,36,37] ρo ρ) 10 (I6 (k:Int))∧(k≤n)∧(m.length=N)∧(m=swN l p q k)∧μ=n-k∧Own w S w' [row (.slice a N c) (m.map cec) 59 7]) ?_ ?_))))))
 ·exact ⟨_,_,0,l,Qah (Qam (ds:=[10,11,12,13,14,15,16,17,18,19,20,21,22,23,24,25,26,27,28,29,30,31,32,33,34,35,36,37]) (Agr.refl _ _)) rfl,(Nat.zero_le _),hz,rfl,rfl,hs⟩
 ·rintro μ ρ' w1 ⟨ρo,k,m,rfl,hk,hz1,hm,rfl,hs⟩
  refine Qag (Qag (Qab (Qaa (Qac (V:=I6 (k:Int)) rfl (Qaa (Qac (V:=I6 (n:Int)) rfl (Qaa (QaP rfl rfl (Qae (Qal (t:=decide ((k:Int)<(n:Int))) rfl (fun c2=>?_) (fun c2=>?_)))))))))))
  ·
   replace c2:=QQ1 c2
   refine Qan (Qag (Qak (QaC HM [some 16,some 17,some 18,some 19,some 20,some 21,some 22,some 23,some 24,some 25,some 26,some 27,some 28,some 29,some 30,some 31,some 32,some 33,some 34,some 35,some 36,none,some 37,none] [] [0,0,0,6,0,0,0,96,0,0,0,1536,3840,7936,0,0,0,98304,245760,507904,1048335,2096911,4194303,8388607] [pv (.slice a N c),pv (I6 (p:Int)),pv (I6 (k:Int)),pv (I6 ((p+k:Nat):Int)),pv (.slice a N c),pv (I6 (q:Int)),pv (I6 (k:Int)),pv (I6 ((q+k:Nat):Int)),pv (.slice a N c),pv (I6 (q:Int)),pv (I6 (k:Int)),pv (I6 ((q+k:Nat):Int)),pv (.pointer (some ⟨bkS (.slice a N c),ofS (.slice a N c)+((q+k:Nat):Int).toNat*7,none⟩)),pv (.agg (cec (gd m (q+k))).toArray),pv (.slice a N c),pv (I6 (p:Int)),pv (I6 (k:Int)),pv (I6 ((p+k:Nat):Int)),pv (.pointer (some ⟨bkS (.slice a N c),ofS (.slice a N c)+((p+k:Nat):Int).toNat*7,none⟩)),pv (.agg (cec (gd m (p+k))).toArray),pv (.pointer (some ⟨bkS (.slice a N c),ofS (.slice a N c)+((p+k:Nat):Int).toNat*7,none⟩)),pn,pv (.pointer (some ⟨bkS (.slice a N c),ofS (.slice a N c)+((q+k:Nat):Int).toNat*7,none⟩)),pn] (fun D ρ=>[cond (D 23) (row (.slice a N c) (((m.set (p+k) (gd m (q+k))).set (q+k) (gd m (p+k))).map cec) 59 7) (cond (D 21) (row (.slice a N c) ((m.set (p+k) (gd m (q+k))).map cec) 59 7) (row (.slice a N c) (m.map cec) 59 7))]) [] (by kernel_rfl) hs ⟨?_,?_,?_,?_,?_,?_,?_,?_,?_,?_,?_,?_,?_,?_,?_,?_,?_,?_,?_,?_,?_,?_,?_,?_,trivial⟩ ?_)))
   ·exact ob [] [] rfl rfl fun D ρ w hs=>Qac (V:=.slice a N c) rfl ⟨rfl,hs⟩
   ·exact ob [] [] rfl rfl fun D ρ w hs=>Qac (V:=I6 (p:Int)) rfl ⟨rfl,hs⟩
   ·exact ob [] [] rfl rfl fun D ρ w hs=>Qac (V:=I6 (k:Int)) rfl ⟨rfl,hs⟩
   ·exact ob [1,2] [] rfl rfl fun D ρ w hs=>Qav (a:=(p:Int)) (b:=(k:Int)) (c:=((p+k:Nat):Int)) rfl rfl (Qaj (by omega) (by omega)) ⟨rfl,hs⟩
   ·exact ob [] [] rfl rfl fun D ρ w hs=>Qac (V:=.slice a N c) rfl ⟨rfl,hs⟩
   ·exact ob [] [] rfl rfl fun D ρ w hs=>Qac (V:=I6 (q:Int)) rfl ⟨rfl,hs⟩
   ·exact ob [] [] rfl rfl fun D ρ w hs=>Qac (V:=I6 (k:Int)) rfl ⟨rfl,hs⟩
   ·exact ob [5,6] [] rfl rfl fun D ρ w hs=>Qav (a:=(q:Int)) (b:=(k:Int)) (c:=((q+k:Nat):Int)) rfl rfl (Qaj (by omega) (by omega)) ⟨rfl,hs⟩
   ·exact ob [] [] rfl rfl fun D ρ w hs=>Qac (V:=.slice a N c) rfl ⟨rfl,hs⟩
   ·exact ob [] [] rfl rfl fun D ρ w hs=>Qac (V:=I6 (q:Int)) rfl ⟨rfl,hs⟩
   ·exact ob [] [] rfl rfl fun D ρ w hs=>Qac (V:=I6 (k:Int)) rfl ⟨rfl,hs⟩
   ·exact ob [9,10] [] rfl rfl fun D ρ w hs=>Qav (a:=(q:Int)) (b:=(k:Int)) (c:=((q+k:Nat):Int)) rfl rfl (Qaj (by omega) (by omega)) ⟨rfl,hs⟩
   ·exact ob [8,11] [21,23] rfl rfl fun D ρ w hs=>Qat Qbm QaA.1 (hs.rd 0 rfl) rfl rfl (by omega) (by rw [QQ6];omega) ⟨rfl,hs⟩
   ·exact ob [12] [21,23] rfl rfl fun D ρ w hs=>QaZ (j:=0) (vs:=cec (gd m (q+k))) (q+k) QaA (hs.rd 0 rfl) (QaY (by omega)) rfl rfl rfl (by omega) ⟨rfl,hs⟩
   ·exact ob [] [] rfl rfl fun D ρ w hs=>Qac (V:=.slice a N c) rfl ⟨rfl,hs⟩
   ·exact ob [] [] rfl rfl fun D ρ w hs=>Qac (V:=I6 (p:Int)) rfl ⟨rfl,hs⟩
   ·exact ob [] [] rfl rfl fun D ρ w hs=>Qac (V:=I6 (k:Int)) rfl ⟨rfl,hs⟩
   ·exact ob [15,16] [] rfl rfl fun D ρ w hs=>Qav (a:=(p:Int)) (b:=(k:Int)) (c:=((p+k:Nat):Int)) rfl rfl (Qaj (by omega) (by omega)) ⟨rfl,hs⟩
   ·exact ob [14,17] [21,23] rfl rfl fun D ρ w hs=>Qat Qbm QaA.1 (hs.rd 0 rfl) rfl rfl (by omega) (by rw [QQ6];omega) ⟨rfl,hs⟩
   ·exact ob [18] [21,23] rfl rfl fun D ρ w hs=>QaZ (j:=0) (vs:=cec (gd m (p+k))) (p+k) QaA (hs.rd 0 rfl) (QaY (by omega)) rfl rfl rfl (by omega) ⟨rfl,hs⟩
   ·exact ob [0,3] [21,23] rfl rfl fun D ρ w hs=>Qat Qbm QaA.1 (hs.rd 0 rfl) rfl rfl (by omega) (by rw [QQ6];omega) ⟨rfl,hs⟩
   ·exact ob [13,20] [23] rfl rfl fun D ρ w hs=>QgR (z:=gd m (q+k)) (p+k) QaA.1 hs 0 rfl rfl rfl (by first|omega|(simp only [List.length_set];omega)) rfl rfl rfl (Qa2 _) fun _ hs=>⟨trivial,hs⟩
   ·exact ob [4,7,21] [23] rfl rfl fun D ρ w hs=>Qat Qbm QaA.1 (hs.rd 0 rfl) rfl rfl (by omega) (by simp only [QQ6,List.length_set];omega) ⟨rfl,hs⟩
   ·exact ob [19,21,22] [] rfl rfl fun D ρ w hs=>QgR (z:=gd m (p+k)) (q+k) QaA.1 hs 0 rfl rfl rfl (by first|omega|(simp only [List.length_set];omega)) rfl rfl rfl (Qa2 _) fun _ hs=>⟨trivial,hs⟩
   rintro ρ1 w5 ρ2 hρ hs
   replace hρ:ρ2=mix [16,17,18,19,20,21,22,23,24,25,26,27,28,29,30,31,32,33,34,35,36,37] ρ1 _:=hρ
   replace hs:Own w S w5 [row (.slice a N c) (((m.set (p+k) (gd m (q+k))).set (q+k) (gd m (p+k))).map cec) 59 7]:=hs
   subst hρ
   replace hs:Own w S _ [row (.slice a N c) ((swL m (p+k) (q+k)).map cec) 59 7]:=hs.take 1
   refine Qab (Qaa (Qac (V:=I6 (k:Int)) rfl (Qaa (Qav (a:=(k:Int)) (b:=1) (c:=((k+1:Nat):Int)) rfl rfl (Qaj (by omega) (by omega)) (Qaa (Qad (V:=I6 ((k+1:Nat):Int)) rfl (Qae ?_)))))))
   refine ⟨_,?_,_,k+1,swL m (p+k) (q+k),Qah (Qam (ds:=[10,11,12,13,14,15,16,17,18,19,20,21,22,23,24,25,26,27,28,29,30,31,32,33,34,35,36,37]) (by repeat (first|exact Agr.refl _ _|refine Agr.upd ?_ rfl|refine Agr.mix ?_ rfl))) rfl,(by omega),(by rw [Qha];exact hz1),(by rw [Qi6,← hm]),rfl,hs.take 1⟩
   omega
  ·
   replace c2:=QQ2 c2
   refine Qaz ?_
   refine ⟨_,Qbo Tryz.results144,?_⟩
   exact ⟨m,rfl,hs.take 1,hz1,by rw [hm,show k=n by omega]⟩
theorem Qsw (w:World) (S:Nat→Prop) (a:Option Addr) (N c:Nat) (l:List Cen) (hz:l.length=N) (hN:N≤2305843009213693951) (lo mid hi:Nat) (h1:lo<mid) (h2:mid<hi) (h3:hi≤N) (g:Nat) (hg:En Tryz.prog g) (cf:Cen→Cen→Int) (hc:CmpO cf) (hcmp:∀ (w:World) (x y:Cen),Calls Tryz.prog g #[.agg (cec x).toArray,.agg (cec y).toArray] w (fun e w'=>e = .returned (.int .i64 (cf x y))∧Own w no w' [])) (hR:(row (.slice a N c) (l.map cec) 59 7).holds w S) (hlt:∀ b,S b→b<w.heap.size):Calls Tryz.prog 127 #[.slice a N c,.int .i64 (lo:Int),.int .i64 (mid:Int),.int .i64 (hi:Int),.func (.func g) #[] #[]] w (fun e w'=>∃ x:List Cen,e = .returned (.tuple #[])∧Own w S w' [row (.slice a N c) (x.map cec) 59 7]∧(x.length=N∧QbY l x lo mid hi)):=by
 refine Qai (n:=58) Tryz.func127 rfl Tryz.ntmps127 rfl ?_
 have hs:=Own.lent hR hlt
 obtain ⟨t,hrt,hro0⟩:=QiE (l:=l) (a:=lo) (m:=mid) (b:=hi) (by omega) (by omega) (by omega)
 refine Qag (Qab (Qaa (Qac (V:=I6 (mid:Int)) rfl (Qaa (Qac (V:=I6 (lo:Int)) rfl (Qaa (Qa4 (a:=(mid:Int)) (b:=(lo:Int)) (c:=((mid-lo:Nat):Int)) rfl rfl (Qaj (by omega) (by omega)) (Qaa (Qad (V:=I6 ((mid-lo:Nat):Int)) rfl (Qae (Qag (Qab (Qaa (Qac (V:=I6 (hi:Int)) rfl (Qaa (Qac (V:=I6 (mid:Int)) rfl (Qaa (Qa4 (a:=(hi:Int)) (b:=(mid:Int)) (c:=((hi-mid:Nat):Int)) rfl rfl (Qaj (by omega) (by omega)) (Qaa (Qad (V:=I6 ((hi-mid:Nat):Int)) rfl (Qae (Qag (Qak (Qax (fun ρ μ ρ' w'=>∃ (ρo:Env) (i:Nat) (j:Nat) (m:List Cen),ρ'=upd (upd (mix [10,11,18,19,20,21,22,23,24,25,26,27,28,29,30,31,32,33,34,35,36,37,38,39,40,41,42,43,44,45,46,47,48,49] ρo ρ) 10 (I6 (i:Int))) 11 (I6 (j:Int))∧(0<i)∧(0<j)∧(m.length=N)∧(Qhv m t mid i j)∧μ=i+j∧Own w S w' [row (.slice a N c) (m.map cec) 59 7]) ?_ ?_))))))))))))))))))))))))
 ·exact ⟨_,_,mid-lo,hi-mid,l,Qah (Qah (Qam (ds:=[10,11,18,19,20,21,22,23,24,25,26,27,28,29,30,31,32,33,34,35,36,37,38,39,40,41,42,43,44,45,46,47,48,49]) (Agr.refl _ _)) rfl) rfl,(by omega),(by omega),hz,hro0,rfl,hs⟩
 ·rintro μ ρ' w1 ⟨ρo,i,j,m,rfl,hi0,hj0,hz1,hro,rfl,hs⟩
  have hrl:=Qh6 hro
  refine Qag (Qag (Qab (Qaa (Qac (V:=I6 (i:Int)) rfl (Qaa (Qac (V:=I6 (j:Int)) rfl (Qaa (Qcr rfl rfl (Qae (Qal (t:=!decide ((i:Int)=(j:Int))) rfl (fun c2=>?_) (fun c2=>?_)))))))))))
  ·
   replace c2:=QbL c2
   replace c2:=QQ2 c2
   refine Qan (Qak (Qag (Qab (Qaa (Qac (V:=I6 (i:Int)) rfl (Qaa (Qac (V:=I6 (j:Int)) rfl (Qaa (Qcb rfl rfl (Qae (Qal (t:=decide ((j:Int)<(i:Int))) rfl (fun c3=>?_) (fun c3=>?_))))))))))))
   ·
    replace c3:=QQ1 c3
    refine Qag (Qab (Qaa (Qac (V:=.slice a N c) rfl (Qaa (Qac (V:=I6 (mid:Int)) rfl (Qaa (Qac (V:=I6 (i:Int)) rfl (Qaa (Qa4 (a:=(mid:Int)) (b:=(i:Int)) (c:=((mid-i:Nat):Int)) rfl rfl (Qaj (by omega) (by omega)) (Qaa (Qac (V:=I6 (mid:Int)) rfl (Qaa (Qac (V:=I6 (j:Int)) rfl (Qaa (Qac (V:=.func (.func g) #[] #[]) rfl (Qaa (Qbn (α:=List Cen) (vs:=[.slice a N c,I6 ((mid-i:Nat):Int),I6 (mid:Int),I6 (j:Int),.func (.func g) #[] #[]]) (V:=fun _=>.tuple #[]) (R:=row (.slice a N c) (m.map cec) 59 7) (R':=fun x=>row (.slice a N c) (x.map cec) 59 7) (Lo:=fun _=>[]) (F:=fun x _=>x.length=N∧x=swN m (mid-i) mid j) QlG rfl rfl hs 0 rfl (fun S hS hlt=>QlN _ S a N c m (by first|assumption|omega) hN (mid-i) mid j (by omega) (by omega) g hg cf hc hcmp hS hlt) fun mz4 w5 hs hF6=>(Qae (Qab (Qaa (Qac (V:=I6 (i:Int)) rfl (Qaa (Qac (V:=I6 (j:Int)) rfl (Qaa (Qa4 (a:=(i:Int)) (b:=(j:Int)) (c:=((i-j:Nat):Int)) rfl rfl (Qaj (by omega) (by omega)) (Qaa (Qad (V:=I6 ((i-j:Nat):Int)) rfl (Qae ?_))))))))))))))))))))))))))))
    refine ⟨_,?_,_,i-j,j,mz4,Qah (Qah (Qam (ds:=[10,11,18,19,20,21,22,23,24,25,26,27,28,29,30,31,32,33,34,35,36,37,38,39,40,41,42,43,44,45,46,47,48,49]) (by repeat (first|exact Agr.refl _ _|refine Agr.upd ?_ rfl|refine Agr.mix ?_ rfl))) rfl) rfl,(by omega),(by omega),hF6.1,(by rw [hF6.2];exact Qnz hro (by omega)),rfl,hs.take 1⟩
    omega
   ·
    replace c3:=QQ2 c3
    refine Qag (Qab (Qaa (Qac (V:=.slice a N c) rfl (Qaa (Qac (V:=I6 (mid:Int)) rfl (Qaa (Qac (V:=I6 (i:Int)) rfl (Qaa (Qa4 (a:=(mid:Int)) (b:=(i:Int)) (c:=((mid-i:Nat):Int)) rfl rfl (Qaj (by omega) (by omega)) (Qaa (Qac (V:=I6 (mid:Int)) rfl (Qaa (Qac (V:=I6 (j:Int)) rfl (Qaa (Qav (a:=(mid:Int)) (b:=(j:Int)) (c:=((mid+j:Nat):Int)) rfl rfl (Qaj (by omega) (by omega)) (Qaa (Qac (V:=I6 (i:Int)) rfl (Qaa (Qa4 (a:=((mid+j:Nat):Int)) (b:=(i:Int)) (c:=(((mid+j)-i:Nat):Int)) rfl rfl (Qaj (by omega) (by omega)) (Qaa (Qac (V:=I6 (i:Int)) rfl (Qaa (Qac (V:=.func (.func g) #[] #[]) rfl (Qaa (Qbn (α:=List Cen) (vs:=[.slice a N c,I6 ((mid-i:Nat):Int),I6 (((mid+j)-i:Nat):Int),I6 (i:Int),.func (.func g) #[] #[]]) (V:=fun _=>.tuple #[]) (R:=row (.slice a N c) (m.map cec) 59 7) (R':=fun x=>row (.slice a N c) (x.map cec) 59 7) (Lo:=fun _=>[]) (F:=fun x _=>x.length=N∧x=swN m (mid-i) ((mid+j)-i) i) QlG rfl rfl hs 0 rfl (fun S hS hlt=>QlN _ S a N c m (by first|assumption|omega) hN (mid-i) ((mid+j)-i) i (by omega) (by omega) g hg cf hc hcmp hS hlt) fun mz7 w8 hs hF9=>(Qae (Qab (Qaa (Qac (V:=I6 (j:Int)) rfl (Qaa (Qac (V:=I6 (i:Int)) rfl (Qaa (Qa4 (a:=(j:Int)) (b:=(i:Int)) (c:=((j-i:Nat):Int)) rfl rfl (Qaj (by omega) (by omega)) (Qaa (Qad (V:=I6 ((j-i:Nat):Int)) rfl (Qae ?_))))))))))))))))))))))))))))))))))))
    refine ⟨_,?_,_,i,j-i,mz7,Qah (Qah (Qam (ds:=[10,11,18,19,20,21,22,23,24,25,26,27,28,29,30,31,32,33,34,35,36,37,38,39,40,41,42,43,44,45,46,47,48,49]) (by repeat (first|exact Agr.refl _ _|refine Agr.upd ?_ rfl|refine Agr.mix ?_ rfl))) rfl) rfl,(by omega),(by omega),hF9.1,(by rw [hF9.2];exact Qnk hro (by omega)),rfl,hs.take 1⟩
    omega
  ·
   replace c2:=Qbr c2
   replace c2:=QQ1 c2
   refine Qaz ?_
   have hrl:=Qh6 hro
   have hij:i=j:=by omega
   refine Qab (Qaa (Qac (V:=.slice a N c) rfl (Qaa (Qac (V:=I6 (mid:Int)) rfl (Qaa (Qac (V:=I6 (i:Int)) rfl (Qaa (Qa4 (a:=(mid:Int)) (b:=(i:Int)) (c:=((mid-i:Nat):Int)) rfl rfl (Qaj (by omega) (by omega)) (Qaa (Qac (V:=I6 (mid:Int)) rfl (Qaa (Qac (V:=I6 (i:Int)) rfl (Qaa (Qac (V:=.func (.func g) #[] #[]) rfl (Qaa (Qbn (α:=List Cen) (vs:=[.slice a N c,I6 ((mid-i:Nat):Int),I6 (mid:Int),I6 (i:Int),.func (.func g) #[] #[]]) (V:=fun _=>.tuple #[]) (R:=row (.slice a N c) (m.map cec) 59 7) (R':=fun x=>row (.slice a N c) (x.map cec) 59 7) (Lo:=fun _=>[]) (F:=fun x _=>x.length=N∧x=swN m (mid-i) mid i) QlG rfl rfl hs 0 rfl (fun S hS hlt=>QlN _ S a N c m (by first|assumption|omega) hN (mid-i) mid i (by omega) (by omega) g hg cf hc hcmp hS hlt) fun mz10 w11 hs hF12=>(Qae ?_)))))))))))))))))
   refine ⟨_,Qbo Tryz.results127,?_⟩
   have hxt:mz10=t:=by rw [hF12.2];exact QoE hro (by omega)
   rw [hxt] at hs
   exact ⟨t,rfl,hs.take 1,by rw [← hxt];exact hF12.1,hrt⟩
end Tt
end Go.Proofs
namespace Go.Proofs
open Go Go.Vx Go.RowKit
namespace Tt
theorem QkE (d:Nat) (g:Nat) (hg:En Tryz.prog g) (cf:Cen→Cen→Int) (hc:CmpO cf) (hcmp:∀ (w:World) (x y:Cen),Calls Tryz.prog g #[.agg (cec x).toArray,.agg (cec y).toArray] w (fun e w'=>e = .returned (.int .i64 (cf x y))∧Own w no w' [])) (ih:QrJ Tryz.prog 111 g 59 7 cec cf d) (w:World) (S:Nat→Prop) (a:Option Addr) (N c:Nat) (l:List Cen) (lo mid hi:Nat) (hz:l.length=N) (hN:N≤2305843009213693951) (hd:hi-lo≤d+1) (h1:lo<mid) (h2:mid<hi) (h3:hi≤N) (ho1:Qbe cf l lo mid) (ho2:Qbe cf l mid hi) (hR:(row (.slice a N c) (l.map cec) 59 7).holds w S) (hlt:∀ b,S b→b<w.heap.size):Calls Tryz.prog 111 #[.slice a N c,.int .i64 (lo:Int),.int .i64 (mid:Int),.int .i64 (hi:Int),.func (.func g) #[] #[]] w (fun e w'=>∃ x:List Cen,e = .returned (.tuple #[])∧Own w S w' [row (.slice a N c) (x.map cec) 59 7]∧(x.length=N∧Merged cf l x lo hi)):=by
 refine Qai (n:=220) Tryz.func111 rfl Tryz.ntmps111 rfl ?_
 have hs:=Own.lent hR hlt
 refine Qag (Qag (Qab (Qaa (Qac (V:=I6 (mid:Int)) rfl (Qaa (Qac (V:=I6 (lo:Int)) rfl (Qaa (Qa4 (a:=(mid:Int)) (b:=(lo:Int)) (c:=((mid-lo:Nat):Int)) rfl rfl (Qaj (by omega) (by omega)) (Qaa (QaM rfl rfl (Qae (Qal (t:=decide (((mid-lo:Nat):Int)=1)) rfl (fun c1=>?_) (fun c1=>?_)))))))))))))
 ·
  replace c1:=QQ1 c1
  refine Qag (Qab (Qaa (Qac (V:=I6 (mid:Int)) rfl (Qaa (Qad (V:=I6 (mid:Int)) rfl (Qae (Qag (Qab (Qaa (Qac (V:=I6 (hi:Int)) rfl (Qaa (Qad (V:=I6 (hi:Int)) rfl (Qae (Qag (Qak (Qax (fun ρ μ ρ' w'=>∃ (ρo:Env) (i:Nat) (j:Nat),ρ'=upd (upd (mix [10,11,12,31,32,33,34,35,36,37,38,39,40,41,42,43,44,45,46,47,48,49,50,51,52,53] ρo ρ) 10 (I6 (i:Int))) 11 (I6 (j:Int))∧(mid≤i)∧(i≤j)∧(j≤hi)∧(i=mid∨cf (gd l (i-1)) (gd l lo)<0)∧(j=hi∨¬cf (gd l j) (gd l lo)<0)∧μ=j-i∧Own w S w' [row (.slice a N c) (l.map cec) 59 7]) ?_ ?_))))))))))))))))
  ·exact ⟨_,_,mid,hi,Qah (Qah (Qam (ds:=[10,11,12,31,32,33,34,35,36,37,38,39,40,41,42,43,44,45,46,47,48,49,50,51,52,53]) (Agr.refl _ _)) rfl) rfl,(Nat.le_refl _),(by omega),(Nat.le_refl _),(Or.inl rfl),(Or.inl rfl),rfl,hs⟩
  ·rintro μ ρ' w2 ⟨ρo,i,j,rfl,hi1,hij,hj1,hi2,hj2,rfl,hs⟩
   refine Qag (Qag (Qab (Qaa (Qac (V:=I6 (i:Int)) rfl (Qaa (Qac (V:=I6 (j:Int)) rfl (Qaa (QaP rfl rfl (Qae (Qal (t:=decide ((i:Int)<(j:Int))) rfl (fun c3=>?_) (fun c3=>?_)))))))))))
   ·
    replace c3:=QQ1 c3
    refine Qan (Qak (Qag (Qab (Qaa (Qac (V:=I6 (i:Int)) rfl (Qaa (Qac (V:=I6 (j:Int)) rfl (Qaa (Qav (a:=(i:Int)) (b:=(j:Int)) (c:=((i+j:Nat):Int)) rfl rfl (Qaj (by omega) (by omega)) (Qaa (QbD QfC Qdg rfl (QcX (by omega) (by omega)) (Qaa (Qgr rfl rfl (Qaa (QbD Qdg QfC rfl (Qbh (by omega) (by omega)) (Qaa (Qad (V:=I6 (((i+j)/2:Nat):Int)) rfl (Qae (Qag (QaC HM [some 40,some 41,some 42,some 43,some 44,some 45,some 46,some 47,some 48,some 49,some 50] [] [0,0,0,6,14,0,0,96,224,511,1023] [pv (.func (.func g) #[] #[]),pv (.slice a N c),pv (I6 (((i+j)/2:Nat):Int)),pv (.pointer (some ⟨bkS (.slice a N c),ofS (.slice a N c)+(((i+j)/2:Nat):Int).toNat*7,none⟩)),pv (.agg (cec (gd l ((i+j)/2))).toArray),pv (.slice a N c),pv (I6 (lo:Int)),pv (.pointer (some ⟨bkS (.slice a N c),ofS (.slice a N c)+(lo:Int).toNat*7,none⟩)),pv (.agg (cec (gd l lo)).toArray),pv (I6 (cf (gd l ((i+j)/2)) (gd l lo))),pv (.bool (decide (cf (gd l ((i+j)/2)) (gd l lo)<0)))] (fun _ _=>_) [10] (by kernel_rfl) hs ⟨?_,?_,?_,?_,?_,?_,?_,?_,?_,?_,?_,trivial⟩ ?_))))))))))))))))))))
    ·exact ob [] [] rfl rfl fun D ρ w hs=>Qac (V:=.func (.func g) #[] #[]) rfl ⟨rfl,hs⟩
    ·exact ob [] [] rfl rfl fun D ρ w hs=>Qac (V:=.slice a N c) rfl ⟨rfl,hs⟩
    ·exact ob [] [] rfl rfl fun D ρ w hs=>Qac (V:=I6 (((i+j)/2:Nat):Int)) rfl ⟨rfl,hs⟩
    ·exact ob [1,2] [] rfl rfl fun D ρ w hs=>Qat Qbm QaA.1 (hs.rd 0 rfl) rfl rfl (by omega) (by rw [QQ6];omega) ⟨rfl,hs⟩
    ·exact ob [3] [] rfl rfl fun D ρ w hs=>QaZ (j:=0) (vs:=cec (gd l ((i+j)/2))) ((i+j)/2) QaA (hs.rd 0 rfl) (QaY (by omega)) rfl rfl rfl (by omega) ⟨rfl,hs⟩
    ·exact ob [] [] rfl rfl fun D ρ w hs=>Qac (V:=.slice a N c) rfl ⟨rfl,hs⟩
    ·exact ob [] [] rfl rfl fun D ρ w hs=>Qac (V:=I6 (lo:Int)) rfl ⟨rfl,hs⟩
    ·exact ob [5,6] [] rfl rfl fun D ρ w hs=>Qat Qbm QaA.1 (hs.rd 0 rfl) rfl rfl (by omega) (by rw [QQ6];omega) ⟨rfl,hs⟩
    ·exact ob [7] [] rfl rfl fun D ρ w hs=>QaZ (j:=0) (vs:=cec (gd l lo)) lo QaA (hs.rd 0 rfl) (QaY (by omega)) rfl rfl rfl (by omega) ⟨rfl,hs⟩
    ·exact ob [0,4,8] [] rfl rfl fun D ρ w hs=>Qf2 (vs:=[.agg (cec (gd l ((i+j)/2))).toArray,.agg (cec (gd l lo)).toArray]) (cs:=[]) (V:=I6 (cf (gd l ((i+j)/2)) (gd l lo))) hg rfl rfl (hcmp _ (gd l ((i+j)/2)) (gd l lo)) hs fun _ hs=>⟨rfl,hs⟩
    ·exact ob [9] [] rfl rfl fun D ρ w hs=>QaP rfl rfl ⟨rfl,hs⟩
    rintro ρ1 w5 ρ2 hρ hs
    replace hρ:ρ2=upd (mix [40,41,42,43,44,45,46,47,48,49,50] ρ1 _) 50 (.bool (decide (cf (gd l ((i+j)/2)) (gd l lo)<0))):=hρ
    subst hρ
    refine Qal (t:=decide (cf (gd l ((i+j)/2)) (gd l lo)<0)) rfl (fun c6=>?_) (fun c6=>?_)
    ·
     replace c6:=QQ1 c6
     refine Qab (Qaa (Qac (V:=I6 (((i+j)/2:Nat):Int)) rfl (Qaa (Qav (a:=(((i+j)/2:Nat):Int)) (b:=1) (c:=((((i+j)/2)+1:Nat):Int)) rfl rfl (Qaj (by omega) (by omega)) (Qaa (Qad (V:=I6 ((((i+j)/2)+1:Nat):Int)) rfl (Qae ?_)))))))
     refine ⟨_,?_,_,((i+j)/2)+1,j,Qah (Qah (Qam (ds:=[10,11,12,31,32,33,34,35,36,37,38,39,40,41,42,43,44,45,46,47,48,49,50,51,52,53]) (by repeat (first|exact Agr.refl _ _|refine Agr.upd ?_ rfl|refine Agr.mix ?_ rfl))) rfl) rfl,(by omega),(by omega),(by omega),(Or.inr (by rw [Nat.add_sub_cancel];exact c6)),hj2,rfl,hs.take 1⟩
     omega
    ·
     replace c6:=QQ2 c6
     refine Qab (Qaa (Qac (V:=I6 (((i+j)/2:Nat):Int)) rfl (Qaa (Qad (V:=I6 (((i+j)/2:Nat):Int)) rfl (Qae ?_)))))
     refine ⟨_,?_,_,i,(i+j)/2,Qah (Qah (Qam (ds:=[10,11,12,31,32,33,34,35,36,37,38,39,40,41,42,43,44,45,46,47,48,49,50,51,52,53]) (by repeat (first|exact Agr.refl _ _|refine Agr.upd ?_ rfl|refine Agr.mix ?_ rfl))) rfl) rfl,(by omega),(by omega),(by omega),hi2,(Or.inr c6),rfl,hs.take 1⟩
     omega
   ·
    replace c3:=QQ2 c3
    refine Qaz (Qag (Qag (Qab (Qaa (Qac (V:=I6 (lo:Int)) rfl (Qaa (Qad (V:=I6 (lo:Int)) rfl (Qae (Qak ?_)))))))))
    have hie:i=j:=by omega
    refine Qax (fun ρ μ ρ' w'=>∃ (ρo:Env) (k:Nat) (m:List Cen),ρ'=upd (mix [13,55,56,57,58,59,60,61,62,63,64,65,66,67,68,69,70,71,72,73,74,75,76] ρo ρ) 13 (I6 (k:Int))∧(lo≤k)∧(k+1≤i)∧(m.length=N)∧(QbY l m lo (lo+1) (k+1))∧μ=i-k∧Own w S w' [row (.slice a N c) (m.map cec) 59 7]) ?_ ?_
    ·exact ⟨_,_,lo,l,Qah (Qam (ds:=[13,55,56,57,58,59,60,61,62,63,64,65,66,67,68,69,70,71,72,73,74,75,76]) (Agr.refl _ _)) rfl,(Nat.le_refl _),(by omega),hz,(QbY.refl (by omega) (by omega) (by omega) (Or.inr rfl)),rfl,hs⟩
    ·rintro μ ρ' w7 ⟨ρo,k,m,rfl,hk1,hk2,hz1,hro,rfl,hs⟩
     refine Qag (Qag (Qab (Qaa (Qac (V:=I6 (k:Int)) rfl (Qaa (Qac (V:=I6 (i:Int)) rfl (Qaa (Qa4 (a:=(i:Int)) (b:=1) (c:=((i-1:Nat):Int)) rfl rfl (Qaj (by omega) (by omega)) (Qaa (QaP rfl rfl (Qae (Qal (t:=decide ((k:Int)<((i-1:Nat):Int))) rfl (fun c8=>?_) (fun c8=>?_)))))))))))))
     ·
      replace c8:=QQ1 c8
      refine Qan (Qag (Qak (QaC HM [some 61,some 62,some 63,some 64,some 65,some 66,some 67,some 68,some 69,some 70,some 71,some 72,some 73,some 74,some 75,none,some 76,none] [] [0,0,0,0,8,0,0,64,224,480,0,0,3072,7168,16355,32739,65535,131071] [pv (.slice a N c),pv (I6 (k:Int)),pv (.slice a N c),pv (I6 (k:Int)),pv (I6 ((k+1:Nat):Int)),pv (.slice a N c),pv (I6 (k:Int)),pv (I6 ((k+1:Nat):Int)),pv (.pointer (some ⟨bkS (.slice a N c),ofS (.slice a N c)+((k+1:Nat):Int).toNat*7,none⟩)),pv (.agg (cec (gd m (k+1))).toArray),pv (.slice a N c),pv (I6 (k:Int)),pv (.pointer (some ⟨bkS (.slice a N c),ofS (.slice a N c)+(k:Int).toNat*7,none⟩)),pv (.agg (cec (gd m k)).toArray),pv (.pointer (some ⟨bkS (.slice a N c),ofS (.slice a N c)+(k:Int).toNat*7,none⟩)),pn,pv (.pointer (some ⟨bkS (.slice a N c),ofS (.slice a N c)+((k+1:Nat):Int).toNat*7,none⟩)),pn] (fun D ρ=>[cond (D 17) (row (.slice a N c) (((m.set k (gd m (k+1))).set (k+1) (gd m k)).map cec) 59 7) (cond (D 15) (row (.slice a N c) ((m.set k (gd m (k+1))).map cec) 59 7) (row (.slice a N c) (m.map cec) 59 7))]) [] (by kernel_rfl) hs ⟨?_,?_,?_,?_,?_,?_,?_,?_,?_,?_,?_,?_,?_,?_,?_,?_,?_,?_,trivial⟩ ?_)))
      ·exact ob [] [] rfl rfl fun D ρ w hs=>Qac (V:=.slice a N c) rfl ⟨rfl,hs⟩
      ·exact ob [] [] rfl rfl fun D ρ w hs=>Qac (V:=I6 (k:Int)) rfl ⟨rfl,hs⟩
      ·exact ob [] [] rfl rfl fun D ρ w hs=>Qac (V:=.slice a N c) rfl ⟨rfl,hs⟩
      ·exact ob [] [] rfl rfl fun D ρ w hs=>Qac (V:=I6 (k:Int)) rfl ⟨rfl,hs⟩
      ·exact ob [3] [] rfl rfl fun D ρ w hs=>Qav (a:=(k:Int)) (b:=1) (c:=((k+1:Nat):Int)) rfl rfl (Qaj (by omega) (by omega)) ⟨rfl,hs⟩
      ·exact ob [] [] rfl rfl fun D ρ w hs=>Qac (V:=.slice a N c) rfl ⟨rfl,hs⟩
      ·exact ob [] [] rfl rfl fun D ρ w hs=>Qac (V:=I6 (k:Int)) rfl ⟨rfl,hs⟩
      ·exact ob [6] [] rfl rfl fun D ρ w hs=>Qav (a:=(k:Int)) (b:=1) (c:=((k+1:Nat):Int)) rfl rfl (Qaj (by omega) (by omega)) ⟨rfl,hs⟩
      ·exact ob [5,7] [15,17] rfl rfl fun D ρ w hs=>Qat Qbm QaA.1 (hs.rd 0 rfl) rfl rfl (by omega) (by rw [QQ6];omega) ⟨rfl,hs⟩
      ·exact ob [8] [15,17] rfl rfl fun D ρ w hs=>QaZ (j:=0) (vs:=cec (gd m (k+1))) (k+1) QaA (hs.rd 0 rfl) (QaY (by omega)) rfl rfl rfl (by omega) ⟨rfl,hs⟩
      ·exact ob [] [] rfl rfl fun D ρ w hs=>Qac (V:=.slice a N c) rfl ⟨rfl,hs⟩
      ·exact ob [] [] rfl rfl fun D ρ w hs=>Qac (V:=I6 (k:Int)) rfl ⟨rfl,hs⟩
      ·exact ob [10,11] [15,17] rfl rfl fun D ρ w hs=>Qat Qbm QaA.1 (hs.rd 0 rfl) rfl rfl (by omega) (by rw [QQ6];omega) ⟨rfl,hs⟩
      ·exact ob [12] [15,17] rfl rfl fun D ρ w hs=>QaZ (j:=0) (vs:=cec (gd m k)) k QaA (hs.rd 0 rfl) (QaY (by omega)) rfl rfl rfl (by omega) ⟨rfl,hs⟩
      ·exact ob [0,1] [15,17] rfl rfl fun D ρ w hs=>Qat Qbm QaA.1 (hs.rd 0 rfl) rfl rfl (by omega) (by rw [QQ6];omega) ⟨rfl,hs⟩
      ·exact ob [9,14] [17] rfl rfl fun D ρ w hs=>QgR (z:=gd m (k+1)) k QaA.1 hs 0 rfl rfl rfl (by first|omega|(simp only [List.length_set];omega)) rfl rfl rfl (Qa2 _) fun _ hs=>⟨trivial,hs⟩
      ·exact ob [2,4,15] [17] rfl rfl fun D ρ w hs=>Qat Qbm QaA.1 (hs.rd 0 rfl) rfl rfl (by omega) (by simp only [QQ6,List.length_set];omega) ⟨rfl,hs⟩
      ·exact ob [13,15,16] [] rfl rfl fun D ρ w hs=>QgR (z:=gd m k) (k+1) QaA.1 hs 0 rfl rfl rfl (by first|omega|(simp only [List.length_set];omega)) rfl rfl rfl (Qa2 _) fun _ hs=>⟨trivial,hs⟩
      rintro ρ1 w11 ρ2 hρ hs
      replace hρ:ρ2=mix [61,62,63,64,65,66,67,68,69,70,71,72,73,74,75,76] ρ1 _:=hρ
      replace hs:Own w S w11 [row (.slice a N c) (((m.set k (gd m (k+1))).set (k+1) (gd m k)).map cec) 59 7]:=hs
      subst hρ
      replace hs:Own w S _ [row (.slice a N c) ((swL m k (k+1)).map cec) 59 7]:=hs.take 1
      refine Qab (Qaa (Qac (V:=I6 (k:Int)) rfl (Qaa (Qav (a:=(k:Int)) (b:=1) (c:=((k+1:Nat):Int)) rfl rfl (Qaj (by omega) (by omega)) (Qaa (Qad (V:=I6 ((k+1:Nat):Int)) rfl (Qae ?_)))))))
      refine ⟨_,?_,_,k+1,swL m k (k+1),Qah (Qam (ds:=[13,55,56,57,58,59,60,61,62,63,64,65,66,67,68,69,70,71,72,73,74,75,76]) (by repeat (first|exact Agr.refl _ _|refine Agr.upd ?_ rfl|refine Agr.mix ?_ rfl))) rfl,(by omega),(by omega),(by rw [Qha];exact hz1),(Qsm hro (by omega)),rfl,hs.take 1⟩
      omega
     ·
      replace c8:=QQ2 c8
      refine Qaz (Qas ?_)
      refine ⟨_,Qbo Tryz.results111,?_⟩
      have hke:k+1=i:=by omega
      rw [hke] at hro
      exact ⟨m,rfl,hs.take 1,hz1,QsE hc (by rw [show lo+1=mid by omega];exact ho2) (by omega) (by omega) (by omega) hro (by rw [hie];exact hj2) (by rw [show lo+1=mid by omega];exact hi2)⟩
 ·
  replace c1:=QQ2 c1
  refine Qan (Qag (Qag (Qab (Qaa (Qac (V:=I6 (hi:Int)) rfl (Qaa (Qac (V:=I6 (mid:Int)) rfl (Qaa (Qa4 (a:=(hi:Int)) (b:=(mid:Int)) (c:=((hi-mid:Nat):Int)) rfl rfl (Qaj (by omega) (by omega)) (Qaa (QaM rfl rfl (Qae (Qal (t:=decide (((hi-mid:Nat):Int)=1)) rfl (fun c12=>?_) (fun c12=>?_))))))))))))))
  ·
   replace c12:=QQ1 c12
   refine Qag (Qab (Qaa (Qac (V:=I6 (lo:Int)) rfl (Qaa (Qad (V:=I6 (lo:Int)) rfl (Qae (Qag (Qab (Qaa (Qac (V:=I6 (mid:Int)) rfl (Qaa (Qad (V:=I6 (mid:Int)) rfl (Qae (Qag (Qak (Qax (fun ρ μ ρ' w'=>∃ (ρo:Env) (i:Nat) (j:Nat),ρ'=upd (upd (mix [14,15,16,83,84,85,86,87,88,89,90,91,92,93,94,95,96,97,98,99,100,101,102,103,104,105,106] ρo ρ) 14 (I6 (i:Int))) 15 (I6 (j:Int))∧(lo≤i)∧(i≤j)∧(j≤mid)∧(i=lo∨¬cf (gd l mid) (gd l (i-1))<0)∧(j=mid∨cf (gd l mid) (gd l j)<0)∧μ=j-i∧Own w S w' [row (.slice a N c) (l.map cec) 59 7]) ?_ ?_))))))))))))))))
   ·exact ⟨_,_,lo,mid,Qah (Qah (Qam (ds:=[14,15,16,83,84,85,86,87,88,89,90,91,92,93,94,95,96,97,98,99,100,101,102,103,104,105,106]) (Agr.refl _ _)) rfl) rfl,(Nat.le_refl _),(by omega),(Nat.le_refl _),(Or.inl rfl),(Or.inl rfl),rfl,hs⟩
   ·rintro μ ρ' w13 ⟨ρo,i,j,rfl,hi1,hij,hj1,hi2,hj2,rfl,hs⟩
    refine Qag (Qag (Qab (Qaa (Qac (V:=I6 (i:Int)) rfl (Qaa (Qac (V:=I6 (j:Int)) rfl (Qaa (QaP rfl rfl (Qae (Qal (t:=decide ((i:Int)<(j:Int))) rfl (fun c14=>?_) (fun c14=>?_)))))))))))
    ·
     replace c14:=QQ1 c14
     refine Qan (Qak (Qag (Qab (Qaa (Qac (V:=I6 (i:Int)) rfl (Qaa (Qac (V:=I6 (j:Int)) rfl (Qaa (Qav (a:=(i:Int)) (b:=(j:Int)) (c:=((i+j:Nat):Int)) rfl rfl (Qaj (by omega) (by omega)) (Qaa (QbD QfC Qdg rfl (QcX (by omega) (by omega)) (Qaa (Qgr rfl rfl (Qaa (QbD Qdg QfC rfl (Qbh (by omega) (by omega)) (Qaa (Qad (V:=I6 (((i+j)/2:Nat):Int)) rfl (Qae (Qag (QaC HM [some 92,some 93,some 94,some 95,some 96,some 97,some 98,some 99,some 100,some 101,some 102,some 103] [] [0,0,0,6,14,0,0,96,224,511,1023,2047] [pv (.func (.func g) #[] #[]),pv (.slice a N c),pv (I6 (mid:Int)),pv (.pointer (some ⟨bkS (.slice a N c),ofS (.slice a N c)+(mid:Int).toNat*7,none⟩)),pv (.agg (cec (gd l mid)).toArray),pv (.slice a N c),pv (I6 (((i+j)/2:Nat):Int)),pv (.pointer (some ⟨bkS (.slice a N c),ofS (.slice a N c)+(((i+j)/2:Nat):Int).toNat*7,none⟩)),pv (.agg (cec (gd l ((i+j)/2))).toArray),pv (I6 (cf (gd l mid) (gd l ((i+j)/2)))),pv (.bool (decide (cf (gd l mid) (gd l ((i+j)/2))<0))),pv (.bool (!decide (cf (gd l mid) (gd l ((i+j)/2))<0)))] (fun _ _=>_) [11] (by kernel_rfl) hs ⟨?_,?_,?_,?_,?_,?_,?_,?_,?_,?_,?_,?_,trivial⟩ ?_))))))))))))))))))))
     ·exact ob [] [] rfl rfl fun D ρ w hs=>Qac (V:=.func (.func g) #[] #[]) rfl ⟨rfl,hs⟩
     ·exact ob [] [] rfl rfl fun D ρ w hs=>Qac (V:=.slice a N c) rfl ⟨rfl,hs⟩
     ·exact ob [] [] rfl rfl fun D ρ w hs=>Qac (V:=I6 (mid:Int)) rfl ⟨rfl,hs⟩
     ·exact ob [1,2] [] rfl rfl fun D ρ w hs=>Qat Qbm QaA.1 (hs.rd 0 rfl) rfl rfl (by omega) (by rw [QQ6];omega) ⟨rfl,hs⟩
     ·exact ob [3] [] rfl rfl fun D ρ w hs=>QaZ (j:=0) (vs:=cec (gd l mid)) mid QaA (hs.rd 0 rfl) (QaY (by omega)) rfl rfl rfl (by omega) ⟨rfl,hs⟩
     ·exact ob [] [] rfl rfl fun D ρ w hs=>Qac (V:=.slice a N c) rfl ⟨rfl,hs⟩
     ·exact ob [] [] rfl rfl fun D ρ w hs=>Qac (V:=I6 (((i+j)/2:Nat):Int)) rfl ⟨rfl,hs⟩
     ·exact ob [5,6] [] rfl rfl fun D ρ w hs=>Qat Qbm QaA.1 (hs.rd 0 rfl) rfl rfl (by omega) (by rw [QQ6];omega) ⟨rfl,hs⟩
     ·exact ob [7] [] rfl rfl fun D ρ w hs=>QaZ (j:=0) (vs:=cec (gd l ((i+j)/2))) ((i+j)/2) QaA (hs.rd 0 rfl) (QaY (by omega)) rfl rfl rfl (by omega) ⟨rfl,hs⟩
     ·exact ob [0,4,8] [] rfl rfl fun D ρ w hs=>Qf2 (vs:=[.agg (cec (gd l mid)).toArray,.agg (cec (gd l ((i+j)/2))).toArray]) (cs:=[]) (V:=I6 (cf (gd l mid) (gd l ((i+j)/2)))) hg rfl rfl (hcmp _ (gd l mid) (gd l ((i+j)/2))) hs fun _ hs=>⟨rfl,hs⟩
     ·exact ob [9] [] rfl rfl fun D ρ w hs=>QaP rfl rfl ⟨rfl,hs⟩
     ·exact ob [10] [] rfl rfl fun D ρ w hs=>Qbw rfl ⟨rfl,hs⟩
     rintro ρ1 w16 ρ2 hρ hs
     replace hρ:ρ2=upd (mix [92,93,94,95,96,97,98,99,100,101,102,103] ρ1 _) 103 (.bool (!decide (cf (gd l mid) (gd l ((i+j)/2))<0))):=hρ
     subst hρ
     refine Qal (t:=!decide (cf (gd l mid) (gd l ((i+j)/2))<0)) rfl (fun c17=>?_) (fun c17=>?_)
     ·
      replace c17:=QbL c17
      replace c17:=QQ2 c17
      refine Qab (Qaa (Qac (V:=I6 (((i+j)/2:Nat):Int)) rfl (Qaa (Qav (a:=(((i+j)/2:Nat):Int)) (b:=1) (c:=((((i+j)/2)+1:Nat):Int)) rfl rfl (Qaj (by omega) (by omega)) (Qaa (Qad (V:=I6 ((((i+j)/2)+1:Nat):Int)) rfl (Qae ?_)))))))
      refine ⟨_,?_,_,((i+j)/2)+1,j,Qah (Qah (Qam (ds:=[14,15,16,83,84,85,86,87,88,89,90,91,92,93,94,95,96,97,98,99,100,101,102,103,104,105,106]) (by repeat (first|exact Agr.refl _ _|refine Agr.upd ?_ rfl|refine Agr.mix ?_ rfl))) rfl) rfl,(by omega),(by omega),(by omega),(Or.inr (by rw [Nat.add_sub_cancel];exact c17)),hj2,rfl,hs.take 1⟩
      omega
     ·
      replace c17:=Qbr c17
      replace c17:=QQ1 c17
      refine Qab (Qaa (Qac (V:=I6 (((i+j)/2:Nat):Int)) rfl (Qaa (Qad (V:=I6 (((i+j)/2:Nat):Int)) rfl (Qae ?_)))))
      refine ⟨_,?_,_,i,(i+j)/2,Qah (Qah (Qam (ds:=[14,15,16,83,84,85,86,87,88,89,90,91,92,93,94,95,96,97,98,99,100,101,102,103,104,105,106]) (by repeat (first|exact Agr.refl _ _|refine Agr.upd ?_ rfl|refine Agr.mix ?_ rfl))) rfl) rfl,(by omega),(by omega),(by omega),hi2,(Or.inr c17),rfl,hs.take 1⟩
      omega
    ·
     replace c14:=QQ2 c14
     refine Qaz (Qag (Qag (Qab (Qaa (Qac (V:=I6 (mid:Int)) rfl (Qaa (Qad (V:=I6 (mid:Int)) rfl (Qae (Qak ?_)))))))))
     have hie:i=j:=by omega
     refine Qax (fun ρ μ ρ' w'=>∃ (ρo:Env) (k:Nat) (m:List Cen),ρ'=upd (mix [17,108,109,110,111,112,113,114,115,116,117,118,119,120,121,122,123,124,125,126,127,128] ρo ρ) 17 (I6 (k:Int))∧(i≤k)∧(k≤mid)∧(m.length=N)∧(QbY l m k mid (mid+1))∧μ=k+1∧Own w S w' [row (.slice a N c) (m.map cec) 59 7]) ?_ ?_
     ·exact ⟨_,_,mid,l,Qah (Qam (ds:=[17,108,109,110,111,112,113,114,115,116,117,118,119,120,121,122,123,124,125,126,127,128]) (Agr.refl _ _)) rfl,(by omega),(Nat.le_refl _),hz,(QbY.refl (by omega) (by omega) (by omega) (Or.inl rfl)),rfl,hs⟩
     ·rintro μ ρ' w18 ⟨ρo,k,m,rfl,hk1,hk2,hz1,hro,rfl,hs⟩
      refine Qag (Qag (Qab (Qaa (Qac (V:=I6 (k:Int)) rfl (Qaa (Qac (V:=I6 (i:Int)) rfl (Qaa (Qcb rfl rfl (Qae (Qal (t:=decide ((i:Int)<(k:Int))) rfl (fun c19=>?_) (fun c19=>?_)))))))))))
      ·
       replace c19:=QQ1 c19
       refine Qan (Qag (Qak (QaC HM [some 113,some 114,some 115,some 116,some 117,some 118,some 119,some 120,some 121,some 122,some 123,some 124,some 125,some 126,some 127,none,some 128,none] [] [0,0,0,0,8,0,0,64,224,480,0,0,3072,7168,16355,32739,65535,131071] [pv (.slice a N c),pv (I6 (k:Int)),pv (.slice a N c),pv (I6 (k:Int)),pv (I6 ((k-1:Nat):Int)),pv (.slice a N c),pv (I6 (k:Int)),pv (I6 ((k-1:Nat):Int)),pv (.pointer (some ⟨bkS (.slice a N c),ofS (.slice a N c)+((k-1:Nat):Int).toNat*7,none⟩)),pv (.agg (cec (gd m (k-1))).toArray),pv (.slice a N c),pv (I6 (k:Int)),pv (.pointer (some ⟨bkS (.slice a N c),ofS (.slice a N c)+(k:Int).toNat*7,none⟩)),pv (.agg (cec (gd m k)).toArray),pv (.pointer (some ⟨bkS (.slice a N c),ofS (.slice a N c)+(k:Int).toNat*7,none⟩)),pn,pv (.pointer (some ⟨bkS (.slice a N c),ofS (.slice a N c)+((k-1:Nat):Int).toNat*7,none⟩)),pn] (fun D ρ=>[cond (D 17) (row (.slice a N c) (((m.set k (gd m (k-1))).set (k-1) (gd m k)).map cec) 59 7) (cond (D 15) (row (.slice a N c) ((m.set k (gd m (k-1))).map cec) 59 7) (row (.slice a N c) (m.map cec) 59 7))]) [] (by kernel_rfl) hs ⟨?_,?_,?_,?_,?_,?_,?_,?_,?_,?_,?_,?_,?_,?_,?_,?_,?_,?_,trivial⟩ ?_)))
       ·exact ob [] [] rfl rfl fun D ρ w hs=>Qac (V:=.slice a N c) rfl ⟨rfl,hs⟩
       ·exact ob [] [] rfl rfl fun D ρ w hs=>Qac (V:=I6 (k:Int)) rfl ⟨rfl,hs⟩
       ·exact ob [] [] rfl rfl fun D ρ w hs=>Qac (V:=.slice a N c) rfl ⟨rfl,hs⟩
       ·exact ob [] [] rfl rfl fun D ρ w hs=>Qac (V:=I6 (k:Int)) rfl ⟨rfl,hs⟩
       ·exact ob [3] [] rfl rfl fun D ρ w hs=>Qa4 (a:=(k:Int)) (b:=1) (c:=((k-1:Nat):Int)) rfl rfl (Qaj (by omega) (by omega)) ⟨rfl,hs⟩
       ·exact ob [] [] rfl rfl fun D ρ w hs=>Qac (V:=.slice a N c) rfl ⟨rfl,hs⟩
       ·exact ob [] [] rfl rfl fun D ρ w hs=>Qac (V:=I6 (k:Int)) rfl ⟨rfl,hs⟩
       ·exact ob [6] [] rfl rfl fun D ρ w hs=>Qa4 (a:=(k:Int)) (b:=1) (c:=((k-1:Nat):Int)) rfl rfl (Qaj (by omega) (by omega)) ⟨rfl,hs⟩
       ·exact ob [5,7] [15,17] rfl rfl fun D ρ w hs=>Qat Qbm QaA.1 (hs.rd 0 rfl) rfl rfl (by omega) (by rw [QQ6];omega) ⟨rfl,hs⟩
       ·exact ob [8] [15,17] rfl rfl fun D ρ w hs=>QaZ (j:=0) (vs:=cec (gd m (k-1))) (k-1) QaA (hs.rd 0 rfl) (QaY (by omega)) rfl rfl rfl (by omega) ⟨rfl,hs⟩
       ·exact ob [] [] rfl rfl fun D ρ w hs=>Qac (V:=.slice a N c) rfl ⟨rfl,hs⟩
       ·exact ob [] [] rfl rfl fun D ρ w hs=>Qac (V:=I6 (k:Int)) rfl ⟨rfl,hs⟩
       ·exact ob [10,11] [15,17] rfl rfl fun D ρ w hs=>Qat Qbm QaA.1 (hs.rd 0 rfl) rfl rfl (by omega) (by rw [QQ6];omega) ⟨rfl,hs⟩
       ·exact ob [12] [15,17] rfl rfl fun D ρ w hs=>QaZ (j:=0) (vs:=cec (gd m k)) k QaA (hs.rd 0 rfl) (QaY (by omega)) rfl rfl rfl (by omega) ⟨rfl,hs⟩
       ·exact ob [0,1] [15,17] rfl rfl fun D ρ w hs=>Qat Qbm QaA.1 (hs.rd 0 rfl) rfl rfl (by omega) (by rw [QQ6];omega) ⟨rfl,hs⟩
       ·exact ob [9,14] [17] rfl rfl fun D ρ w hs=>QgR (z:=gd m (k-1)) k QaA.1 hs 0 rfl rfl rfl (by first|omega|(simp only [List.length_set];omega)) rfl rfl rfl (Qa2 _) fun _ hs=>⟨trivial,hs⟩
       ·exact ob [2,4,15] [17] rfl rfl fun D ρ w hs=>Qat Qbm QaA.1 (hs.rd 0 rfl) rfl rfl (by omega) (by simp only [QQ6,List.length_set];omega) ⟨rfl,hs⟩
       ·exact ob [13,15,16] [] rfl rfl fun D ρ w hs=>QgR (z:=gd m k) (k-1) QaA.1 hs 0 rfl rfl rfl (by first|omega|(simp only [List.length_set];omega)) rfl rfl rfl (Qa2 _) fun _ hs=>⟨trivial,hs⟩
       rintro ρ1 w22 ρ2 hρ hs
       replace hρ:ρ2=mix [113,114,115,116,117,118,119,120,121,122,123,124,125,126,127,128] ρ1 _:=hρ
       replace hs:Own w S w22 [row (.slice a N c) (((m.set k (gd m (k-1))).set (k-1) (gd m k)).map cec) 59 7]:=hs
       subst hρ
       replace hs:Own w S _ [row (.slice a N c) ((swL m k (k-1)).map cec) 59 7]:=hs.take 1
       refine Qab (Qaa (Qac (V:=I6 (k:Int)) rfl (Qaa (Qa4 (a:=(k:Int)) (b:=1) (c:=((k-1:Nat):Int)) rfl rfl (Qaj (by omega) (by omega)) (Qaa (Qad (V:=I6 ((k-1:Nat):Int)) rfl (Qae ?_)))))))
       refine ⟨_,?_,_,k-1,swL m k (k-1),Qah (Qam (ds:=[17,108,109,110,111,112,113,114,115,116,117,118,119,120,121,122,123,124,125,126,127,128]) (by repeat (first|exact Agr.refl _ _|refine Agr.upd ?_ rfl|refine Agr.mix ?_ rfl))) rfl,(by omega),(by omega),(by rw [Qha];exact hz1),(Qoo hro (by omega)),rfl,hs.take 1⟩
       omega
      ·
       replace c19:=QQ2 c19
       refine Qaz (Qas ?_)
       refine ⟨_,Qbo Tryz.results111,?_⟩
       have hke:k=i:=by omega
       rw [hke] at hro
       have hm:=QnQ hc ho1 hi1 (by omega) (by omega) hro hi2 (by rw [hie];exact hj2)
       rw [show mid+1=hi by omega] at hm
       exact ⟨m,rfl,hs.take 1,hz1,hm⟩
  ·
   replace c12:=QQ2 c12
   refine Qan (Qag (Qab (Qaa (Qac (V:=I6 (lo:Int)) rfl (Qaa (Qac (V:=I6 (hi:Int)) rfl (Qaa (Qav (a:=(lo:Int)) (b:=(hi:Int)) (c:=((lo+hi:Nat):Int)) rfl rfl (Qaj (by omega) (by omega)) (Qaa (QbD QfC Qdg rfl (QcX (by omega) (by omega)) (Qaa (Qgr rfl rfl (Qaa (QbD Qdg QfC rfl (Qbh (by omega) (by omega)) (Qaa (Qad (V:=I6 (((lo+hi)/2:Nat):Int)) rfl (Qae (Qag (Qab (Qaa (Qac (V:=I6 (((lo+hi)/2:Nat):Int)) rfl (Qaa (Qac (V:=I6 (mid:Int)) rfl (Qaa (Qav (a:=(((lo+hi)/2:Nat):Int)) (b:=(mid:Int)) (c:=((((lo+hi)/2)+mid:Nat):Int)) rfl rfl (Qaj (by omega) (by omega)) (Qaa (Qad (V:=I6 ((((lo+hi)/2)+mid:Nat):Int)) rfl (Qae (Qag (Qab (Qaa (Qad (V:=I6 0) rfl (Qaa (Qad (V:=I6 0) rfl (Qae (Qag (Qag (Qab (Qaa (Qac (V:=I6 (mid:Int)) rfl (Qaa (Qac (V:=I6 (((lo+hi)/2:Nat):Int)) rfl (Qaa (Qcb rfl rfl (Qae (Qfx (fun ρ ρ' w'=>∃ (ρo:Env) (s0:Nat) (r0:Nat),ρ'=upd (upd (mix [20,21,141,142,143,144,145,146] ρo ρ) 20 (I6 (s0:Int))) 21 (I6 (r0:Int))∧(lo≤s0)∧(s0≤r0)∧(r0≤mid)∧(r0≤(lo+hi)/2)∧((lo+hi)/2+mid≤hi+s0)∧(s0=lo∨(lo+hi)/2+mid=hi+s0)∧(r0=mid∨r0=(lo+hi)/2)∧Own w S w' [row (.slice a N c) (l.map cec) 59 7]) ?_ ?_))))))))))))))))))))))))))))))))))))))))))))))
   ·
    refine Qal (t:=decide ((((lo+hi)/2:Nat):Int)<(mid:Int))) rfl (fun c23=>?_) (fun c23=>?_)
    ·
     replace c23:=QQ1 c23
     refine Qag (Qab (Qaa (Qac (V:=I6 ((((lo+hi)/2)+mid:Nat):Int)) rfl (Qaa (Qac (V:=I6 (hi:Int)) rfl (Qaa (Qa4 (a:=((((lo+hi)/2)+mid:Nat):Int)) (b:=(hi:Int)) (c:=(((((lo+hi)/2)+mid)-hi:Nat):Int)) rfl rfl (Qaj (by omega) (by omega)) (Qaa (Qad (V:=I6 (((((lo+hi)/2)+mid)-hi:Nat):Int)) rfl (Qae (Qab (Qaa (Qac (V:=I6 (((lo+hi)/2:Nat):Int)) rfl (Qaa (Qad (V:=I6 (((lo+hi)/2:Nat):Int)) rfl (Qae ?_))))))))))))))))
     exact ⟨_,(((lo+hi)/2)+mid)-hi,(lo+hi)/2,Qah (Qah (Qam (ds:=[20,21,141,142,143,144,145,146]) (by repeat (first|exact Agr.refl _ _|refine Agr.upd ?_ rfl|refine Agr.mix ?_ rfl))) rfl) rfl,(by omega),(by omega),(by omega),(by omega),(by omega),(by omega),(by omega),hs.take 1⟩
    ·
     replace c23:=QQ2 c23
     refine Qag (Qab (Qaa (Qac (V:=I6 (lo:Int)) rfl (Qaa (Qad (V:=I6 (lo:Int)) rfl (Qae (Qab (Qaa (Qac (V:=I6 (mid:Int)) rfl (Qaa (Qad (V:=I6 (mid:Int)) rfl (Qae ?_))))))))))))
     exact ⟨_,lo,mid,Qah (Qah (Qam (ds:=[20,21,141,142,143,144,145,146]) (by repeat (first|exact Agr.refl _ _|refine Agr.upd ?_ rfl|refine Agr.mix ?_ rfl))) rfl) rfl,(by omega),(by omega),(by omega),(by omega),(by omega),(by omega),(by omega),hs.take 1⟩
   ·rintro ρ' w24 ⟨ρo,s0,r0,rfl,q1,q2,q3,q4,q5,q6,q7,hs⟩
    refine Qag (Qab (Qaa (Qac (V:=I6 ((((lo+hi)/2)+mid:Nat):Int)) rfl (Qaa (Qa4 (a:=((((lo+hi)/2)+mid:Nat):Int)) (b:=1) (c:=(((((lo+hi)/2)+mid)-1:Nat):Int)) rfl rfl (Qaj (by omega) (by omega)) (Qaa (Qad (V:=I6 (((((lo+hi)/2)+mid)-1:Nat):Int)) rfl (Qae (Qag (Qak (Qax (fun ρ μ ρ' w'=>∃ (ρo:Env) (s:Nat) (r:Nat),ρ'=upd (upd (mix [20,21,23,149,150,151,152,153,154,155,156,157,158,159,160,161,162,163,164,165,166,167,168,169,170,171,172,173,174] ρo ρ) 20 (I6 (s:Int))) 21 (I6 (r:Int))∧(s0≤s)∧(s≤r)∧(r≤r0)∧(s=s0∨¬cf (gd l ((lo+hi)/2+mid-1-(s-1))) (gd l (s-1))<0)∧(r=r0∨cf (gd l ((lo+hi)/2+mid-1-r)) (gd l r)<0)∧μ=r-s∧Own w S w' [row (.slice a N c) (l.map cec) 59 7]) ?_ ?_)))))))))))
    ·exact ⟨_,_,s0,r0,Qah (Qah (Qam (ds:=[20,21,23,149,150,151,152,153,154,155,156,157,158,159,160,161,162,163,164,165,166,167,168,169,170,171,172,173,174]) (Agr.refl _ _)) rfl) rfl,(Nat.le_refl _),(by omega),(Nat.le_refl _),(Or.inl rfl),(Or.inl rfl),rfl,hs⟩
    ·rintro μ ρ' w25 ⟨ρo,s,r,rfl,hs1,hsr,hr1,hs2,hr2,rfl,hs⟩
     refine Qag (Qag (Qab (Qaa (Qac (V:=I6 (s:Int)) rfl (Qaa (Qac (V:=I6 (r:Int)) rfl (Qaa (QaP rfl rfl (Qae (Qal (t:=decide ((s:Int)<(r:Int))) rfl (fun c26=>?_) (fun c26=>?_)))))))))))
     ·
      replace c26:=QQ1 c26
      refine Qan (Qak (Qag (Qab (Qaa (Qac (V:=I6 (s:Int)) rfl (Qaa (Qac (V:=I6 (r:Int)) rfl (Qaa (Qav (a:=(s:Int)) (b:=(r:Int)) (c:=((s+r:Nat):Int)) rfl rfl (Qaj (by omega) (by omega)) (Qaa (QbD QfC Qdg rfl (QcX (by omega) (by omega)) (Qaa (Qgr rfl rfl (Qaa (QbD Qdg QfC rfl (Qbh (by omega) (by omega)) (Qaa (Qad (V:=I6 (((s+r)/2:Nat):Int)) rfl (Qae (Qag (QaC HM [some 158,some 159,some 160,some 161,some 162,some 163,some 164,some 165,some 166,some 167,some 168,some 169,some 170,some 171] [] [0,0,0,0,12,30,62,0,0,384,896,2047,4095,8191] [pv (.func (.func g) #[] #[]),pv (.slice a N c),pv (I6 (((((lo+hi)/2)+mid)-1:Nat):Int)),pv (I6 (((s+r)/2:Nat):Int)),pv (I6 ((((((lo+hi)/2)+mid)-1)-((s+r)/2):Nat):Int)),pv (.pointer (some ⟨bkS (.slice a N c),ofS (.slice a N c)+((((((lo+hi)/2)+mid)-1)-((s+r)/2):Nat):Int).toNat*7,none⟩)),pv (.agg (cec (gd l (((((lo+hi)/2)+mid)-1)-((s+r)/2)))).toArray),pv (.slice a N c),pv (I6 (((s+r)/2:Nat):Int)),pv (.pointer (some ⟨bkS (.slice a N c),ofS (.slice a N c)+(((s+r)/2:Nat):Int).toNat*7,none⟩)),pv (.agg (cec (gd l ((s+r)/2))).toArray),pv (I6 (cf (gd l (((((lo+hi)/2)+mid)-1)-((s+r)/2))) (gd l ((s+r)/2)))),pv (.bool (decide (cf (gd l (((((lo+hi)/2)+mid)-1)-((s+r)/2))) (gd l ((s+r)/2))<0))),pv (.bool (!decide (cf (gd l (((((lo+hi)/2)+mid)-1)-((s+r)/2))) (gd l ((s+r)/2))<0)))] (fun _ _=>_) [13] (by kernel_rfl) hs ⟨?_,?_,?_,?_,?_,?_,?_,?_,?_,?_,?_,?_,?_,?_,trivial⟩ ?_))))))))))))))))))))
      ·exact ob [] [] rfl rfl fun D ρ w hs=>Qac (V:=.func (.func g) #[] #[]) rfl ⟨rfl,hs⟩
      ·exact ob [] [] rfl rfl fun D ρ w hs=>Qac (V:=.slice a N c) rfl ⟨rfl,hs⟩
      ·exact ob [] [] rfl rfl fun D ρ w hs=>Qac (V:=I6 (((((lo+hi)/2)+mid)-1:Nat):Int)) rfl ⟨rfl,hs⟩
      ·exact ob [] [] rfl rfl fun D ρ w hs=>Qac (V:=I6 (((s+r)/2:Nat):Int)) rfl ⟨rfl,hs⟩
      ·exact ob [2,3] [] rfl rfl fun D ρ w hs=>Qa4 (a:=(((((lo+hi)/2)+mid)-1:Nat):Int)) (b:=(((s+r)/2:Nat):Int)) (c:=((((((lo+hi)/2)+mid)-1)-((s+r)/2):Nat):Int)) rfl rfl (Qaj (by omega) (by omega)) ⟨rfl,hs⟩
      ·exact ob [1,4] [] rfl rfl fun D ρ w hs=>Qat Qbm QaA.1 (hs.rd 0 rfl) rfl rfl (by omega) (by rw [QQ6];omega) ⟨rfl,hs⟩
      ·exact ob [5] [] rfl rfl fun D ρ w hs=>QaZ (j:=0) (vs:=cec (gd l (((((lo+hi)/2)+mid)-1)-((s+r)/2)))) (((((lo+hi)/2)+mid)-1)-((s+r)/2)) QaA (hs.rd 0 rfl) (QaY (by omega)) rfl rfl rfl (by omega) ⟨rfl,hs⟩
      ·exact ob [] [] rfl rfl fun D ρ w hs=>Qac (V:=.slice a N c) rfl ⟨rfl,hs⟩
      ·exact ob [] [] rfl rfl fun D ρ w hs=>Qac (V:=I6 (((s+r)/2:Nat):Int)) rfl ⟨rfl,hs⟩
      ·exact ob [7,8] [] rfl rfl fun D ρ w hs=>Qat Qbm QaA.1 (hs.rd 0 rfl) rfl rfl (by omega) (by rw [QQ6];omega) ⟨rfl,hs⟩
      ·exact ob [9] [] rfl rfl fun D ρ w hs=>QaZ (j:=0) (vs:=cec (gd l ((s+r)/2))) ((s+r)/2) QaA (hs.rd 0 rfl) (QaY (by omega)) rfl rfl rfl (by omega) ⟨rfl,hs⟩
      ·exact ob [0,6,10] [] rfl rfl fun D ρ w hs=>Qf2 (vs:=[.agg (cec (gd l (((((lo+hi)/2)+mid)-1)-((s+r)/2)))).toArray,.agg (cec (gd l ((s+r)/2))).toArray]) (cs:=[]) (V:=I6 (cf (gd l (((((lo+hi)/2)+mid)-1)-((s+r)/2))) (gd l ((s+r)/2)))) hg rfl rfl (hcmp _ (gd l (((((lo+hi)/2)+mid)-1)-((s+r)/2))) (gd l ((s+r)/2))) hs fun _ hs=>⟨rfl,hs⟩
      ·exact ob [11] [] rfl rfl fun D ρ w hs=>QaP rfl rfl ⟨rfl,hs⟩
      ·exact ob [12] [] rfl rfl fun D ρ w hs=>Qbw rfl ⟨rfl,hs⟩
      rintro ρ1 w28 ρ2 hρ hs
      replace hρ:ρ2=upd (mix [158,159,160,161,162,163,164,165,166,167,168,169,170,171] ρ1 _) 171 (.bool (!decide (cf (gd l (((((lo+hi)/2)+mid)-1)-((s+r)/2))) (gd l ((s+r)/2))<0))):=hρ
      subst hρ
      refine Qal (t:=!decide (cf (gd l (((((lo+hi)/2)+mid)-1)-((s+r)/2))) (gd l ((s+r)/2))<0)) rfl (fun c29=>?_) (fun c29=>?_)
      ·
       replace c29:=QbL c29
       replace c29:=QQ2 c29
       refine Qab (Qaa (Qac (V:=I6 (((s+r)/2:Nat):Int)) rfl (Qaa (Qav (a:=(((s+r)/2:Nat):Int)) (b:=1) (c:=((((s+r)/2)+1:Nat):Int)) rfl rfl (Qaj (by omega) (by omega)) (Qaa (Qad (V:=I6 ((((s+r)/2)+1:Nat):Int)) rfl (Qae ?_)))))))
       refine ⟨_,?_,_,((s+r)/2)+1,r,Qah (Qah (Qam (ds:=[20,21,23,149,150,151,152,153,154,155,156,157,158,159,160,161,162,163,164,165,166,167,168,169,170,171,172,173,174]) (by repeat (first|exact Agr.refl _ _|refine Agr.upd ?_ rfl|refine Agr.mix ?_ rfl))) rfl) rfl,(by omega),(by omega),(by omega),(Or.inr (by rw [Nat.add_sub_cancel];exact c29)),hr2,rfl,hs.take 1⟩
       omega
      ·
       replace c29:=Qbr c29
       replace c29:=QQ1 c29
       refine Qab (Qaa (Qac (V:=I6 (((s+r)/2:Nat):Int)) rfl (Qaa (Qad (V:=I6 (((s+r)/2:Nat):Int)) rfl (Qae ?_)))))
       refine ⟨_,?_,_,s,(s+r)/2,Qah (Qah (Qam (ds:=[20,21,23,149,150,151,152,153,154,155,156,157,158,159,160,161,162,163,164,165,166,167,168,169,170,171,172,173,174]) (by repeat (first|exact Agr.refl _ _|refine Agr.upd ?_ rfl|refine Agr.mix ?_ rfl))) rfl) rfl,(by omega),(by omega),(by omega),hs2,(Or.inr c29),rfl,hs.take 1⟩
       omega
     ·
      replace c26:=QQ2 c26
      refine Qaz (Qag (Qab (Qaa (Qac (V:=I6 ((((lo+hi)/2)+mid:Nat):Int)) rfl (Qaa (Qac (V:=I6 (s:Int)) rfl (Qaa (Qa4 (a:=((((lo+hi)/2)+mid:Nat):Int)) (b:=(s:Int)) (c:=(((((lo+hi)/2)+mid)-s:Nat):Int)) rfl rfl (Qaj (by omega) (by omega)) (Qaa (Qad (V:=I6 (((((lo+hi)/2)+mid)-s:Nat):Int)) rfl (Qae (Qag (Qag (Qbi [some 178,some 179,some 180,some 181,some 182,some 183,some 184,some 185] [] [0,0,3,7,15,15,63,127] [pv (I6 (s:Int)),pv (I6 (mid:Int)),pv (.bool (decide ((s:Int)<(mid:Int)))),pv (.bool (decide ((s:Int)<(mid:Int)))),pg ((decide ((s:Int)<(mid:Int))) == true) (I6 (mid:Int)),pg ((decide ((s:Int)<(mid:Int))) == true) (I6 (((((lo+hi)/2)+mid)-s:Nat):Int)),pg ((decide ((s:Int)<(mid:Int))) == true) (.bool (decide ((mid:Int)<(((((lo+hi)/2)+mid)-s:Nat):Int)))),pv (.bool ((decide ((s:Int)<(mid:Int)))&&(decide ((mid:Int)<(((((lo+hi)/2)+mid)-s:Nat):Int)))))] (fun _ _=>_) [7] (by kernel_rfl) hs ⟨?_,?_,?_,?_,?_,?_,?_,?_,trivial⟩ ?_))))))))))))))
      ·exact ob [] [] rfl rfl fun D ρ w hs=>Qac (V:=I6 (s:Int)) rfl ⟨rfl,hs⟩
      ·exact ob [] [] rfl rfl fun D ρ w hs=>Qac (V:=I6 (mid:Int)) rfl ⟨rfl,hs⟩
      ·exact ob [0,1] [] rfl rfl fun D ρ w hs=>QaP rfl rfl ⟨rfl,hs⟩
      ·exact ob [2] [] rfl rfl fun D ρ w hs=>Qac (V:=.bool (decide ((s:Int)<(mid:Int)))) rfl ⟨rfl,hs⟩
      ·exact obg [3] [] (decide ((s:Int)<(mid:Int))) rfl (fun _=>rfl) rfl (fun _ _ _ _ h=>h) fun D ρ w hG hs=>Qac (V:=I6 (mid:Int)) rfl ⟨rfl,hs⟩
      ·exact obg [3] [] (decide ((s:Int)<(mid:Int))) rfl (fun _=>rfl) rfl (fun _ _ _ _ h=>h) fun D ρ w hG hs=>Qac (V:=I6 (((((lo+hi)/2)+mid)-s:Nat):Int)) rfl ⟨rfl,hs⟩
      ·exact obgy [3,4,5] [] [4,5] (decide ((s:Int)<(mid:Int))) rfl (fun _=>rfl) rfl (fun _ _ _ _ h=>h) (fun hG=>⟨hG,hG,trivial⟩) fun D ρ w hG hs=>QaP rfl rfl ⟨rfl,hs⟩
      ·exact ob [3,6] [] rfl rfl fun D ρ w hs=>Qa3 (h':=decide ((mid:Int)<(((((lo+hi)/2)+mid)-s:Nat):Int))) rfl rfl rfl ⟨rfl,hs⟩
      rintro ρ1 w30 ρ2 hρ hs
      replace hρ:ρ2=upd (mix [178,179,180,181,182,183,184,185] ρ1 _) 185 (.bool ((decide ((s:Int)<(mid:Int)))&&(decide ((mid:Int)<(((((lo+hi)/2)+mid)-s:Nat):Int))))):=hρ
      subst hρ
      have hse:s=r:=by omega
      rw [← hse] at hr2
      have hg1:=Qr5 (lo:=lo) (hi:=hi) (e:=(lo+hi)/2+mid-s) hs2 q6 hs1 rfl
      have hg2:=Qsh (md:=(lo+hi)/2) (e:=(lo+hi)/2+mid-s) hr2 q7 rfl rfl (by omega)
      refine Qfx (fun ρ ρ' w'=>∃ (ρo:Env) (m1:List Cen),ρ'=mix [186,187,188,189,190,191] ρo ρ∧(m1.length=N)∧(QbY l m1 s mid ((lo+hi)/2+mid-s))∧Own w S w' [row (.slice a N c) (m1.map cec) 59 7]) ?_ ?_
      ·
       refine Qal (t:=(decide ((s:Int)<(mid:Int)))&&(decide ((mid:Int)<(((((lo+hi)/2)+mid)-s:Nat):Int)))) rfl (fun c31=>?_) (fun c31=>?_)
       ·
        have c31r:=Qcd c31
        replace c31:=QbQ c31
        replace c31:=QQ1 c31
        replace c31r:=QQ1 c31r
        refine Qab (Qaa (Qac (V:=.slice a N c) rfl (Qaa (Qac (V:=I6 (s:Int)) rfl (Qaa (Qac (V:=I6 (mid:Int)) rfl (Qaa (Qac (V:=I6 (((((lo+hi)/2)+mid)-s:Nat):Int)) rfl (Qaa (Qac (V:=.func (.func g) #[] #[]) rfl (Qaa (Qbn (α:=List Cen) (vs:=[.slice a N c,I6 (s:Int),I6 (mid:Int),I6 (((((lo+hi)/2)+mid)-s:Nat):Int),.func (.func g) #[] #[]]) (V:=fun _=>.tuple #[]) (R:=row (.slice a N c) (l.map cec) 59 7) (R':=fun x=>row (.slice a N c) (x.map cec) 59 7) (Lo:=fun _=>[]) (F:=fun x _=>x.length=N∧QbY l x s mid ((((lo+hi)/2)+mid)-s)) Qsb rfl rfl hs 0 rfl (fun S hS hlt=>Qsw _ S a N c l hz hN s mid ((((lo+hi)/2)+mid)-s) (by omega) (by omega) (by omega) g hg cf hc hcmp hS hlt) fun mz32 w33 hs hF34=>(Qae ?_)))))))))))))
        exact ⟨_,mz32,Qam (ds:=[186,187,188,189,190,191]) (by repeat (first|exact Agr.refl _ _|refine Agr.upd ?_ rfl|refine Agr.mix ?_ rfl)),hF34.1,hF34.2,hs.take 1⟩
       ·
        refine Qan ?_
        exact ⟨_,l,Qam (ds:=[186,187,188,189,190,191]) (by repeat (first|exact Agr.refl _ _|refine Agr.upd ?_ rfl|refine Agr.mix ?_ rfl)),hz,(QbY.refl (by omega) (by omega) (by omega) (by
 have ht:=c31
 rcases Nat.lt_or_ge s mid with q|q
 ·right;simp [q] at ht;omega
 ·left;omega)),hs.take 1⟩
      ·rintro ρ' w35 ⟨ρo,m1,rfl,hz1,hro,hs⟩
       have hmd:s+((lo+hi)/2+mid-s-mid)=(lo+hi)/2:=by omega
       have hh:=QeX hc ho1 ho2 (by omega) (by omega) (by omega) (by omega) hro hg1 hg2
       rw [hmd] at hh
       obtain ⟨k1,k2,k3,k4,k5⟩:=hh
       refine Qag (Qag (Qbi [some 192,some 193,some 194,some 195,some 196,some 197,some 198,some 199] [] [0,0,3,7,15,15,63,127] [pv (I6 (lo:Int)),pv (I6 (s:Int)),pv (.bool (decide ((lo:Int)<(s:Int)))),pv (.bool (decide ((lo:Int)<(s:Int)))),pg ((decide ((lo:Int)<(s:Int))) == true) (I6 (s:Int)),pg ((decide ((lo:Int)<(s:Int))) == true) (I6 (((lo+hi)/2:Nat):Int)),pg ((decide ((lo:Int)<(s:Int))) == true) (.bool (decide ((s:Int)<(((lo+hi)/2:Nat):Int)))),pv (.bool ((decide ((lo:Int)<(s:Int)))&&(decide ((s:Int)<(((lo+hi)/2:Nat):Int)))))] (fun _ _=>_) [7] (by kernel_rfl) hs ⟨?_,?_,?_,?_,?_,?_,?_,?_,trivial⟩ ?_))
       ·exact ob [] [] rfl rfl fun D ρ w hs=>Qac (V:=I6 (lo:Int)) rfl ⟨rfl,hs⟩
       ·exact ob [] [] rfl rfl fun D ρ w hs=>Qac (V:=I6 (s:Int)) rfl ⟨rfl,hs⟩
       ·exact ob [0,1] [] rfl rfl fun D ρ w hs=>QaP rfl rfl ⟨rfl,hs⟩
       ·exact ob [2] [] rfl rfl fun D ρ w hs=>Qac (V:=.bool (decide ((lo:Int)<(s:Int)))) rfl ⟨rfl,hs⟩
       ·exact obg [3] [] (decide ((lo:Int)<(s:Int))) rfl (fun _=>rfl) rfl (fun _ _ _ _ h=>h) fun D ρ w hG hs=>Qac (V:=I6 (s:Int)) rfl ⟨rfl,hs⟩
       ·exact obg [3] [] (decide ((lo:Int)<(s:Int))) rfl (fun _=>rfl) rfl (fun _ _ _ _ h=>h) fun D ρ w hG hs=>Qac (V:=I6 (((lo+hi)/2:Nat):Int)) rfl ⟨rfl,hs⟩
       ·exact obgy [3,4,5] [] [4,5] (decide ((lo:Int)<(s:Int))) rfl (fun _=>rfl) rfl (fun _ _ _ _ h=>h) (fun hG=>⟨hG,hG,trivial⟩) fun D ρ w hG hs=>QaP rfl rfl ⟨rfl,hs⟩
       ·exact ob [3,6] [] rfl rfl fun D ρ w hs=>Qa3 (h':=decide ((s:Int)<(((lo+hi)/2:Nat):Int))) rfl rfl rfl ⟨rfl,hs⟩
       rintro ρ1 w36 ρ2 hρ hs
       replace hρ:ρ2=upd (mix [192,193,194,195,196,197,198,199] ρ1 _) 199 (.bool ((decide ((lo:Int)<(s:Int)))&&(decide ((s:Int)<(((lo+hi)/2:Nat):Int))))):=hρ
       subst hρ
       refine Qfx (fun ρ ρ' w'=>∃ (ρo:Env) (m2:List Cen),ρ'=mix [200,201,202,203,204,205] ρo ρ∧(m2.length=N)∧(Merged cf m1 m2 lo ((lo+hi)/2))∧Own w S w' [row (.slice a N c) (m2.map cec) 59 7]) ?_ ?_
       ·
        refine Qal (t:=(decide ((lo:Int)<(s:Int)))&&(decide ((s:Int)<(((lo+hi)/2:Nat):Int)))) rfl (fun c37=>?_) (fun c37=>?_)
        ·
         have c37r:=Qcd c37
         replace c37:=QbQ c37
         replace c37:=QQ1 c37
         replace c37r:=QQ1 c37r
         refine Qab (Qaa (Qac (V:=.slice a N c) rfl (Qaa (Qac (V:=I6 (lo:Int)) rfl (Qaa (Qac (V:=I6 (s:Int)) rfl (Qaa (Qac (V:=I6 (((lo+hi)/2:Nat):Int)) rfl (Qaa (Qac (V:=.func (.func g) #[] #[]) rfl (Qaa (Qbn (α:=List Cen) (vs:=[.slice a N c,I6 (lo:Int),I6 (s:Int),I6 (((lo+hi)/2:Nat):Int),.func (.func g) #[] #[]]) (V:=fun _=>.tuple #[]) (R:=row (.slice a N c) (m1.map cec) 59 7) (R':=fun x=>row (.slice a N c) (x.map cec) 59 7) (Lo:=fun _=>[]) (F:=fun x _=>x.length=N∧Merged cf m1 x lo ((lo+hi)/2)) Qjn rfl rfl hs 0 rfl (fun S hS hlt=>ih _ S a N c m1 lo s ((lo+hi)/2) hz1 hN (by omega) (by omega) (by omega) (by omega) k1 k2 hS hlt) fun mz38 w39 hs hF40=>(Qae ?_)))))))))))))
         exact ⟨_,mz38,Qam (ds:=[200,201,202,203,204,205]) (by repeat (first|exact Agr.refl _ _|refine Agr.upd ?_ rfl|refine Agr.mix ?_ rfl)),hF40.1,hF40.2,hs.take 1⟩
        ·
         refine Qan ?_
         exact ⟨_,m1,Qam (ds:=[200,201,202,203,204,205]) (by repeat (first|exact Agr.refl _ _|refine Agr.upd ?_ rfl|refine Agr.mix ?_ rfl)),hz1,(⟨Qa8.refl m1 (by omega) (by omega),by
 have ht:=c37
 rcases Nat.lt_or_ge lo s with q|q
 ·have q2:(lo+hi)/2≤s:=by simp [q] at ht;omega
  exact k1.sub (Nat.le_refl _) q2
 ·exact k2.sub q (Nat.le_refl _)⟩),hs.take 1⟩
       ·rintro ρ' w41 ⟨ρo,m2,rfl,hz2,hmg,hs⟩
        have k3b:=k3.out hmg.1 (.inr (Nat.le_refl _))
        have k4b:=k4.out hmg.1 (.inr (by omega))
        refine Qag (Qbi [some 206,some 207,some 208,some 209,some 210,some 211,some 212,some 213] [] [0,0,3,7,15,15,63,127] [pv (I6 (((lo+hi)/2:Nat):Int)),pv (I6 (((((lo+hi)/2)+mid)-s:Nat):Int)),pv (.bool (decide ((((lo+hi)/2:Nat):Int)<(((((lo+hi)/2)+mid)-s:Nat):Int)))),pv (.bool (decide ((((lo+hi)/2:Nat):Int)<(((((lo+hi)/2)+mid)-s:Nat):Int)))),pg ((decide ((((lo+hi)/2:Nat):Int)<(((((lo+hi)/2)+mid)-s:Nat):Int))) == true) (I6 (((((lo+hi)/2)+mid)-s:Nat):Int)),pg ((decide ((((lo+hi)/2:Nat):Int)<(((((lo+hi)/2)+mid)-s:Nat):Int))) == true) (I6 (hi:Int)),pg ((decide ((((lo+hi)/2:Nat):Int)<(((((lo+hi)/2)+mid)-s:Nat):Int))) == true) (.bool (decide ((((((lo+hi)/2)+mid)-s:Nat):Int)<(hi:Int)))),pv (.bool ((decide ((((lo+hi)/2:Nat):Int)<(((((lo+hi)/2)+mid)-s:Nat):Int)))&&(decide ((((((lo+hi)/2)+mid)-s:Nat):Int)<(hi:Int)))))] (fun _ _=>_) [7] (by kernel_rfl) hs ⟨?_,?_,?_,?_,?_,?_,?_,?_,trivial⟩ ?_)
        ·exact ob [] [] rfl rfl fun D ρ w hs=>Qac (V:=I6 (((lo+hi)/2:Nat):Int)) rfl ⟨rfl,hs⟩
        ·exact ob [] [] rfl rfl fun D ρ w hs=>Qac (V:=I6 (((((lo+hi)/2)+mid)-s:Nat):Int)) rfl ⟨rfl,hs⟩
        ·exact ob [0,1] [] rfl rfl fun D ρ w hs=>QaP rfl rfl ⟨rfl,hs⟩
        ·exact ob [2] [] rfl rfl fun D ρ w hs=>Qac (V:=.bool (decide ((((lo+hi)/2:Nat):Int)<(((((lo+hi)/2)+mid)-s:Nat):Int)))) rfl ⟨rfl,hs⟩
        ·exact obg [3] [] (decide ((((lo+hi)/2:Nat):Int)<(((((lo+hi)/2)+mid)-s:Nat):Int))) rfl (fun _=>rfl) rfl (fun _ _ _ _ h=>h) fun D ρ w hG hs=>Qac (V:=I6 (((((lo+hi)/2)+mid)-s:Nat):Int)) rfl ⟨rfl,hs⟩
        ·exact obg [3] [] (decide ((((lo+hi)/2:Nat):Int)<(((((lo+hi)/2)+mid)-s:Nat):Int))) rfl (fun _=>rfl) rfl (fun _ _ _ _ h=>h) fun D ρ w hG hs=>Qac (V:=I6 (hi:Int)) rfl ⟨rfl,hs⟩
        ·exact obgy [3,4,5] [] [4,5] (decide ((((lo+hi)/2:Nat):Int)<(((((lo+hi)/2)+mid)-s:Nat):Int))) rfl (fun _=>rfl) rfl (fun _ _ _ _ h=>h) (fun hG=>⟨hG,hG,trivial⟩) fun D ρ w hG hs=>QaP rfl rfl ⟨rfl,hs⟩
        ·exact ob [3,6] [] rfl rfl fun D ρ w hs=>Qa3 (h':=decide ((((((lo+hi)/2)+mid)-s:Nat):Int)<(hi:Int))) rfl rfl rfl ⟨rfl,hs⟩
        rintro ρ1 w42 ρ2 hρ hs
        replace hρ:ρ2=upd (mix [206,207,208,209,210,211,212,213] ρ1 _) 213 (.bool ((decide ((((lo+hi)/2:Nat):Int)<(((((lo+hi)/2)+mid)-s:Nat):Int)))&&(decide ((((((lo+hi)/2)+mid)-s:Nat):Int)<(hi:Int))))):=hρ
        subst hρ
        refine Qfx (fun ρ ρ' w'=>∃ (ρo:Env) (m3:List Cen),ρ'=mix [214,215,216,217,218,219] ρo ρ∧(m3.length=N)∧(Merged cf m2 m3 ((lo+hi)/2) hi)∧Own w S w' [row (.slice a N c) (m3.map cec) 59 7]) ?_ ?_
        ·
         refine Qal (t:=(decide ((((lo+hi)/2:Nat):Int)<(((((lo+hi)/2)+mid)-s:Nat):Int)))&&(decide ((((((lo+hi)/2)+mid)-s:Nat):Int)<(hi:Int)))) rfl (fun c43=>?_) (fun c43=>?_)
         ·
          have c43r:=Qcd c43
          replace c43:=QbQ c43
          replace c43:=QQ1 c43
          replace c43r:=QQ1 c43r
          refine Qab (Qaa (Qac (V:=.slice a N c) rfl (Qaa (Qac (V:=I6 (((lo+hi)/2:Nat):Int)) rfl (Qaa (Qac (V:=I6 (((((lo+hi)/2)+mid)-s:Nat):Int)) rfl (Qaa (Qac (V:=I6 (hi:Int)) rfl (Qaa (Qac (V:=.func (.func g) #[] #[]) rfl (Qaa (Qbn (α:=List Cen) (vs:=[.slice a N c,I6 (((lo+hi)/2:Nat):Int),I6 (((((lo+hi)/2)+mid)-s:Nat):Int),I6 (hi:Int),.func (.func g) #[] #[]]) (V:=fun _=>.tuple #[]) (R:=row (.slice a N c) (m2.map cec) 59 7) (R':=fun x=>row (.slice a N c) (x.map cec) 59 7) (Lo:=fun _=>[]) (F:=fun x _=>x.length=N∧Merged cf m2 x ((lo+hi)/2) hi) Qjn rfl rfl hs 0 rfl (fun S hS hlt=>ih _ S a N c m2 ((lo+hi)/2) ((((lo+hi)/2)+mid)-s) hi hz2 hN (by omega) (by omega) (by omega) (by omega) k3b k4b hS hlt) fun mz44 w45 hs hF46=>(Qae ?_)))))))))))))
          exact ⟨_,mz44,Qam (ds:=[214,215,216,217,218,219]) (by repeat (first|exact Agr.refl _ _|refine Agr.upd ?_ rfl|refine Agr.mix ?_ rfl)),hF46.1,hF46.2,hs.take 1⟩
         ·
          refine Qan ?_
          exact ⟨_,m2,Qam (ds:=[214,215,216,217,218,219]) (by repeat (first|exact Agr.refl _ _|refine Agr.upd ?_ rfl|refine Agr.mix ?_ rfl)),hz2,(⟨Qa8.refl m2 (by omega) (by omega),by
 have ht:=c43
 rcases Nat.lt_or_ge ((lo+hi)/2) ((lo+hi)/2+mid-s) with q|q
 ·have q2:hi≤(lo+hi)/2+mid-s:=by simp [q] at ht;omega
  exact k3b.sub (Nat.le_refl _) q2
 ·exact k4b.sub q (Nat.le_refl _)⟩),hs.take 1⟩
        ·rintro ρ' w47 ⟨ρo,m3,rfl,hz3,hmg2,hs⟩
         refine ⟨_,Qbo Tryz.results111,?_⟩
         exact ⟨m3,rfl,hs.take 1,hz3,Qnf (hro.perm.wide (by omega) (by omega) (by omega)) hmg hmg2 (by omega) (by omega) (by omega) k5⟩
theorem Qi7 (g:Nat) (hg:En Tryz.prog g) (cf:Cen→Cen→Int) (hc:CmpO cf) (hcmp:∀ (w:World) (x y:Cen),Calls Tryz.prog g #[.agg (cec x).toArray,.agg (cec y).toArray] w (fun e w'=>e = .returned (.int .i64 (cf x y))∧Own w no w' [])) (d:Nat):QrJ Tryz.prog 111 g 59 7 cec cf d:=by
 induction d with
 | zero=>intro w S a N c l lo mid hi hz hN hd h1 h2;omega
 | succ d ih=>intro w S a N c l lo mid hi hz hN hd h1 h2 h3 ho1 ho2 hR hlt;exact QkE d g hg cf hc hcmp ih w S a N c l lo mid hi hz hN hd h1 h2 h3 ho1 ho2 hR hlt
end Tt
end Go.Proofs
namespace Go.Proofs
open Go Go.Vx Go.RowKit
namespace Tt
theorem Qrf (w:World) (S:Nat→Prop) (a:Option Addr) (N c:Nat) (l:List Cen) (hz:l.length=N) (hN:N≤1152921504606846975) (g:Nat) (hg:En Tryz.prog g) (cf:Cen→Cen→Int) (hc:CmpO cf) (hcmp:∀ (w:World) (x y:Cen),Calls Tryz.prog g #[.agg (cec x).toArray,.agg (cec y).toArray] w (fun e w'=>e = .returned (.int .i64 (cf x y))∧Own w no w' [])) (hR:(row (.slice a N c) (l.map cec) 59 7).holds w S) (hlt:∀ b,S b→b<w.heap.size):Calls Tryz.prog 90 #[.slice a N c,.int .i64 (N:Int),.func (.func g) #[] #[]] w (fun e w'=>∃ x:List Cen,e = .returned (.tuple #[])∧Own w S w' [row (.slice a N c) (x.map cec) 59 7]∧(x.length=N∧x.Perm l∧QkC cf x)):=by
 refine Qai (n:=63) Tryz.func90 rfl Tryz.ntmps90 rfl ?_
 have hN0:=hN
 replace hN:N≤2305843009213693951:=by omega
 have hs:=Own.lent hR hlt
 refine Qag (Qab (Qaa (Qad (V:=I6 20) rfl (Qae (Qag (Qab (Qaa (Qac (V:=I6 20) rfl (Qaa (Qad (V:=I6 0) rfl (Qaa (Qad (V:=I6 20) rfl (Qae (Qag (Qak (Qax (fun ρ μ ρ' w'=>∃ (ρo:Env) (t:Nat) (m:List Cen),ρ'=upd (upd (mix [7,8,11,12,13,14,15,16,17,18,19,20,21,22] ρo ρ) 7 (I6 ((t*20:Nat):Int))) 8 (I6 ((t*20+20:Nat):Int))∧(t*20≤N)∧(m.length=N)∧(Qa8 l m 0 N)∧(Blk cf m 20 (t*20))∧μ=N-t*20∧Own w S w' [row (.slice a N c) (m.map cec) 59 7]) ?_ ?_))))))))))))))))
 ·exact ⟨_,_,0,l,Qah (Qah (Qam (ds:=[7,8,11,12,13,14,15,16,17,18,19,20,21,22]) (Agr.refl _ _)) rfl) rfl,(by omega),hz,(Qa8.refl l (Nat.zero_le _) (by omega)),Qog,rfl,hs⟩
 ·rintro μ ρ' w1 ⟨ρo,t,m,rfl,ht,hz1,hpm,hbl,rfl,hs⟩
  refine Qag (Qag (Qab (Qaa (Qac (V:=I6 ((t*20+20:Nat):Int)) rfl (Qaa (Qac (V:=I6 (N:Int)) rfl (Qaa (Qd9 rfl rfl (Qae (Qal (t:=decide (((t*20+20:Nat):Int)≤(N:Int))) rfl (fun c2=>?_) (fun c2=>?_)))))))))))
  ·
   replace c2:=QQ1 c2
   refine Qan (Qak (Qag (Qab (Qaa (Qac (V:=.slice a N c) rfl (Qaa (Qac (V:=I6 ((t*20:Nat):Int)) rfl (Qaa (Qac (V:=I6 ((t*20+20:Nat):Int)) rfl (Qaa (Qac (V:=.func (.func g) #[] #[]) rfl (Qaa (Qbn (α:=List Cen) (vs:=[.slice a N c,I6 ((t*20:Nat):Int),I6 ((t*20+20:Nat):Int),.func (.func g) #[] #[]]) (V:=fun _=>.tuple #[]) (R:=row (.slice a N c) (m.map cec) 59 7) (R':=fun x=>row (.slice a N c) (x.map cec) 59 7) (Lo:=fun _=>[]) (F:=fun x _=>x.length=N∧Merged cf m x (t*20) (t*20+20)) Qo2 rfl rfl hs 0 rfl (fun S hS hlt=>QoP _ S a N c m hz1 hN (t*20) (t*20+20) (by omega) (by omega) g hg cf hc hcmp hS hlt) fun mz3 w4 hs hF5=>(Qae (Qag (Qab (Qaa (Qac (V:=I6 ((t*20+20:Nat):Int)) rfl (Qaa (Qad (V:=I6 ((t*20+20:Nat):Int)) rfl (Qae (Qab (Qaa (Qac (V:=I6 ((t*20+20:Nat):Int)) rfl (Qaa (Qac (V:=I6 20) rfl (Qaa (Qav (a:=((t*20+20:Nat):Int)) (b:=20) (c:=(((t*20+20)+20:Nat):Int)) rfl rfl (Qaj (by omega) (by omega)) (Qaa (Qad (V:=I6 (((t*20+20)+20:Nat):Int)) rfl (Qae ?_)))))))))))))))))))))))))))))))
   refine ⟨_,?_,_,t+1,mz3,Qah (Qah (Qam (ds:=[7,8,11,12,13,14,15,16,17,18,19,20,21,22]) (by repeat (first|exact Agr.refl _ _|refine Agr.upd ?_ rfl|refine Agr.mix ?_ rfl))) (congrArg (Value.int .i64) (by omega))) (congrArg (Value.int .i64) (by omega)),(by omega),hF5.1,(hpm.trans (hF5.2.1.wide (by omega) (by omega) (by omega))),(by rw [show (t+1)*20=t*20+20 by omega];exact Qi0 hbl hF5.2.1 hF5.2.2 (Nat.le_refl _)),rfl,hs.take 1⟩
   omega
  ·
   replace c2:=QQ2 c2
   refine Qaz (Qag (Qab (Qaa (Qac (V:=.slice a N c) rfl (Qaa (Qac (V:=I6 ((t*20:Nat):Int)) rfl (Qaa (Qac (V:=I6 (N:Int)) rfl (Qaa (Qac (V:=.func (.func g) #[] #[]) rfl (Qaa (Qbn (α:=List Cen) (vs:=[.slice a N c,I6 ((t*20:Nat):Int),I6 (N:Int),.func (.func g) #[] #[]]) (V:=fun _=>.tuple #[]) (R:=row (.slice a N c) (m.map cec) 59 7) (R':=fun x=>row (.slice a N c) (x.map cec) 59 7) (Lo:=fun _=>[]) (F:=fun x _=>x.length=N∧Merged cf m x (t*20) N) Qo2 rfl rfl hs 0 rfl (fun S hS hlt=>QoP _ S a N c m hz1 hN (t*20) N (by omega) (by omega) g hg cf hc hcmp hS hlt) fun mz6 w7 hs hF8=>(Qae (Qak ?_))))))))))))))
   have hb0:Blk cf mz6 20 N:=Qi0 hbl hF8.2.1 hF8.2.2 (by omega)
   have hp0:=hpm.trans (hF8.2.1.wide (by omega) (by omega) (by omega))
   refine Qax (fun ρ μ ρ' w'=>∃ (ρo:Env) (s:Nat) (m2:List Cen),ρ'=upd (mix [6,7,8,9,28,29,30,31,32,33,34,35,36,37,38,39,40,41,42,43,44,45,46,47,48,49,50,51,52,53,54,55,56,57,58,59,60,61,62] ρo ρ) 6 (I6 (s:Int))∧(0<s)∧(s≤2*N+20)∧(m2.length=N)∧(Qa8 l m2 0 N)∧(Blk cf m2 s N)∧μ=N-s∧Own w S w' [row (.slice a N c) (m2.map cec) 59 7]) ?_ ?_
   ·exact ⟨_,_,20,mz6,Qah (Qam (ds:=[6,7,8,9,28,29,30,31,32,33,34,35,36,37,38,39,40,41,42,43,44,45,46,47,48,49,50,51,52,53,54,55,56,57,58,59,60,61,62]) (Agr.refl _ _)) rfl,(by omega),(by omega),hF8.1,hp0,hb0,rfl,hs⟩
   ·rintro μ ρ' w9 ⟨ρo,s,m2,rfl,hs0,hsN,hz2,hpm2,hb2,rfl,hs⟩
    refine Qag (Qag (Qab (Qaa (Qac (V:=I6 (s:Int)) rfl (Qaa (Qac (V:=I6 (N:Int)) rfl (Qaa (QaP rfl rfl (Qae (Qal (t:=decide ((s:Int)<(N:Int))) rfl (fun c10=>?_) (fun c10=>?_)))))))))))
    ·
     replace c10:=QQ1 c10
     refine Qan (Qak (Qag (Qab (Qaa (Qac (V:=I6 (s:Int)) rfl (Qaa (Qgk (a:=2) (b:=(s:Int)) (c:=((2*s:Nat):Int)) rfl rfl (Qaj (by omega) (by omega)) (Qaa (Qad (V:=I6 0) rfl (Qaa (Qad (V:=I6 ((2*s:Nat):Int)) rfl (Qae (Qag (Qak (Qax (fun ρ μ ρ' w'=>∃ (ρo:Env) (t:Nat) (A:Nat) (m3:List Cen),ρ'=upd (upd (mix [7,8,33,34,35,36,37,38,39,40,41,42,43,44,45,46,47,48] ρo ρ) 7 (I6 (A:Int))) 8 (I6 ((A+2*s:Nat):Int))∧(A=t*(2*s))∧(A≤N)∧(m3.length=N)∧(Qa8 l m3 0 N)∧(Mrg cf m3 s t N)∧μ=N-A∧Own w S w' [row (.slice a N c) (m3.map cec) 59 7]) ?_ ?_)))))))))))))))
     ·exact ⟨_,_,0,0,m2,Qah (Qah (Qam (ds:=[7,8,33,34,35,36,37,38,39,40,41,42,43,44,45,46,47,48]) (Agr.refl _ _)) rfl) (congrArg (Value.int .i64) (by omega)),(by rw [Nat.zero_mul]),(by omega),hz2,hpm2,(Qmi hb2),rfl,hs⟩
     ·rintro μ ρ' w11 ⟨ρo,t,A,m3,rfl,hA,hAN,hz3,hpm3,hmr,rfl,hs⟩
      refine Qag (Qag (Qab (Qaa (Qac (V:=I6 ((A+2*s:Nat):Int)) rfl (Qaa (Qac (V:=I6 (N:Int)) rfl (Qaa (Qd9 rfl rfl (Qae (Qal (t:=decide (((A+2*s:Nat):Int)≤(N:Int))) rfl (fun c12=>?_) (fun c12=>?_)))))))))))
      ·
       replace c12:=QQ1 c12
       refine Qan (Qak (Qag ?_))
       have hpp:=QfP hmr
       rw [← hA] at hpp
       have hp1:=hpp.1.sub (Nat.le_refl _) (show A+s≤min (A+s) N by omega)
       have hp2:=hpp.2.sub (Nat.le_refl _) (show A+2*s≤min (A+2*s) N by omega)
       refine Qab (Qaa (Qac (V:=.slice a N c) rfl (Qaa (Qac (V:=I6 (A:Int)) rfl (Qaa (Qac (V:=I6 (A:Int)) rfl (Qaa (Qac (V:=I6 (s:Int)) rfl (Qaa (Qav (a:=(A:Int)) (b:=(s:Int)) (c:=((A+s:Nat):Int)) rfl rfl (Qaj (by omega) (by omega)) (Qaa (Qac (V:=I6 ((A+2*s:Nat):Int)) rfl (Qaa (Qac (V:=.func (.func g) #[] #[]) rfl (Qaa (Qbn (α:=List Cen) (vs:=[.slice a N c,I6 (A:Int),I6 ((A+s:Nat):Int),I6 ((A+2*s:Nat):Int),.func (.func g) #[] #[]]) (V:=fun _=>.tuple #[]) (R:=row (.slice a N c) (m3.map cec) 59 7) (R':=fun x=>row (.slice a N c) (x.map cec) 59 7) (Lo:=fun _=>[]) (F:=fun x _=>x.length=N∧Merged cf m3 x A (A+2*s)) Qjn rfl rfl hs 0 rfl (fun S hS hlt=>Qi7 g hg cf hc hcmp N _ S a N c m3 A (A+s) (A+2*s) hz3 hN (by omega) (by omega) (by omega) (by omega) hp1 hp2 hS hlt) fun mz13 w14 hs hF15=>(Qae (Qag (Qab (Qaa (Qac (V:=I6 ((A+2*s:Nat):Int)) rfl (Qaa (Qad (V:=I6 ((A+2*s:Nat):Int)) rfl (Qae (Qab (Qaa (Qac (V:=I6 ((A+2*s:Nat):Int)) rfl (Qaa (Qac (V:=I6 (s:Int)) rfl (Qaa (Qgk (a:=2) (b:=(s:Int)) (c:=((2*s:Nat):Int)) rfl rfl (Qaj (by omega) (by omega)) (Qaa (Qav (a:=((A+2*s:Nat):Int)) (b:=((2*s:Nat):Int)) (c:=(((A+2*s)+(2*s):Nat):Int)) rfl rfl (Qaj (by omega) (by omega)) (Qaa (Qad (V:=I6 (((A+2*s)+(2*s):Nat):Int)) rfl (Qae ?_))))))))))))))))))))))))))))))))))))
       refine ⟨_,?_,_,t+1,A+2*s,mz13,Qah (Qah (Qam (ds:=[7,8,33,34,35,36,37,38,39,40,41,42,43,44,45,46,47,48]) (by repeat (first|exact Agr.refl _ _|refine Agr.upd ?_ rfl|refine Agr.mix ?_ rfl))) rfl) (congrArg (Value.int .i64) (by omega)),(by rw [hA,Nat.add_mul,Nat.one_mul]),(by omega),hF15.1,(hpm3.trans (hF15.2.1.wide (by omega) (by omega) (by omega))),(Qjh hmr (by rw [← hA];exact hF15.2.1) (by rw [← hA];exact hF15.2.2) (by omega)),rfl,hs.take 1⟩
       omega
      ·
       replace c12:=QQ2 c12
       refine Qaz (Qag (Qag (Qab (Qaa (Qac (V:=I6 (A:Int)) rfl (Qaa (Qac (V:=I6 (s:Int)) rfl (Qaa (Qav (a:=(A:Int)) (b:=(s:Int)) (c:=((A+s:Nat):Int)) rfl rfl (Qaj (by omega) (by omega)) (Qaa (Qad (V:=I6 ((A+s:Nat):Int)) rfl (Qae (Qag (Qab (Qaa (Qac (V:=I6 ((A+s:Nat):Int)) rfl (Qaa (Qac (V:=I6 (N:Int)) rfl (Qaa (QaP rfl rfl (Qae (Qal (t:=decide (((A+s:Nat):Int)<(N:Int))) rfl (fun c16=>?_) (fun c16=>?_)))))))))))))))))))))))
       ·
        replace c16:=QQ1 c16
        have hpp:=QfP hmr
        rw [← hA] at hpp
        have hp1:=hpp.1.sub (Nat.le_refl _) (show A+s≤min (A+s) N by omega)
        have hp2:=hpp.2.sub (Nat.le_refl _) (show N≤min (A+2*s) N by omega)
        refine Qab (Qaa (Qac (V:=.slice a N c) rfl (Qaa (Qac (V:=I6 (A:Int)) rfl (Qaa (Qac (V:=I6 ((A+s:Nat):Int)) rfl (Qaa (Qac (V:=I6 (N:Int)) rfl (Qaa (Qac (V:=.func (.func g) #[] #[]) rfl (Qaa (Qbn (α:=List Cen) (vs:=[.slice a N c,I6 (A:Int),I6 ((A+s:Nat):Int),I6 (N:Int),.func (.func g) #[] #[]]) (V:=fun _=>.tuple #[]) (R:=row (.slice a N c) (m3.map cec) 59 7) (R':=fun x=>row (.slice a N c) (x.map cec) 59 7) (Lo:=fun _=>[]) (F:=fun x _=>x.length=N∧Merged cf m3 x A N) Qjn rfl rfl hs 0 rfl (fun S hS hlt=>Qi7 g hg cf hc hcmp N _ S a N c m3 A (A+s) N hz3 hN (by omega) (by omega) (by omega) (by omega) hp1 hp2 hS hlt) fun mz17 w18 hs hF19=>(Qae (Qab (Qaa (Qac (V:=I6 (s:Int)) rfl (Qaa (Qgk (a:=(s:Int)) (b:=2) (c:=((s*2:Nat):Int)) rfl rfl (Qaj (by omega) (by omega)) (Qaa (Qad (V:=I6 ((s*2:Nat):Int)) rfl (Qae ?_)))))))))))))))))))))
        refine ⟨_,?_,_,s*2,mz17,Qah (Qam (ds:=[6,7,8,9,28,29,30,31,32,33,34,35,36,37,38,39,40,41,42,43,44,45,46,47,48,49,50,51,52,53,54,55,56,57,58,59,60,61,62]) (by repeat (first|exact Agr.refl _ _|refine Agr.upd ?_ rfl|refine Agr.mix ?_ rfl))) rfl,(by omega),(by omega),hF19.1,(hpm3.trans (hF19.2.1.wide (by omega) (by omega) (by omega))),(by
 have hq:=Qjh hmr (by rw [← hA];exact hF19.2.1) (by rw [← hA];exact hF19.2.2) (by omega)
 have hq2:=QpJ hq (by rw [Nat.add_mul,Nat.one_mul,← hA];omega)
 rw [Nat.mul_comm s 2];exact hq2),rfl,hs.take 1⟩
        omega
       ·
        replace c16:=QQ2 c16
        refine Qan (Qab (Qaa (Qac (V:=I6 (s:Int)) rfl (Qaa (Qgk (a:=(s:Int)) (b:=2) (c:=((s*2:Nat):Int)) rfl rfl (Qaj (by omega) (by omega)) (Qaa (Qad (V:=I6 ((s*2:Nat):Int)) rfl (Qae ?_))))))))
        refine ⟨_,?_,_,s*2,m3,Qah (Qam (ds:=[6,7,8,9,28,29,30,31,32,33,34,35,36,37,38,39,40,41,42,43,44,45,46,47,48,49,50,51,52,53,54,55,56,57,58,59,60,61,62]) (by repeat (first|exact Agr.refl _ _|refine Agr.upd ?_ rfl|refine Agr.mix ?_ rfl))) rfl,(by omega),(by omega),hz3,hpm3,(by rw [Nat.mul_comm s 2];exact QnR hmr (by omega)),rfl,hs.take 1⟩
        omega
    ·
     replace c10:=QQ2 c10
     refine Qaz ?_
     refine ⟨_,Qbo Tryz.results90,?_⟩
     exact ⟨m2,rfl,hs.take 1,hz2,hpm2.perm,QpP (Qpn hb2 (by omega)) (by omega)⟩
theorem Qrv (w:World) (S:Nat→Prop) (a:Option Addr) (N c:Nat) (l:List Cen) (hz:l.length=N) (hN:N≤1152921504606846975) (g:Nat) (hg:En Tryz.prog g) (cf:Cen→Cen→Int) (hc:CmpO cf) (hcmp:∀ (w:World) (x y:Cen),Calls Tryz.prog g #[.agg (cec x).toArray,.agg (cec y).toArray] w (fun e w'=>e = .returned (.int .i64 (cf x y))∧Own w no w' [])) (hR:(row (.slice a N c) (l.map cec) 59 7).holds w S) (hlt:∀ b,S b→b<w.heap.size):Calls Tryz.prog 55 #[.slice a N c,.func (.func g) #[] #[]] w (fun e w'=>∃ x:List Cen,e = .returned (.tuple #[])∧Own w S w' [row (.slice a N c) (x.map cec) 59 7]∧(x.length=N∧x.Perm l∧QkC cf x)):=by
 refine Qai (n:=9) Tryz.func55 rfl Tryz.ntmps55 rfl ?_
 have hs:=Own.lent hR hlt
 refine Qab (Qaa (Qac (V:=.slice a N c) rfl (Qaa (Qac (V:=.slice a N c) rfl (Qaa (QaX (n:=N) Qbm (hs.rd 0 rfl) (by simp [hz]) rfl (Qaa (Qac (V:=.func (.func g) #[] #[]) rfl (Qaa (Qbn (α:=List Cen) (vs:=[.slice a N c,I6 (N:Int),.func (.func g) #[] #[]]) (V:=fun _=>.tuple #[]) (R:=row (.slice a N c) (l.map cec) 59 7) (R':=fun x=>row (.slice a N c) (x.map cec) 59 7) (Lo:=fun _=>[]) (F:=fun x _=>x.length=N∧x.Perm l∧QkC cf x) QtO rfl rfl hs 0 rfl (fun S hS hlt=>Qrf _ S a N c l hz hN g hg cf hc hcmp hS hlt) fun mz1 w2 hs hF3=>(Qae ?_)))))))))))
 refine ⟨_,Qbo Tryz.results55,?_⟩
 exact ⟨mz1,rfl,hs.take 1,hF3⟩
end Tt
end Go.Proofs
