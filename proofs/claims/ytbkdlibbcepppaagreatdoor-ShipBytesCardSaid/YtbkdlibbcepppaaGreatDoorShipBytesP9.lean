/- A part of a proof: what functions of the program compute, and plain facts on that. -/
import Derived.Test.YtbkdlibbcepppaaGreatDoorShipBytesP8
set_option linter.unusedVariables false
set_option linter.unusedSectionVars false
set_option linter.unusedSimpArgs false
set_option maxHeartbeats 4000000
set_option maxRecDepth 100000
namespace Go.Proofs
open Go Go.Vx Go.RowKit
open Tryz
namespace Tt
theorem QrR (w:World) (m:Msv) (hx:MscOk m.c) (hmo:RdX w (.slice m.a m.c.ops.length m.n) 23 (m.c.ops.map oc)) (hmb:RdX w (.slice m.a2 m.c.b.length m.n2) 1 (m.c.b.map (ic .u8))) (hG:Qa8 w 0 (vc Qeh)):Calls prog 11 #[.agg (msv m).toArray] w (fun e w'=>∃ q:Option Addr × Nat,e = .returned (.tuple #[.slice q.1 (MEX m.c).length q.2,.int .i64 (MER m.c)])/\Own w no w' [row (.slice q.1 (MEX m.c).length q.2) ((MEX m.c).map (ic .u8)) 5 1]/\True):=by
 refine Qal (n:=84) func11 rfl ntmps11 rfl ?_
 have Y:=Own.start w
 have hkn:=hx.kn
 refine Qae (Qab (Qaa (Qb4 (V:=.agg (msv m).toArray) (cs:=msv m) rfl rfl Y fun b1 w2 Y=>(Qaa (Qak (.slice none 0 0) (Qaa (Qak (I6 0) (Qad (Qae (Qae (Qab (Qaa (Qa1 (cs:=msv m) QbW Y 0 rfl rfl rfl (Qaa (QaH (vs:=[.agg (msv m).toArray]) (V:=.bool (Qah m.c)) Qn0 rfl rfl ?hc Y fun w3 Y=>?_)))))))))))))))
 case hc=>exact (QdK _ m hx (RdX.own' hmo Y) (RdX.own' hmb Y))
 refine Qaa (Qb6 rfl (Qad (Qaq (t:=!(Qah m.c)) rfl (fun c4=>?_) (fun c4=>?_))))
 ·
  replace c4:=Qcb c4
  refine Qae (Qab (Qaa (Qak (.slice none 0 0) (Qaa (Qak (I6 2) (Qad (Qat ?_)))))))
  refine ⟨_,Qbq (U:=.slice none 0 0) (V:=I6 2) results11 rfl rfl,?_⟩
  obtain ⟨hme,hmr⟩:=QqY c4
  rw [hme,hmr]
  exact ⟨(none,0),rfl,(Y.take 0).more _ (QaK _ _ _ _),trivial⟩
 replace c4:=Qa3 c4
 refine Qar (Qae (Qab (Qaa (Qax (vs:=[]) (V:=fun x:Nat=>Pq x 0) QsS rfl rfl (Qkj _) Y fun p5 w6 Y _=>?_))))
 replace Y:=Ow [blk b1 (msv m) 38,wR 212 5 p5 0 []] Y
 refine Qaa (Qak (Pq p5 0) (Qad (Qae ?_)))
 have hri:Qah m.c=true:=c4
 obtain ⟨hk1,hk3,hkf⟩:=QgA hri
 obtain ⟨hp1,hp2,hp3⟩:=QjU hx hri
 obtain ⟨hfr1,hfr2⟩:=hx.fr
 obtain ⟨hme,hmr⟩:=Qnr hri
 have hvl9:=Qct hx.kn
 have hbl:=Qg7 hx hri
 have hbo:=QeS hx
 refine Qab (Qaa (Qag (Pq p5 0) (Qaa (Qac Qgo rfl (Qaa (QaY (I6 m.c.kind) QcS Y 0 (Qaa (Qas (V:=.int .u64 m.c.kind) (V':=.int .u64 ((m.c.kind.toNat:Nat):Int)) (QaB QfT Qa6 rfl (Qbe (by omega) (by omega)) ⟨rfl,rfl⟩) (congrArg (Value.int .u64) (by omega)) (Qaa (Qa7 (α:=Unit) (vs:=[Pq p5 0,.int .u64 ((m.c.kind.toNat:Nat):Int)]) (V:=fun _=>I6 0) (R:=wR 212 5 p5 0 []) (R':=fun _=>wR 212 5 p5 0 ([]++Qan m.c.kind.toNat)) (Lo:=fun _=>[]) (F:=fun _ _=>True) Qjq rfl rfl Y 1 rfl (fun S0 hS0 hl0=>Qjp _ S0 p5 [] m.c.kind.toNat (by omega) (Nat.zero_le _) hS0 hl0) fun _ w7 Y _=>(Qad (Qae (Qab (Qaa (Qag (Pq p5 0) (Qaa (Qac Qkn rfl (Qaa (QaY (.int .u8 m.c.frm) QcG Y 0 (Qaa (Qas (V:=.int .u64 m.c.frm) (V':=.int .u64 ((m.c.frm.toNat:Nat):Int)) (QaB Qfe Qa6 rfl (Qbe (by omega) (by omega)) ⟨rfl,rfl⟩) (congrArg (Value.int .u64) (by omega)) (Qaa (Qa7 (α:=Unit) (vs:=[Pq p5 0,.int .u64 ((m.c.frm.toNat:Nat):Int)]) (V:=fun _=>I6 0) (R:=wR 212 5 p5 0 ([]++Qan m.c.kind.toNat)) (R':=fun _=>wR 212 5 p5 0 ([]++Qan m.c.kind.toNat++Qan m.c.frm.toNat)) (Lo:=fun _=>[]) (F:=fun _ _=>True) Qjq rfl rfl Y 1 rfl (fun S0 hS0 hl0=>Qjp _ S0 p5 ([]++Qan m.c.kind.toNat) m.c.frm.toNat (by omega) (by first|omega|(simp only [QQ7,List.length_nil];omega)) hS0 hl0) fun _ w8 Y _=>?_)))))))))))))))))))))))
 replace Y:=Ow [blk b1 (msv m) 38,wR 212 5 p5 0 ([]++Qan m.c.kind.toNat++Qan m.c.frm.toNat)] Y
 refine Qad (Qae (Qab (Qaa (Qag (Pq p5 0) (Qaa (Qac Qio rfl (Qaa (Qez (vs:=vc m.c.known) QbC Y 0 rfl rfl rfl rfl (Qaa (Qax (vs:=[.agg (vc m.c.known).toArray]) (V:=fun x:Option Addr × Nat=>.slice x.1 (QaF m.c.known).length x.2) Qtr rfl rfl (Qov _ m.c.known hx.kn) Y fun x9 w10 Y _=>(Qaa (Qfr (α:=Unit) (vs:=[Pq p5 0,.slice x9.1 ((QaF m.c.known).length) x9.2]) (V:=fun _=>I6 0) (R:=wR 212 5 p5 0 ([]++Qan m.c.kind.toNat++Qan m.c.frm.toNat)) (R':=fun _=>wR 212 5 p5 0 ([]++Qan m.c.kind.toNat++Qan m.c.frm.toNat++QaM (QaF m.c.known))) (Lo:=fun _=>[]) (F:=fun _ _=>True) Qqi rfl rfl Y 1 rfl (fun S9 hS9 hl9 hM9 hK9=>Qit _ S9 p5 ([]++Qan m.c.kind.toNat++Qan m.c.frm.toNat) x9.1 x9.2 (QaF m.c.known) (hK9 2 (by decide) _ rfl).rdB (by first|omega|(simp only [QQ7,List.length_nil];omega)) hS9 hl9) fun _ w11 Y _=>?_))))))))))))
 replace Y:=Ow [blk b1 (msv m) 38,wR 212 5 p5 0 ([]++Qan m.c.kind.toNat++Qan m.c.frm.toNat++QaM (QaF m.c.known)),row (.slice x9.1 ((QaF m.c.known).length) x9.2) ((QaF m.c.known).map (ic .u8)) 5 1] Y
 refine Qad (Qae (Qae (Qab (Qaa (Qac Qgo rfl (Qaa (QaY (I6 m.c.kind) QcS Y 0 (Qad (Qay (Qae (Qab (Qaa (Qa5 rfl rfl (Qaa (Qak (.bool (decide (m.c.kind=2))) (Qad (Qaq (t:=decide (m.c.kind=2)) rfl (fun c12=>?_) (fun c12=>?_))))))))))))))))))
 ·
  replace c12:=QQ1 c12
  refine Qae ?_
  have hn16:m.c.ops.length<=16:=by rcases (QaG hri).2 with h|h|h;omega;exact h.2.2.2.2.2.2.1;omega
  have hro:∀ o∈m.c.ops,QaI o=true:=by rcases (QaG hri).2 with h|h|h;omega;exact h.2.2.2.2.2.2.2;omega
  have hn1:1<=m.c.ops.length:=by rcases (QaG hri).2 with h|h|h;omega;exact h.2.2.2.2.2.1;omega
  have hpn:=QeW (n:=m.c.ops.length) (by omega)
  refine Qab (Qaa (Qag (Pq p5 0) (Qaa (Qac Qfs rfl (Qaa (QaY (.slice m.a m.c.ops.length m.n) Qc3 Y 0 (Qaa (QbR (n:=m.c.ops.length) Qc9 (RdX.own' hmo Y) (by simp) rfl (Qaa (QaB QfT Qa6 rfl (Qbe (by omega) (by omega)) (Qaa (Qa7 (α:=Unit) (vs:=[Pq p5 0,.int .u64 ((m.c.ops.length:Nat):Int)]) (V:=fun _=>I6 0) (R:=wR 212 5 p5 0 ([]++Qan m.c.kind.toNat++Qan m.c.frm.toNat++QaM (QaF m.c.known))) (R':=fun _=>wR 212 5 p5 0 ([]++Qan m.c.kind.toNat++Qan m.c.frm.toNat++QaM (QaF m.c.known)++Qan m.c.ops.length)) (Lo:=fun _=>[]) (F:=fun _ _=>True) Qjq rfl rfl Y 1 rfl (fun S0 hS0 hl0=>Qjp _ S0 p5 ([]++Qan m.c.kind.toNat++Qan m.c.frm.toNat++QaM (QaF m.c.known)) m.c.ops.length (by omega) (by first|omega|(simp only [QQ7,List.length_nil];omega)) hS0 hl0) fun _ w13 Y _=>(Qad (Qae (Qab (Qaa (Qac Qfs rfl (Qaa (QaY (.slice m.a m.c.ops.length m.n) Qc3 Y 0 (Qaa (QbR (n:=m.c.ops.length) Qc9 (RdX.own' hmo Y) (by simp) rfl (Qaa (Qag (I6 0) (Qad (Qay (Qbb (fun J μ J' w'=>∃ (Jo:Env) (k:Nat) (L:Bs),J'=upd (mix ([6,7,8]++sq 43 13) Jo J) 43 (I6 (k:Int))/\(k<=m.c.ops.length)/\(L=QfN m.c k)/\(L.length<=90+155*k)/\μ=m.c.ops.length-k/\Own w no w' [blk b1 (msv m) 38,wR 212 5 p5 0 L,row (.slice x9.1 ((QaF m.c.known).length) x9.2) ((QaF m.c.known).map (ic .u8)) 5 1]) ?_ ?_))))))))))))))))))))))))))
  ·exact ⟨_,_,0,[]++Qan m.c.kind.toNat++Qan m.c.frm.toNat++QaM (QaF m.c.known)++Qan m.c.ops.length,Qaw (QaN (ds:=([6,7,8]++sq 43 13)) (Agr.refl _ _)) rfl,(by omega),(Qhu _),(by rw [Qhu];exact Qe1 hx hri (by omega) hn16),rfl,Y⟩
  rintro μ J' w14 ⟨Jo,k,L,rfl,hk,hL,hLl,rfl,Y⟩
  refine Qae (Qab (Qaa (QbQ rfl rfl (Qad (Qae (Qaq (t:=decide ((k:Int)<((m.c.ops.length:Nat):Int))) rfl (fun c15=>?_) (fun c15=>?_)))))))
  ·
   replace c15:=QQ1 c15
   refine Qar (Qae (Qay (Qae (Qab (Qaa (QcJ Qc9 Qbp.1 (RdX.pos (RdX.own' hmo Y) (by rw [QQ6];omega)) rfl rfl (by omega) (by rw [QQ6];omega) (Qaa (QhD (j:=0) (vs:=oc (gd m.c.ops k)) k Qbp (RdX.pos (RdX.own' hmo Y) (by rw [QQ6];omega)) (QcN (by omega)) rfl rfl rfl (by omega) (Qaa (QaX (cs:=oc (⟨(⟨0,0⟩:Dot),0,0,0,0,0,vzero⟩:Opn)) QjS rfl Y fun b16 w17 Y=>?_))))))))))
   replace Y:=Ow [blk b1 (msv m) 38,wR 212 5 p5 0 L,row (.slice x9.1 ((QaF m.c.known).length) x9.2) ((QaF m.c.known).map (ic .u8)) 5 1,blk b16 (oc (⟨(⟨0,0⟩:Dot),0,0,0,0,0,vzero⟩:Opn)) 54] Y
   refine Qaa (QbN (V:=.agg (oc (gd m.c.ops k)).toArray) (vs:=oc (gd m.c.ops k)) (cs':=oc (gd m.c.ops k)) Qbp.1 Y 3 rfl rfl rfl rfl rfl (QQ8 rfl) (QcB _) (Qao rfl) fun w18 Y=>(Qad (Qae (Qab (Qaa (Qa1 (cs:=oc (gd m.c.ops k)) Qbp Y 3 rfl rfl rfl (Qaa (Qax (vs:=[.agg (oc (gd m.c.ops k)).toArray]) (V:=fun x:Option Addr × Nat=>.tuple #[.slice x.1 (Qbr (gd m.c.ops k)).length x.2,I6 0]) Qvn rfl rfl (QvB _ (gd m.c.ops k) (hx.op _ (Qcw (by omega))) (hro _ (Qcw (by omega)))) Y fun x19 w20 Y _=>?_))))))))
   replace Y:=Ow [blk b1 (msv m) 38,wR 212 5 p5 0 L,row (.slice x9.1 ((QaF m.c.known).length) x9.2) ((QaF m.c.known).map (ic .u8)) 5 1,blk b16 (oc (gd m.c.ops k)) 54,row (.slice x19.1 ((Qbr (gd m.c.ops k)).length) x19.2) ((Qbr (gd m.c.ops k)).map (ic .u8)) 5 1] Y
   refine Qaa (Qag (.tuple #[.slice x19.1 ((Qbr (gd m.c.ops k)).length) x19.2,I6 0]) (Qaa (Qaf (V:=.slice x19.1 ((Qbr (gd m.c.ops k)).length) x19.2) rfl rfl (Qaa (Qaf (V:=I6 0) rfl rfl (Qaa (Qak (.slice x19.1 ((Qbr (gd m.c.ops k)).length) x19.2) (Qaa (Qak (I6 0) (Qad ?_))))))))))
   have hel:=Qf8 (hx.op _ (Qcw (l:=m.c.ops) (i:=k) (by omega)))
   refine Qab (Qaa (Qag (Pq p5 0) (Qaa (Qag (.slice x19.1 ((Qbr (gd m.c.ops k)).length) x19.2) (Qaa (Qfr (α:=Unit) (vs:=[Pq p5 0,.slice x19.1 ((Qbr (gd m.c.ops k)).length) x19.2]) (V:=fun _=>I6 0) (R:=wR 212 5 p5 0 L) (R':=fun _=>wR 212 5 p5 0 (L++QaM (Qbr (gd m.c.ops k)))) (Lo:=fun _=>[]) (F:=fun _ _=>True) Qqi rfl rfl Y 1 rfl (fun S9 hS9 hl9 hM9 hK9=>Qit _ S9 p5 L x19.1 x19.2 (Qbr (gd m.c.ops k)) (hK9 4 (by decide) _ rfl).rdB (by first|omega|(simp only [QQ7,List.length_nil];omega)) hS9 hl9) fun _ w21 Y _=>(Qad (Qab (Qaa (Qbx (a:=(k:Int)) (b:=1) (c:=((k+1:Nat):Int)) rfl rfl (QaS (by omega) (by omega)) (Qaa (Qag (I6 ((k+1:Nat):Int)) (Qad ?_)))))))))))))
   refine ⟨_,?_,_,k+1,L++QaM (Qbr (gd m.c.ops k)),Qaw (QaN (ds:=([6,7,8]++sq 43 13)) (by repeat (first|exact Agr.refl _ _|refine Agr.upd ?_ rfl|refine Agr.mix ?_ rfl))) rfl,(by omega),(by rw [hL,Qfb (by omega)]),(by rw [hL,← Qfb (by omega)];exact Qe1 hx hri (by omega) hn16),rfl,Y.take 3⟩
   omega
  replace c15:=QQ2 c15
  refine Qbs (Qae ?_)
  have hX9:L=Qap m.c:=by rw [hL,show k=m.c.ops.length by omega];exact Qp5 c12
  rw [hX9] at Y
  replace Y:Own w no _ [blk b1 (msv m) 38,wR 212 5 p5 0 (Qap m.c),row (.slice x9.1 ((QaF m.c.known).length) x9.2) ((QaF m.c.known).map (ic .u8)) 5 1]:=Y
  refine Qab (Qaa (Qag (Pq p5 0) (Qaa (Qa7 (vs:=[Pq p5 0]) (V:=fun x:Option Addr × Nat=>.tuple #[.slice x.1 (Qap m.c).length x.2,I6 0]) (R:=wR 212 5 p5 0 (Qap m.c)) (R':=fun _=>wR 212 5 p5 0 (Qap m.c)) (Lo:=fun x=>[row (.slice x.1 (Qap m.c).length x.2) ((Qap m.c).map (ic .u8)) 5 1]) (F:=fun _ _=>True) QoJ rfl rfl Y 1 rfl (fun S0 hS0 hl0=>QnS _ S0 p5 (Qap m.c) (by omega) hS0 hl0) fun x22 w23 Y _=>?_))))
  replace Y:=Ow [blk b1 (msv m) 38,wR 212 5 p5 0 (Qap m.c),row (.slice x9.1 ((QaF m.c.known).length) x9.2) ((QaF m.c.known).map (ic .u8)) 5 1,row (.slice x22.1 ((Qap m.c).length) x22.2) ((Qap m.c).map (ic .u8)) 5 1] Y
  refine Qaa (Qag (.tuple #[.slice x22.1 ((Qap m.c).length) x22.2,I6 0]) (Qaa (Qaf (V:=.slice x22.1 ((Qap m.c).length) x22.2) rfl rfl (Qaa (Qaf (V:=I6 0) rfl rfl (Qaa (Qak (.slice x22.1 ((Qap m.c).length) x22.2) (Qaa (Qak (I6 0) (Qad (Qae (Qae (Qab (Qaa (Qag (I6 0) (Qaa (Qas (V:=.bool (!decide ((0:Int)=0))) (V':=.bool false) (QbM rfl rfl ⟨rfl,rfl⟩) rfl (Qad (QcR rfl ?_)))))))))))))))))))
  refine Qar (Qae (Qab (Qaa (Qag (.slice x22.1 ((Qap m.c).length) x22.2) (Qaa (Qax (vs:=[.slice x22.1 ((Qap m.c).length) x22.2]) (V:=fun x:Option Addr × Nat=>.tuple #[.slice x.1 (Qaz (Qap m.c)).length x.2,I6 0]) Qs9 rfl rfl (QkE _ x22.1 x22.2 (Qap m.c) hbo hbl (Y.rd 3 rfl) (Qa8.own' hG Y)) Y fun x24 w25 Y _=>(Qaa (Qaf (V:=.slice x24.1 ((Qaz (Qap m.c)).length) x24.2) rfl rfl (Qaa (Qaf (V:=I6 0) rfl rfl (Qaa (Qak (.slice x24.1 ((Qaz (Qap m.c)).length) x24.2) (Qaa (Qak (I6 0) (Qad (Qat ?_))))))))))))))))
  refine ⟨_,Qbq (U:=.slice x24.1 ((Qaz (Qap m.c)).length) x24.2) (V:=I6 0) results11 rfl rfl,?_⟩
  rw [hme,hmr]
  exact ⟨(x24.1,x24.2),rfl,Y.only 4 rfl,trivial⟩
 replace c12:=QQ2 c12
 refine Qae (Qab (Qaa (Qa5 rfl rfl (Qaa (Qak (.bool (decide (m.c.kind=3))) (Qad (Qaq (t:=decide (m.c.kind=3)) rfl (fun c26=>?_) (fun c26=>?_))))))))
 ·
  replace c26:=QQ1 c26
  refine Qae ?_
  have hpt:0<=m.c.idx/\m.c.idx<m.c.tot/\m.c.tot<=64/\1<=m.c.b.length/\m.c.b.length<=2000:=by rcases (QaG hri).2 with h|h|h;omega;omega;exact ⟨h.2.2.2.2.1,h.2.2.2.2.2.1,h.2.2.2.1,h.2.2.2.2.2.2.1,h.2.2.2.2.2.2.2⟩
  obtain ⟨hi0,hit,ht64,hb1,hb2⟩:=hpt
  have hpi:=QeW (n:=m.c.idx.toNat) (by omega)
  have hpt:=QeW (n:=m.c.tot.toNat) (by omega)
  have hfb:=QbV (l:=m.c.b) (by omega)
  refine Qab (Qaa (Qag (Pq p5 0) (Qaa (Qac Qfd rfl (Qaa (QaY (I6 m.c.idx) QcS Y 0 (Qaa (Qas (V:=.int .u64 m.c.idx) (V':=.int .u64 ((m.c.idx.toNat:Nat):Int)) (QaB QfT Qa6 rfl (Qbe (by omega) (by omega)) ⟨rfl,rfl⟩) (congrArg (Value.int .u64) (by omega)) (Qaa (Qa7 (α:=Unit) (vs:=[Pq p5 0,.int .u64 ((m.c.idx.toNat:Nat):Int)]) (V:=fun _=>I6 0) (R:=wR 212 5 p5 0 ([]++Qan m.c.kind.toNat++Qan m.c.frm.toNat++QaM (QaF m.c.known))) (R':=fun _=>wR 212 5 p5 0 ([]++Qan m.c.kind.toNat++Qan m.c.frm.toNat++QaM (QaF m.c.known)++Qan m.c.idx.toNat)) (Lo:=fun _=>[]) (F:=fun _ _=>True) Qjq rfl rfl Y 1 rfl (fun S0 hS0 hl0=>Qjp _ S0 p5 ([]++Qan m.c.kind.toNat++Qan m.c.frm.toNat++QaM (QaF m.c.known)) m.c.idx.toNat (by omega) (by first|omega|(simp only [QQ7,List.length_nil];omega)) hS0 hl0) fun _ w27 Y _=>(Qad (Qae (Qab (Qaa (Qag (Pq p5 0) (Qaa (Qac Qeu rfl (Qaa (QaY (I6 m.c.tot) QcS Y 0 (Qaa (Qas (V:=.int .u64 m.c.tot) (V':=.int .u64 ((m.c.tot.toNat:Nat):Int)) (QaB QfT Qa6 rfl (Qbe (by omega) (by omega)) ⟨rfl,rfl⟩) (congrArg (Value.int .u64) (by omega)) (Qaa (Qa7 (α:=Unit) (vs:=[Pq p5 0,.int .u64 ((m.c.tot.toNat:Nat):Int)]) (V:=fun _=>I6 0) (R:=wR 212 5 p5 0 ([]++Qan m.c.kind.toNat++Qan m.c.frm.toNat++QaM (QaF m.c.known)++Qan m.c.idx.toNat)) (R':=fun _=>wR 212 5 p5 0 ([]++Qan m.c.kind.toNat++Qan m.c.frm.toNat++QaM (QaF m.c.known)++Qan m.c.idx.toNat++Qan m.c.tot.toNat)) (Lo:=fun _=>[]) (F:=fun _ _=>True) Qjq rfl rfl Y 1 rfl (fun S0 hS0 hl0=>Qjp _ S0 p5 ([]++Qan m.c.kind.toNat++Qan m.c.frm.toNat++QaM (QaF m.c.known)++Qan m.c.idx.toNat) m.c.tot.toNat (by omega) (by first|omega|(simp only [QQ7,List.length_nil];omega)) hS0 hl0) fun _ w28 Y _=>?_)))))))))))))))))))))))
  replace Y:=Ow [blk b1 (msv m) 38,wR 212 5 p5 0 ([]++Qan m.c.kind.toNat++Qan m.c.frm.toNat++QaM (QaF m.c.known)++Qan m.c.idx.toNat++Qan m.c.tot.toNat),row (.slice x9.1 ((QaF m.c.known).length) x9.2) ((QaF m.c.known).map (ic .u8)) 5 1] Y
  refine Qad (Qab (Qaa (Qag (Pq p5 0) (Qaa (Qac Qfh rfl (Qaa (QaY (.slice m.a2 m.c.b.length m.n2) QbD Y 0 (Qaa (Qfr (α:=Unit) (vs:=[Pq p5 0,.slice m.a2 m.c.b.length m.n2]) (V:=fun _=>I6 0) (R:=wR 212 5 p5 0 ([]++Qan m.c.kind.toNat++Qan m.c.frm.toNat++QaM (QaF m.c.known)++Qan m.c.idx.toNat++Qan m.c.tot.toNat)) (R':=fun _=>wR 212 5 p5 0 ([]++Qan m.c.kind.toNat++Qan m.c.frm.toNat++QaM (QaF m.c.known)++Qan m.c.idx.toNat++Qan m.c.tot.toNat++QaM m.c.b)) (Lo:=fun _=>[]) (F:=fun _ _=>True) Qqi rfl rfl Y 1 rfl (fun S9 hS9 hl9 hM9 hK9=>Qit _ S9 p5 ([]++Qan m.c.kind.toNat++Qan m.c.frm.toNat++QaM (QaF m.c.known)++Qan m.c.idx.toNat++Qan m.c.tot.toNat) m.a2 m.n2 m.c.b (RdB.ofM ⟨RdX.pos hmb (show (m.c.b.map (ic .u8)).length≠0 by rw [QQ6];omega),fun _ h=>h⟩ Y hM9) (by first|omega|(simp only [QQ7,List.length_nil];omega)) hS9 hl9) fun _ w29 Y _=>?_)))))))))
  refine Qad (Qae ?_)
  have hX9:[]++Qan m.c.kind.toNat++Qan m.c.frm.toNat++QaM (QaF m.c.known)++Qan m.c.idx.toNat++Qan m.c.tot.toNat++QaM m.c.b=Qap m.c:=QtD c26
  rw [hX9] at Y
  replace Y:Own w no _ [blk b1 (msv m) 38,wR 212 5 p5 0 (Qap m.c),row (.slice x9.1 ((QaF m.c.known).length) x9.2) ((QaF m.c.known).map (ic .u8)) 5 1]:=Y
  refine Qab (Qaa (Qag (Pq p5 0) (Qaa (Qa7 (vs:=[Pq p5 0]) (V:=fun x:Option Addr × Nat=>.tuple #[.slice x.1 (Qap m.c).length x.2,I6 0]) (R:=wR 212 5 p5 0 (Qap m.c)) (R':=fun _=>wR 212 5 p5 0 (Qap m.c)) (Lo:=fun x=>[row (.slice x.1 (Qap m.c).length x.2) ((Qap m.c).map (ic .u8)) 5 1]) (F:=fun _ _=>True) QoJ rfl rfl Y 1 rfl (fun S0 hS0 hl0=>QnS _ S0 p5 (Qap m.c) (by omega) hS0 hl0) fun x30 w31 Y _=>?_))))
  replace Y:=Ow [blk b1 (msv m) 38,wR 212 5 p5 0 (Qap m.c),row (.slice x9.1 ((QaF m.c.known).length) x9.2) ((QaF m.c.known).map (ic .u8)) 5 1,row (.slice x30.1 ((Qap m.c).length) x30.2) ((Qap m.c).map (ic .u8)) 5 1] Y
  refine Qaa (Qag (.tuple #[.slice x30.1 ((Qap m.c).length) x30.2,I6 0]) (Qaa (Qaf (V:=.slice x30.1 ((Qap m.c).length) x30.2) rfl rfl (Qaa (Qaf (V:=I6 0) rfl rfl (Qaa (Qak (.slice x30.1 ((Qap m.c).length) x30.2) (Qaa (Qak (I6 0) (Qad (Qae (Qae (Qab (Qaa (Qag (I6 0) (Qaa (Qas (V:=.bool (!decide ((0:Int)=0))) (V':=.bool false) (QbM rfl rfl ⟨rfl,rfl⟩) rfl (Qad (QcR rfl ?_)))))))))))))))))))
  refine Qar (Qae (Qab (Qaa (Qag (.slice x30.1 ((Qap m.c).length) x30.2) (Qaa (Qax (vs:=[.slice x30.1 ((Qap m.c).length) x30.2]) (V:=fun x:Option Addr × Nat=>.tuple #[.slice x.1 (Qaz (Qap m.c)).length x.2,I6 0]) Qs9 rfl rfl (QkE _ x30.1 x30.2 (Qap m.c) hbo hbl (Y.rd 3 rfl) (Qa8.own' hG Y)) Y fun x32 w33 Y _=>(Qaa (Qaf (V:=.slice x32.1 ((Qaz (Qap m.c)).length) x32.2) rfl rfl (Qaa (Qaf (V:=I6 0) rfl rfl (Qaa (Qak (.slice x32.1 ((Qaz (Qap m.c)).length) x32.2) (Qaa (Qak (I6 0) (Qad (Qat ?_))))))))))))))))
  refine ⟨_,Qbq (U:=.slice x32.1 ((Qaz (Qap m.c)).length) x32.2) (V:=I6 0) results11 rfl rfl,?_⟩
  rw [hme,hmr]
  exact ⟨(x32.1,x32.2),rfl,Y.only 4 rfl,trivial⟩
 replace c26:=QQ2 c26
 refine Qar (Qae ?_)
 have hX9:[]++Qan m.c.kind.toNat++Qan m.c.frm.toNat++QaM (QaF m.c.known)=Qap m.c:=QnL (by omega)
 rw [hX9] at Y
 replace Y:Own w no _ [blk b1 (msv m) 38,wR 212 5 p5 0 (Qap m.c),row (.slice x9.1 ((QaF m.c.known).length) x9.2) ((QaF m.c.known).map (ic .u8)) 5 1]:=Y
 refine Qab (Qaa (Qag (Pq p5 0) (Qaa (Qa7 (vs:=[Pq p5 0]) (V:=fun x:Option Addr × Nat=>.tuple #[.slice x.1 (Qap m.c).length x.2,I6 0]) (R:=wR 212 5 p5 0 (Qap m.c)) (R':=fun _=>wR 212 5 p5 0 (Qap m.c)) (Lo:=fun x=>[row (.slice x.1 (Qap m.c).length x.2) ((Qap m.c).map (ic .u8)) 5 1]) (F:=fun _ _=>True) QoJ rfl rfl Y 1 rfl (fun S0 hS0 hl0=>QnS _ S0 p5 (Qap m.c) (by omega) hS0 hl0) fun x34 w35 Y _=>(Qaa (Qag (.tuple #[.slice x34.1 ((Qap m.c).length) x34.2,I6 0]) (Qaa (Qaf (V:=.slice x34.1 ((Qap m.c).length) x34.2) rfl rfl (Qaa (Qaf (V:=I6 0) rfl rfl (Qaa (Qak (.slice x34.1 ((Qap m.c).length) x34.2) (Qaa (Qak (I6 0) (Qad (Qae (Qae (Qab (Qaa (Qag (I6 0) (Qaa (Qas (V:=.bool (!decide ((0:Int)=0))) (V':=.bool false) (QbM rfl rfl ⟨rfl,rfl⟩) rfl (Qad (QcR rfl ?_))))))))))))))))))))))))
 refine Qar (Qae (Qab (Qaa (Qag (.slice x34.1 ((Qap m.c).length) x34.2) (Qaa (Qax (vs:=[.slice x34.1 ((Qap m.c).length) x34.2]) (V:=fun x:Option Addr × Nat=>.tuple #[.slice x.1 (Qaz (Qap m.c)).length x.2,I6 0]) Qs9 rfl rfl (QkE _ x34.1 x34.2 (Qap m.c) hbo hbl (Y.rd 3 rfl) (Qa8.own' hG Y)) Y fun x36 w37 Y _=>?_))))))
 replace Y:=Ow [blk b1 (msv m) 38,wR 212 5 p5 0 (Qap m.c),row (.slice x9.1 ((QaF m.c.known).length) x9.2) ((QaF m.c.known).map (ic .u8)) 5 1,row (.slice x34.1 ((Qap m.c).length) x34.2) ((Qap m.c).map (ic .u8)) 5 1,row (.slice x36.1 ((Qaz (Qap m.c)).length) x36.2) ((Qaz (Qap m.c)).map (ic .u8)) 5 1] Y
 refine Qaa (Qaf (V:=.slice x36.1 ((Qaz (Qap m.c)).length) x36.2) rfl rfl (Qaa (Qaf (V:=I6 0) rfl rfl (Qaa (Qak (.slice x36.1 ((Qaz (Qap m.c)).length) x36.2) (Qaa (Qak (I6 0) (Qad (Qat ?_)))))))))
 refine ⟨_,Qbq (U:=.slice x36.1 ((Qaz (Qap m.c)).length) x36.2) (V:=I6 0) results11 rfl rfl,?_⟩
 rw [hme,hmr]
 exact ⟨(x36.1,x36.2),rfl,Y.only 4 rfl,trivial⟩
end Tt
end Go.Proofs
namespace Go.Proofs
open Go Go.Vx Go.RowKit
open Tryz
namespace Tt
def hdR (m:Msc) (k:Nat):Bs:=Qan m.kind.toNat++Qan m.frm.toNat++QaM (QaF m.known)++Qan m.ops.length++Qcd ((m.ops.take k).map Qbr)
theorem Qji (m:Msc) (k:Nat):hdR m k=QfN m k:=by unfold hdR QfN;simp
theorem QkT (m:Msc):Qan m.kind.toNat++Qan m.frm.toNat++QaM (QaF m.known)++Qan m.ops.length=hdR m 0:=by unfold hdR;simp [Qcd]
theorem Qlt {m:Msc} {k:Nat} (h:k<m.ops.length):hdR m (k+1)=hdR m k++QaM (Qbr (gd m.ops k)):=by rw [Qji,Qji,Qfb h]
theorem bd1 {m:Msc} (h:m.kind=1):Qan m.kind.toNat++Qan m.frm.toNat++QaM (QaF m.known)=Qap m:=by rw [← QnL h];simp
theorem bd2 {m:Msc} (h:m.kind=2):hdR m m.ops.length=Qap m:=by rw [Qji,Qp5 h]
theorem bd3 {m:Msc} (h:m.kind=3):Qan m.kind.toNat++Qan m.frm.toNat++QaM (QaF m.known)++Qan m.idx.toNat++Qan m.tot.toNat++QaM m.b=Qap m:=by rw [← QtD h];simp
theorem Qd6 (w:World) (m:Msv) (hx:MscOk m.c) (hmo:RdX w (.slice m.a m.c.ops.length m.n) 23 (m.c.ops.map oc)) (hmb:RdX w (.slice m.a2 m.c.b.length m.n2) 1 (m.c.b.map (ic .u8))) (hri:Qah m.c=true):Calls prog 76 #[.agg (msv m).toArray] w (fun e w'=>∃ x:Option Addr × Nat,e = .returned (.slice x.1 (Qaz (Qap m.c)).length x.2)/\Own w no w' [row (.slice x.1 (Qaz (Qap m.c)).length x.2) ((Qaz (Qap m.c)).map (ic .u8)) 5 1]/\True):=by
 refine Qal (n:=80) func76 rfl ntmps76 rfl ?_
 have Y:=Own.start w
 have hkn:=hx.kn
 obtain ⟨hk1,hk3,hkf⟩:=QgA hri
 obtain ⟨hp1,hp2,hp3⟩:=QjU hx hri
 obtain ⟨hfr1,hfr2⟩:=hx.fr
 have hvl9:=Qct hx.kn
 have hbl:=Qg7 hx hri
 have hbo:=QeS hx
 refine Qae (Qab (Qaa (Qb4 (V:=.agg (msv m).toArray) (cs:=msv m) rfl rfl Y fun b1 w2 Y=>(Qaa (Qak (.slice none 0 0) (Qad (Qae ?_)))))))
 replace Y:=Y.more emp trivial
 replace Y:=Y.more emp trivial
 refine Qcm HM (so 9 9++[some 3]) [[],[],[],[12],[],[],[],[16],[17],[17]] [0,1,3,7,0,16,48,127,255,511] [pv (Pq b1 (0+0)),pv (I6 m.c.kind),pv (.int .u64 ((m.c.kind.toNat:Nat):Int)),(true,fun J=>.slice (aOf (J 12)) ((Qan m.c.kind.toNat).length) (cOf (J 12))),pv (Pq b1 (0+1)),pv (.int .u8 m.c.frm),pv (.int .u64 ((m.c.frm.toNat:Nat):Int)),(true,fun J=>.slice (aOf (J 16)) ((Qan m.c.frm.toNat).length) (cOf (J 16))),(true,fun J=>.slice (aOf (J 17)) (((Qan m.c.kind.toNat)++(Qan m.c.frm.toNat)).length) (cOf (J 17))),(true,fun J=>.slice (aOf (J 17)) (((Qan m.c.kind.toNat)++(Qan m.c.frm.toNat)).length) (cOf (J 17)))] (fun D J=>[blk b1 (msv m) 86,cond (D 8) (row (.slice (aOf (J 17)) (((Qan m.c.kind.toNat)++(Qan m.c.frm.toNat)).length) (cOf (J 17))) (((Qan m.c.kind.toNat)++(Qan m.c.frm.toNat)).map (ic .u8)) 5 1) (cond (D 3) (row (.slice (aOf (J 12)) ((Qan m.c.kind.toNat).length) (cOf (J 12))) ((Qan m.c.kind.toNat).map (ic .u8)) 5 1) (emp)),cond (D 7) (row (.slice (aOf (J 16)) ((Qan m.c.frm.toNat).length) (cOf (J 16))) ((Qan m.c.frm.toNat).map (ic .u8)) 5 1) (emp)]) [9] (by kernel_rfl) Y ⟨?_,?_,?_,?_,?_,?_,?_,?_,?_,?_,trivial⟩ ?_
 ·exact oi [] fun Y=>Qac Qew rfl (Zz Y)
 ·exact oi [0] fun Y=>QaY (.int .i64 m.c.kind) QcS Y 0 (Zz Y)
 ·exact oi [1] fun Y=>Qas (V:=.int .u64 m.c.kind) (V':=.int .u64 ((m.c.kind.toNat:Nat):Int)) (QaB QfT Qa6 rfl (Qbe (by omega) (by omega)) ⟨rfl,rfl⟩) (congrArg (Value.int .u64) (by omega)) (Zz Y)
 ·exact ob [2] [8] rfl rfl fun D J w Y=>Qax (vs:=[.int .u64 ((m.c.kind.toNat:Nat):Int)]) (V:=fun x:Option Addr × Nat=>.slice x.1 (Qan m.c.kind.toNat).length x.2) Qel rfl rfl (Qc5 _ m.c.kind.toNat (by omega)) Y fun _ _ Y _=>⟨rfl,Y.put 1 (QQ8 rfl)⟩
 ·exact oi [] fun Y=>Qac Qh1 rfl (Zz Y)
 ·exact oi [4] fun Y=>QaY (.int .u8 m.c.frm) QcG Y 0 (Zz Y)
 ·exact oi [5] fun Y=>Qas (V:=.int .u64 m.c.frm) (V':=.int .u64 ((m.c.frm.toNat:Nat):Int)) (QaB Qfe Qa6 rfl (Qbe (by omega) (by omega)) ⟨rfl,rfl⟩) (congrArg (Value.int .u64) (by omega)) (Zz Y)
 ·exact oi [6] fun Y=>Qax (vs:=[.int .u64 ((m.c.frm.toNat:Nat):Int)]) (V:=fun x:Option Addr × Nat=>.slice x.1 (Qan m.c.frm.toNat).length x.2) Qel rfl rfl (Qc5 _ m.c.frm.toNat (by omega)) Y fun _ _ Y _=>⟨rfl,Y.put 2 (QQ8 rfl)⟩
 ·exact oi [3,7] fun Y=>QbH (ls':=((Qan m.c.kind.toNat)++(Qan m.c.frm.toNat)).map (ic .u8)) (n:=((Qan m.c.kind.toNat)++(Qan m.c.frm.toNat)).length) Qca Y 1 rfl rfl rfl (Y.rd 2 rfl) (QaV (Qbj .u8) _) (by simp only [QQ6,QQ7,List.length_cons,List.length_nil];omega) (by simp) (by simp) fun _ _ _ Y=>⟨rfl,Y⟩
 ·exact oa [8] fun D J w Y=>Qak (.slice (aOf (J 17)) (((Qan m.c.kind.toNat)++(Qan m.c.frm.toNat)).length) (cOf (J 17))) (Zz Y)
 rintro J1 w6 J2 hJ Y
 replace hJ:J2=upd (mix (sq 9 9++[3]) J1 _) 3 (.slice (aOf (J1 17)) (((Qan m.c.kind.toNat)++(Qan m.c.frm.toNat)).length) (cOf (J1 17))):=hJ
 replace Y:Own w no w6 [blk b1 (msv m) 86,row (.slice (aOf (J1 17)) (((Qan m.c.kind.toNat)++(Qan m.c.frm.toNat)).length) (cOf (J1 17))) (((Qan m.c.kind.toNat)++(Qan m.c.frm.toNat)).map (ic .u8)) 5 1,row (.slice (aOf (J1 16)) ((Qan m.c.frm.toNat).length) (cOf (J1 16))) ((Qan m.c.frm.toNat).map (ic .u8)) 5 1]:=Y
 generalize (aOf (J1 16))=a9 at Y
 generalize (cOf (J1 16))=c10 at Y
 generalize (aOf (J1 17))=a11 at hJ Y
 generalize (cOf (J1 17))=c12 at hJ Y
 subst hJ
 refine Qae (Qab (Qaa (Qag (.slice a11 (((Qan m.c.kind.toNat)++(Qan m.c.frm.toNat)).length) c12) (Qaa (Qac Qgp rfl (Qaa (Qez (vs:=vc m.c.known) QbC Y 0 rfl rfl rfl rfl (Qaa (Qax (vs:=[.agg (vc m.c.known).toArray]) (V:=fun x:Option Addr × Nat=>.slice x.1 (QaF m.c.known).length x.2) Qm1 rfl rfl (Qis _ m.c.known hx.kn) Y fun x13 w14 Y _=>?_)))))))))
 replace Y:=Ow [blk b1 (msv m) 86,row (.slice a11 (((Qan m.c.kind.toNat)++(Qan m.c.frm.toNat)).length) c12) (((Qan m.c.kind.toNat)++(Qan m.c.frm.toNat)).map (ic .u8)) 5 1,row (.slice a9 ((Qan m.c.frm.toNat).length) c10) ((Qan m.c.frm.toNat).map (ic .u8)) 5 1,row (.slice x13.1 ((QaF m.c.known).length) x13.2) ((QaF m.c.known).map (ic .u8)) 5 1] Y
 refine Qaa (Qax (vs:=[.slice x13.1 ((QaF m.c.known).length) x13.2]) (V:=fun x:Option Addr × Nat=>.slice x.1 (QaM (QaF m.c.known)).length x.2) QjI rfl rfl (Qgq _ x13.1 x13.2 (QaF m.c.known) (by omega) (Y.rd 3 rfl)) Y fun x15 w16 Y _=>(Qaa (QbH (ls':=(((Qan m.c.kind.toNat)++(Qan m.c.frm.toNat))++(QaM (QaF m.c.known))).map (ic .u8)) (n:=(((Qan m.c.kind.toNat)++(Qan m.c.frm.toNat))++(QaM (QaF m.c.known))).length) Qca Y 1 rfl rfl rfl (Y.rd 4 rfl) (QaV (Qbj .u8) _) (by simp only [QQ6,QQ7,List.length_cons,List.length_nil];omega) (by simp) (by simp) fun a17 c17 w18 Y=>?_)))
 replace Y:=Ow [blk b1 (msv m) 86,row (.slice a17 ((((Qan m.c.kind.toNat)++(Qan m.c.frm.toNat))++(QaM (QaF m.c.known))).length) c17) ((((Qan m.c.kind.toNat)++(Qan m.c.frm.toNat))++(QaM (QaF m.c.known))).map (ic .u8)) 5 1,row (.slice a9 ((Qan m.c.frm.toNat).length) c10) ((Qan m.c.frm.toNat).map (ic .u8)) 5 1,row (.slice x13.1 ((QaF m.c.known).length) x13.2) ((QaF m.c.known).map (ic .u8)) 5 1,row (.slice x15.1 ((QaM (QaF m.c.known)).length) x15.2) ((QaM (QaF m.c.known)).map (ic .u8)) 5 1] Y
 refine Qaa (Qak (.slice a17 ((((Qan m.c.kind.toNat)++(Qan m.c.frm.toNat))++(QaM (QaF m.c.known))).length) c17) (Qad (Qae (Qae (Qab (Qaa (Qac Qew rfl (Qaa (QaY (I6 m.c.kind) QcS Y 0 (Qaa (Qa5 rfl rfl (Qad (Qaq (t:=decide (m.c.kind=2)) rfl (fun c19=>?_) (fun c19=>?_))))))))))))))
 ·
  replace c19:=QQ1 c19
  refine Qae ?_
  have hn16:m.c.ops.length<=16:=by rcases (QaG hri).2 with h|h|h;omega;exact h.2.2.2.2.2.2.1;omega
  have hro:∀ o∈m.c.ops,QaI o=true:=by rcases (QaG hri).2 with h|h|h;omega;exact h.2.2.2.2.2.2.2;omega
  have hn1:1<=m.c.ops.length:=by rcases (QaG hri).2 with h|h|h;omega;exact h.2.2.2.2.2.1;omega
  have hpn:=QeW (n:=m.c.ops.length) (by omega)
  refine Qab (Qaa (Qag (.slice a17 ((((Qan m.c.kind.toNat)++(Qan m.c.frm.toNat))++(QaM (QaF m.c.known))).length) c17) (Qaa (Qac Qb8 rfl (Qaa (QaY (.slice m.a m.c.ops.length m.n) Qc3 Y 0 (Qaa (QbR (n:=m.c.ops.length) Qc9 (RdX.own' hmo Y) (by simp) rfl (Qaa (QaB QfT Qa6 rfl (Qbe (by omega) (by omega)) (Qaa (Qax (vs:=[.int .u64 ((m.c.ops.length:Nat):Int)]) (V:=fun x:Option Addr × Nat=>.slice x.1 (Qan m.c.ops.length).length x.2) Qel rfl rfl (Qc5 _ m.c.ops.length (by omega)) Y fun x20 w21 Y _=>(Qaa (QbH (ls':=((((Qan m.c.kind.toNat)++(Qan m.c.frm.toNat))++(QaM (QaF m.c.known)))++(Qan m.c.ops.length)).map (ic .u8)) (n:=((((Qan m.c.kind.toNat)++(Qan m.c.frm.toNat))++(QaM (QaF m.c.known)))++(Qan m.c.ops.length)).length) Qca Y 1 rfl rfl rfl (Y.rd 5 rfl) (QaV (Qbj .u8) _) (by simp only [QQ6,QQ7,List.length_cons,List.length_nil];omega) (by simp) (by simp) fun a22 c22 w23 Y=>?_))))))))))))))
  replace Y:=Ow [blk b1 (msv m) 86,row (.slice a22 (((((Qan m.c.kind.toNat)++(Qan m.c.frm.toNat))++(QaM (QaF m.c.known)))++(Qan m.c.ops.length)).length) c22) (((((Qan m.c.kind.toNat)++(Qan m.c.frm.toNat))++(QaM (QaF m.c.known)))++(Qan m.c.ops.length)).map (ic .u8)) 5 1,row (.slice a9 ((Qan m.c.frm.toNat).length) c10) ((Qan m.c.frm.toNat).map (ic .u8)) 5 1,row (.slice x13.1 ((QaF m.c.known).length) x13.2) ((QaF m.c.known).map (ic .u8)) 5 1,row (.slice x15.1 ((QaM (QaF m.c.known)).length) x15.2) ((QaM (QaF m.c.known)).map (ic .u8)) 5 1,row (.slice x20.1 ((Qan m.c.ops.length).length) x20.2) ((Qan m.c.ops.length).map (ic .u8)) 5 1] Y
  refine Qaa (Qak (.slice a22 (((((Qan m.c.kind.toNat)++(Qan m.c.frm.toNat))++(QaM (QaF m.c.known)))++(Qan m.c.ops.length)).length) c22) (Qad (Qae (Qab (Qaa (Qak (I6 0) (Qad (Qay (Qbb (fun J μ J' w'=>∃ (Jo:Env) (k:Nat) (ab9:Option Addr) (cb9:Nat) (L:Bs),J'=upd (upd (mix ([3,4,5,6]++sq 34 20) Jo J) 4 (I6 (k:Int))) 3 (.slice ab9 L.length cb9)/\(k<=m.c.ops.length)/\(L=hdR m.c k)/\(L.length<=90+155*k)/\μ=m.c.ops.length-k/\Own w no w' [blk b1 (msv m) 86,row (.slice ab9 L.length cb9) (L.map (ic .u8)) 5 1,row (.slice a9 ((Qan m.c.frm.toNat).length) c10) ((Qan m.c.frm.toNat).map (ic .u8)) 5 1,row (.slice x13.1 ((QaF m.c.known).length) x13.2) ((QaF m.c.known).map (ic .u8)) 5 1,row (.slice x15.1 ((QaM (QaF m.c.known)).length) x15.2) ((QaM (QaF m.c.known)).map (ic .u8)) 5 1,row (.slice x20.1 ((Qan m.c.ops.length).length) x20.2) ((Qan m.c.ops.length).map (ic .u8)) 5 1]) ?_ ?_)))))))))
  ·exact ⟨_,_,0,a22,c22,(((Qan m.c.kind.toNat)++(Qan m.c.frm.toNat))++(QaM (QaF m.c.known)))++(Qan m.c.ops.length),Qaw (Qaw (QaN (ds:=([3,4,5,6]++sq 34 20)) (Agr.refl _ _)) rfl) rfl,(by omega),(QkT _),(by rw [QkT,Qji];exact Qe1 hx hri (by omega) hn16),rfl,Y⟩
  rintro μ J' w24 ⟨Jo,k,ab9,cb9,L,rfl,hk,hL,hLl,rfl,Y⟩
  refine Qae (Qae (Qab (Qaa (Qag (I6 (k:Int)) (Qaa (Qac Qb8 rfl (Qaa (QaY (.slice m.a m.c.ops.length m.n) Qc3 Y 0 (Qaa (Qas (V:=I6 ((m.c.ops.length:Nat):Int)) (V':=I6 ((m.c.ops.length:Nat):Int)) (QbR (n:=m.c.ops.length) Qc9 (RdX.own' hmo Y) (by simp) rfl ⟨rfl,rfl⟩) rfl (Qaa (QbQ rfl rfl (Qad (Qaq (t:=decide ((k:Int)<((m.c.ops.length:Nat):Int))) rfl (fun c25=>?_) (fun c25=>?_)))))))))))))))
  ·
   replace c25:=QQ1 c25
   refine Qar (Qae (Qay (Qae (Qab (Qaa (Qac Qb8 rfl (Qaa (QaY (.slice m.a m.c.ops.length m.n) Qc3 Y 0 (Qaa (Qag (I6 (k:Int)) (Qaa (QcJ Qc9 Qbp.1 (RdX.pos (RdX.own' hmo Y) (by rw [QQ6];omega)) rfl rfl (by omega) (by rw [QQ6];omega) (Qaa (QhD (j:=0) (vs:=oc (gd m.c.ops k)) k Qbp (RdX.pos (RdX.own' hmo Y) (by rw [QQ6];omega)) (QcN (by omega)) rfl rfl rfl (by omega) (Qaa (Qax (vs:=[.agg (oc (gd m.c.ops k)).toArray]) (V:=fun x:Option Addr × Nat=>.tuple #[.slice x.1 (Qbr (gd m.c.ops k)).length x.2,I6 0]) QuN rfl rfl (Quh _ (gd m.c.ops k) (hx.op _ (Qcw (by omega))) (hro _ (Qcw (by omega)))) Y fun x26 w27 Y _=>(Qaa (Qag (.tuple #[.slice x26.1 ((Qbr (gd m.c.ops k)).length) x26.2,I6 0]) (Qaa (Qaf (V:=.slice x26.1 ((Qbr (gd m.c.ops k)).length) x26.2) rfl rfl (Qaa (Qaf (V:=I6 0) rfl rfl (Qaa (Qak (.slice x26.1 ((Qbr (gd m.c.ops k)).length) x26.2) (Qaa (Qak (I6 0) (Qad ?_)))))))))))))))))))))))))))
   have hel:=Qf8 (hx.op _ (Qcw (l:=m.c.ops) (i:=k) (by omega)))
   have hfel:=QbV (l:=Qbr (gd m.c.ops k)) (by omega)
   refine Qab (Qaa (Qag (.slice ab9 L.length cb9) (Qaa (Qag (.slice x26.1 ((Qbr (gd m.c.ops k)).length) x26.2) (Qaa (Qax (vs:=[.slice x26.1 ((Qbr (gd m.c.ops k)).length) x26.2]) (V:=fun x:Option Addr × Nat=>.slice x.1 (QaM (Qbr (gd m.c.ops k))).length x.2) QjI rfl rfl (Qgq _ x26.1 x26.2 (Qbr (gd m.c.ops k)) (by omega) (Y.rd 6 rfl)) Y fun x28 w29 Y _=>?_))))))
   replace Y:=Ow [blk b1 (msv m) 86,row (.slice ab9 L.length cb9) (L.map (ic .u8)) 5 1,row (.slice a9 ((Qan m.c.frm.toNat).length) c10) ((Qan m.c.frm.toNat).map (ic .u8)) 5 1,row (.slice x13.1 ((QaF m.c.known).length) x13.2) ((QaF m.c.known).map (ic .u8)) 5 1,row (.slice x15.1 ((QaM (QaF m.c.known)).length) x15.2) ((QaM (QaF m.c.known)).map (ic .u8)) 5 1,row (.slice x20.1 ((Qan m.c.ops.length).length) x20.2) ((Qan m.c.ops.length).map (ic .u8)) 5 1,row (.slice x26.1 ((Qbr (gd m.c.ops k)).length) x26.2) ((Qbr (gd m.c.ops k)).map (ic .u8)) 5 1,row (.slice x28.1 ((QaM (Qbr (gd m.c.ops k))).length) x28.2) ((QaM (Qbr (gd m.c.ops k))).map (ic .u8)) 5 1] Y
   refine Qaa (QbH (ls':=(L++(QaM (Qbr (gd m.c.ops k)))).map (ic .u8)) (n:=(L++(QaM (Qbr (gd m.c.ops k)))).length) Qca Y 1 rfl rfl rfl (Y.rd 7 rfl) (QaV (Qbj .u8) _) (by simp only [QQ6,QQ7,List.length_cons,List.length_nil];omega) (by simp) (by simp) fun a30 c30 w31 Y=>(Qaa (Qak (.slice a30 ((L++(QaM (Qbr (gd m.c.ops k)))).length) c30) (Qad (Qab (Qaa (Qag (I6 (k:Int)) (Qaa (Qbx (a:=(k:Int)) (b:=1) (c:=((k+1:Nat):Int)) rfl rfl (QaS (by omega) (by omega)) (Qaa (Qak (I6 ((k+1:Nat):Int)) (Qad ?_))))))))))))
   refine ⟨_,?_,_,k+1,a30,c30,L++(QaM (Qbr (gd m.c.ops k))),Qaw (Qaw (QaN (ds:=([3,4,5,6]++sq 34 20)) (by repeat (first|exact Agr.refl _ _|refine Agr.upd ?_ rfl|refine Agr.mix ?_ rfl))) rfl) rfl,(by omega),(by rw [hL,Qlt (by omega)]),(by rw [hL,← Qlt (by omega),Qji];exact Qe1 hx hri (by omega) hn16),rfl,Y.take 6⟩
   omega
  replace c25:=QQ2 c25
  refine Qbs (Qae (Qae (Qab (Qaa (Qac Qew rfl (Qaa (QaY (I6 m.c.kind) QcS Y 0 (Qaa (Qas (V:=.bool (decide (m.c.kind=3))) (V':=.bool false) (Qa5 rfl rfl ⟨rfl,rfl⟩) (congrArg Value.bool (QQ4 (by omega))) (Qad (QcR rfl ?_)))))))))))
  refine Qar (Qae ?_)
  have hX9:L=Qap m.c:=by rw [hL,show k=m.c.ops.length by omega];exact bd2 c19
  rw [hX9] at Y ⊢
  replace Y:Own w no _ [blk b1 (msv m) 86,row (.slice ab9 ((Qap m.c).length) cb9) ((Qap m.c).map (ic .u8)) 5 1,row (.slice a9 ((Qan m.c.frm.toNat).length) c10) ((Qan m.c.frm.toNat).map (ic .u8)) 5 1,row (.slice x13.1 ((QaF m.c.known).length) x13.2) ((QaF m.c.known).map (ic .u8)) 5 1,row (.slice x15.1 ((QaM (QaF m.c.known)).length) x15.2) ((QaM (QaF m.c.known)).map (ic .u8)) 5 1,row (.slice x20.1 ((Qan m.c.ops.length).length) x20.2) ((Qan m.c.ops.length).map (ic .u8)) 5 1]:=Y
  refine Qab (Qaa (Qag (.slice ab9 ((Qap m.c).length) cb9) (Qaa (Qax (vs:=[.slice ab9 ((Qap m.c).length) cb9]) (V:=fun x:Option Addr × Nat=>.tuple #[.slice x.1 (Qaz (Qap m.c)).length x.2,I6 0]) QlI rfl rfl (Qf5 _ ab9 cb9 (Qap m.c) hbo hbl (Y.rd 1 rfl)) Y fun x32 w33 Y _=>(Qaa (Qag (.tuple #[.slice x32.1 ((Qaz (Qap m.c)).length) x32.2,I6 0]) (Qaa (Qaf (V:=.slice x32.1 ((Qaz (Qap m.c)).length) x32.2) rfl rfl (Qaa (Qaf (V:=I6 0) rfl rfl (Qaa (Qak (.slice x32.1 ((Qaz (Qap m.c)).length) x32.2) (Qaa (Qak (I6 0) (Qad (Qae (Qab (Qaa (Qag (.slice x32.1 ((Qaz (Qap m.c)).length) x32.2) (Qaa (Qak (.slice x32.1 ((Qaz (Qap m.c)).length) x32.2) (Qad (Qat ?_)))))))))))))))))))))))
  refine ⟨_,Qau (V:=.slice x32.1 ((Qaz (Qap m.c)).length) x32.2) results76 rfl,?_⟩
  exact ⟨(x32.1,x32.2),rfl,Y.only 6 rfl,trivial⟩
 replace c19:=QQ2 c19
 refine Qar (Qae (Qae (Qab (Qaa (Qac Qew rfl (Qaa (QaY (I6 m.c.kind) QcS Y 0 (Qaa (Qas (V:=.bool (decide (m.c.kind=3))) (V':=.bool (decide (m.c.kind=3))) (Qa5 rfl rfl ⟨rfl,rfl⟩) rfl (Qad (Qaq (t:=decide (m.c.kind=3)) rfl (fun c34=>?_) (fun c34=>?_))))))))))))
 ·
  replace c34:=QQ1 c34
  refine Qae ?_
  have hpt:0<=m.c.idx/\m.c.idx<m.c.tot/\m.c.tot<=64/\1<=m.c.b.length/\m.c.b.length<=2000:=by rcases (QaG hri).2 with h|h|h;omega;omega;exact ⟨h.2.2.2.2.1,h.2.2.2.2.2.1,h.2.2.2.1,h.2.2.2.2.2.2.1,h.2.2.2.2.2.2.2⟩
  obtain ⟨hi0,hit,ht64,hb1,hb2⟩:=hpt
  have hpi:=QeW (n:=m.c.idx.toNat) (by omega)
  have hpt:=QeW (n:=m.c.tot.toNat) (by omega)
  have hfb:=QbV (l:=m.c.b) (by omega)
  refine Qab (Qaa (Qag (.slice a17 ((((Qan m.c.kind.toNat)++(Qan m.c.frm.toNat))++(QaM (QaF m.c.known))).length) c17) (Qaa (Qac QdM rfl (Qaa (QaY (I6 m.c.idx) QcS Y 0 (Qaa (Qas (V:=.int .u64 m.c.idx) (V':=.int .u64 ((m.c.idx.toNat:Nat):Int)) (QaB QfT Qa6 rfl (Qbe (by omega) (by omega)) ⟨rfl,rfl⟩) (congrArg (Value.int .u64) (by omega)) (Qaa (Qax (vs:=[.int .u64 ((m.c.idx.toNat:Nat):Int)]) (V:=fun x:Option Addr × Nat=>.slice x.1 (Qan m.c.idx.toNat).length x.2) Qel rfl rfl (Qc5 _ m.c.idx.toNat (by omega)) Y fun x35 w36 Y _=>(Qaa (QbH (ls':=((((Qan m.c.kind.toNat)++(Qan m.c.frm.toNat))++(QaM (QaF m.c.known)))++(Qan m.c.idx.toNat)).map (ic .u8)) (n:=((((Qan m.c.kind.toNat)++(Qan m.c.frm.toNat))++(QaM (QaF m.c.known)))++(Qan m.c.idx.toNat)).length) Qca Y 1 rfl rfl rfl (Y.rd 5 rfl) (QaV (Qbj .u8) _) (by simp only [QQ6,QQ7,List.length_cons,List.length_nil];omega) (by simp) (by simp) fun a37 c37 w38 Y=>?_))))))))))))
  replace Y:=Ow [blk b1 (msv m) 86,row (.slice a37 (((((Qan m.c.kind.toNat)++(Qan m.c.frm.toNat))++(QaM (QaF m.c.known)))++(Qan m.c.idx.toNat)).length) c37) (((((Qan m.c.kind.toNat)++(Qan m.c.frm.toNat))++(QaM (QaF m.c.known)))++(Qan m.c.idx.toNat)).map (ic .u8)) 5 1,row (.slice a9 ((Qan m.c.frm.toNat).length) c10) ((Qan m.c.frm.toNat).map (ic .u8)) 5 1,row (.slice x13.1 ((QaF m.c.known).length) x13.2) ((QaF m.c.known).map (ic .u8)) 5 1,row (.slice x15.1 ((QaM (QaF m.c.known)).length) x15.2) ((QaM (QaF m.c.known)).map (ic .u8)) 5 1,row (.slice x35.1 ((Qan m.c.idx.toNat).length) x35.2) ((Qan m.c.idx.toNat).map (ic .u8)) 5 1] Y
  refine Qaa (Qak (.slice a37 (((((Qan m.c.kind.toNat)++(Qan m.c.frm.toNat))++(QaM (QaF m.c.known)))++(Qan m.c.idx.toNat)).length) c37) (Qad (Qae (Qab (Qaa (Qag (.slice a37 (((((Qan m.c.kind.toNat)++(Qan m.c.frm.toNat))++(QaM (QaF m.c.known)))++(Qan m.c.idx.toNat)).length) c37) (Qaa (Qac Qdq rfl (Qaa (QaY (I6 m.c.tot) QcS Y 0 (Qaa (Qas (V:=.int .u64 m.c.tot) (V':=.int .u64 ((m.c.tot.toNat:Nat):Int)) (QaB QfT Qa6 rfl (Qbe (by omega) (by omega)) ⟨rfl,rfl⟩) (congrArg (Value.int .u64) (by omega)) (Qaa (Qax (vs:=[.int .u64 ((m.c.tot.toNat:Nat):Int)]) (V:=fun x:Option Addr × Nat=>.slice x.1 (Qan m.c.tot.toNat).length x.2) Qel rfl rfl (Qc5 _ m.c.tot.toNat (by omega)) Y fun x39 w40 Y _=>(Qaa (QbH (ls':=(((((Qan m.c.kind.toNat)++(Qan m.c.frm.toNat))++(QaM (QaF m.c.known)))++(Qan m.c.idx.toNat))++(Qan m.c.tot.toNat)).map (ic .u8)) (n:=(((((Qan m.c.kind.toNat)++(Qan m.c.frm.toNat))++(QaM (QaF m.c.known)))++(Qan m.c.idx.toNat))++(Qan m.c.tot.toNat)).length) Qca Y 1 rfl rfl rfl (Y.rd 6 rfl) (QaV (Qbj .u8) _) (by simp only [QQ6,QQ7,List.length_cons,List.length_nil];omega) (by simp) (by simp) fun a41 c41 w42 Y=>?_))))))))))))))))
  replace Y:=Ow [blk b1 (msv m) 86,row (.slice a41 ((((((Qan m.c.kind.toNat)++(Qan m.c.frm.toNat))++(QaM (QaF m.c.known)))++(Qan m.c.idx.toNat))++(Qan m.c.tot.toNat)).length) c41) ((((((Qan m.c.kind.toNat)++(Qan m.c.frm.toNat))++(QaM (QaF m.c.known)))++(Qan m.c.idx.toNat))++(Qan m.c.tot.toNat)).map (ic .u8)) 5 1,row (.slice a9 ((Qan m.c.frm.toNat).length) c10) ((Qan m.c.frm.toNat).map (ic .u8)) 5 1,row (.slice x13.1 ((QaF m.c.known).length) x13.2) ((QaF m.c.known).map (ic .u8)) 5 1,row (.slice x15.1 ((QaM (QaF m.c.known)).length) x15.2) ((QaM (QaF m.c.known)).map (ic .u8)) 5 1,row (.slice x35.1 ((Qan m.c.idx.toNat).length) x35.2) ((Qan m.c.idx.toNat).map (ic .u8)) 5 1,row (.slice x39.1 ((Qan m.c.tot.toNat).length) x39.2) ((Qan m.c.tot.toNat).map (ic .u8)) 5 1] Y
  refine Qaa (Qak (.slice a41 ((((((Qan m.c.kind.toNat)++(Qan m.c.frm.toNat))++(QaM (QaF m.c.known)))++(Qan m.c.idx.toNat))++(Qan m.c.tot.toNat)).length) c41) (Qad (Qab (Qaa (Qag (.slice a41 ((((((Qan m.c.kind.toNat)++(Qan m.c.frm.toNat))++(QaM (QaF m.c.known)))++(Qan m.c.idx.toNat))++(Qan m.c.tot.toNat)).length) c41) (Qaa (Qac Qdu rfl (Qaa (QaY (.slice m.a2 m.c.b.length m.n2) QbD Y 0 (Qaa (Qax (vs:=[.slice m.a2 m.c.b.length m.n2]) (V:=fun x:Option Addr × Nat=>.slice x.1 (QaM m.c.b).length x.2) QjI rfl rfl (Qgq _ m.a2 m.n2 m.c.b (by omega) (RdX.pos (RdX.own' hmb Y) (by rw [QQ6];omega))) Y fun x43 w44 Y _=>(Qaa (QbH (ls':=((((((Qan m.c.kind.toNat)++(Qan m.c.frm.toNat))++(QaM (QaF m.c.known)))++(Qan m.c.idx.toNat))++(Qan m.c.tot.toNat))++(QaM m.c.b)).map (ic .u8)) (n:=((((((Qan m.c.kind.toNat)++(Qan m.c.frm.toNat))++(QaM (QaF m.c.known)))++(Qan m.c.idx.toNat))++(Qan m.c.tot.toNat))++(QaM m.c.b)).length) Qca Y 1 rfl rfl rfl (Y.rd 7 rfl) (QaV (Qbj .u8) _) (by simp only [QQ6,QQ7,List.length_cons,List.length_nil];omega) (by simp) (by simp) fun a45 c45 w46 Y=>?_)))))))))))))
  replace Y:=Ow [blk b1 (msv m) 86,row (.slice a45 (((((((Qan m.c.kind.toNat)++(Qan m.c.frm.toNat))++(QaM (QaF m.c.known)))++(Qan m.c.idx.toNat))++(Qan m.c.tot.toNat))++(QaM m.c.b)).length) c45) (((((((Qan m.c.kind.toNat)++(Qan m.c.frm.toNat))++(QaM (QaF m.c.known)))++(Qan m.c.idx.toNat))++(Qan m.c.tot.toNat))++(QaM m.c.b)).map (ic .u8)) 5 1,row (.slice a9 ((Qan m.c.frm.toNat).length) c10) ((Qan m.c.frm.toNat).map (ic .u8)) 5 1,row (.slice x13.1 ((QaF m.c.known).length) x13.2) ((QaF m.c.known).map (ic .u8)) 5 1,row (.slice x15.1 ((QaM (QaF m.c.known)).length) x15.2) ((QaM (QaF m.c.known)).map (ic .u8)) 5 1,row (.slice x35.1 ((Qan m.c.idx.toNat).length) x35.2) ((Qan m.c.idx.toNat).map (ic .u8)) 5 1,row (.slice x39.1 ((Qan m.c.tot.toNat).length) x39.2) ((Qan m.c.tot.toNat).map (ic .u8)) 5 1,row (.slice x43.1 ((QaM m.c.b).length) x43.2) ((QaM m.c.b).map (ic .u8)) 5 1] Y
  refine Qaa (Qak (.slice a45 (((((((Qan m.c.kind.toNat)++(Qan m.c.frm.toNat))++(QaM (QaF m.c.known)))++(Qan m.c.idx.toNat))++(Qan m.c.tot.toNat))++(QaM m.c.b)).length) c45) (Qad (Qae ?_)))
  have hX9:(((((Qan m.c.kind.toNat)++(Qan m.c.frm.toNat))++(QaM (QaF m.c.known)))++(Qan m.c.idx.toNat))++(Qan m.c.tot.toNat))++(QaM m.c.b)=Qap m.c:=bd3 c34
  rw [hX9] at Y ⊢
  replace Y:Own w no _ [blk b1 (msv m) 86,row (.slice a45 ((Qap m.c).length) c45) ((Qap m.c).map (ic .u8)) 5 1,row (.slice a9 ((Qan m.c.frm.toNat).length) c10) ((Qan m.c.frm.toNat).map (ic .u8)) 5 1,row (.slice x13.1 ((QaF m.c.known).length) x13.2) ((QaF m.c.known).map (ic .u8)) 5 1,row (.slice x15.1 ((QaM (QaF m.c.known)).length) x15.2) ((QaM (QaF m.c.known)).map (ic .u8)) 5 1,row (.slice x35.1 ((Qan m.c.idx.toNat).length) x35.2) ((Qan m.c.idx.toNat).map (ic .u8)) 5 1,row (.slice x39.1 ((Qan m.c.tot.toNat).length) x39.2) ((Qan m.c.tot.toNat).map (ic .u8)) 5 1,row (.slice x43.1 ((QaM m.c.b).length) x43.2) ((QaM m.c.b).map (ic .u8)) 5 1]:=Y
  refine Qab (Qaa (Qag (.slice a45 ((Qap m.c).length) c45) (Qaa (Qax (vs:=[.slice a45 ((Qap m.c).length) c45]) (V:=fun x:Option Addr × Nat=>.tuple #[.slice x.1 (Qaz (Qap m.c)).length x.2,I6 0]) QlI rfl rfl (Qf5 _ a45 c45 (Qap m.c) hbo hbl (Y.rd 1 rfl)) Y fun x47 w48 Y _=>(Qaa (Qag (.tuple #[.slice x47.1 ((Qaz (Qap m.c)).length) x47.2,I6 0]) (Qaa (Qaf (V:=.slice x47.1 ((Qaz (Qap m.c)).length) x47.2) rfl rfl (Qaa (Qaf (V:=I6 0) rfl rfl (Qaa (Qak (.slice x47.1 ((Qaz (Qap m.c)).length) x47.2) (Qaa (Qak (I6 0) (Qad (Qae (Qab (Qaa (Qag (.slice x47.1 ((Qaz (Qap m.c)).length) x47.2) (Qaa (Qak (.slice x47.1 ((Qaz (Qap m.c)).length) x47.2) (Qad (Qat ?_)))))))))))))))))))))))
  refine ⟨_,Qau (V:=.slice x47.1 ((Qaz (Qap m.c)).length) x47.2) results76 rfl,?_⟩
  exact ⟨(x47.1,x47.2),rfl,Y.only 8 rfl,trivial⟩
 replace c34:=QQ2 c34
 refine Qar (Qae ?_)
 have hX9:((Qan m.c.kind.toNat)++(Qan m.c.frm.toNat))++(QaM (QaF m.c.known))=Qap m.c:=bd1 (by omega)
 rw [hX9] at Y ⊢
 replace Y:Own w no _ [blk b1 (msv m) 86,row (.slice a17 ((Qap m.c).length) c17) ((Qap m.c).map (ic .u8)) 5 1,row (.slice a9 ((Qan m.c.frm.toNat).length) c10) ((Qan m.c.frm.toNat).map (ic .u8)) 5 1,row (.slice x13.1 ((QaF m.c.known).length) x13.2) ((QaF m.c.known).map (ic .u8)) 5 1,row (.slice x15.1 ((QaM (QaF m.c.known)).length) x15.2) ((QaM (QaF m.c.known)).map (ic .u8)) 5 1]:=Y
 refine Qab (Qaa (Qag (.slice a17 ((Qap m.c).length) c17) (Qaa (Qax (vs:=[.slice a17 ((Qap m.c).length) c17]) (V:=fun x:Option Addr × Nat=>.tuple #[.slice x.1 (Qaz (Qap m.c)).length x.2,I6 0]) QlI rfl rfl (Qf5 _ a17 c17 (Qap m.c) hbo hbl (Y.rd 1 rfl)) Y fun x49 w50 Y _=>(Qaa (Qag (.tuple #[.slice x49.1 ((Qaz (Qap m.c)).length) x49.2,I6 0]) (Qaa (Qaf (V:=.slice x49.1 ((Qaz (Qap m.c)).length) x49.2) rfl rfl (Qaa (Qaf (V:=I6 0) rfl rfl (Qaa (Qak (.slice x49.1 ((Qaz (Qap m.c)).length) x49.2) (Qaa (Qak (I6 0) (Qad (Qae (Qab (Qaa (Qag (.slice x49.1 ((Qaz (Qap m.c)).length) x49.2) (Qaa (Qak (.slice x49.1 ((Qaz (Qap m.c)).length) x49.2) (Qad (Qat ?_)))))))))))))))))))))))
 refine ⟨_,Qau (V:=.slice x49.1 ((Qaz (Qap m.c)).length) x49.2) results76 rfl,?_⟩
 exact ⟨(x49.1,x49.2),rfl,Y.only 5 rfl,trivial⟩
theorem Qpe (w:World) (m:Msv) (hx:MscOk m.c) (hmo:RdX w (.slice m.a m.c.ops.length m.n) 23 (m.c.ops.map oc)) (hmb:RdX w (.slice m.a2 m.c.b.length m.n2) 1 (m.c.b.map (ic .u8))):Calls prog 25 #[.agg (msv m).toArray] w (fun e w'=>∃ q:Option Addr × Nat,e = .returned (.tuple #[.slice q.1 (MEX m.c).length q.2,.int .i64 (MER m.c)])/\Own w no w' [row (.slice q.1 (MEX m.c).length q.2) ((MEX m.c).map (ic .u8)) 5 1]/\True):=by
 refine Qal (n:=9) func25 rfl ntmps25 rfl ?_
 have Y:=Own.start w
 refine Qae (Qab (Qaa (Qb4 (V:=.agg (msv m).toArray) (cs:=msv m) rfl rfl Y fun b1 w2 Y=>(Qaa (Qak (.slice none 0 0) (Qaa (Qak (I6 0) (Qad (Qae (Qae (Qab (Qaa (Qa1 (cs:=msv m) QbI Y 0 rfl rfl rfl (Qaa (QaH (vs:=[.agg (msv m).toArray]) (V:=.bool (Qah m.c)) Qnu rfl rfl ?hc Y fun w3 Y=>?_)))))))))))))))
 case hc=>exact (Qdh _ m hx (RdX.own' hmo Y) (RdX.own' hmb Y))
 refine Qaa (Qb6 rfl (Qad (Qaq (t:=!(Qah m.c)) rfl (fun c4=>?_) (fun c4=>?_))))
 ·
  replace c4:=Qcb c4
  refine Qae (Qab (Qaa (Qak (.slice none 0 0) (Qaa (Qak (I6 2) (Qad (Qat ?_)))))))
  refine ⟨_,Qbq (U:=.slice none 0 0) (V:=I6 2) results25 rfl rfl,?_⟩
  obtain ⟨hme,hmr⟩:=QqY c4
  rw [hme,hmr]
  exact ⟨(none,0),rfl,(Y.take 0).more _ (QaK _ _ _ _),trivial⟩
 replace c4:=Qa3 c4
 refine Qar (Qae ?_)
 have hri:Qah m.c=true:=c4
 refine Qab (Qaa (Qa1 (cs:=msv m) QbI Y 0 rfl rfl rfl (Qaa (Qax (vs:=[.agg (msv m).toArray]) (V:=fun x:Option Addr × Nat=>.slice x.1 (Qaz (Qap m.c)).length x.2) Qpl rfl rfl (Qd6 _ m hx (RdX.own' hmo Y) (RdX.own' hmb Y) hri) Y fun x5 w6 Y _=>(Qaa (Qak (.slice x5.1 ((Qaz (Qap m.c)).length) x5.2) (Qaa (Qak (I6 0) (Qad (Qat ?_))))))))))
 refine ⟨_,Qbq (U:=.slice x5.1 ((Qaz (Qap m.c)).length) x5.2) (V:=I6 0) results25 rfl rfl,?_⟩
 obtain ⟨hme,hmr⟩:=Qnr hri
 rw [hme,hmr]
 exact ⟨(x5.1,x5.2),rfl,Y.only 1 rfl,trivial⟩
end Tt
end Go.Proofs
namespace Go.Proofs
open Go Go.Vx Go.RowKit
open Tryz
namespace Tt
theorem Qdn (w:World) (S:Nat->Prop) (q p:Nat) (B:Bool) (l:Bs) (i bits:Nat) (hbits:bits<=64) (hby:QaZ l) (hl:l.length<=1000000) (hR:(star [blk q [.pointer (some ⟨p,0,none⟩),.bool B] 287,rR 281 p (rdN l i)]).holds w S) (hlt:∀ x,S x->x<w.heap.size):Calls prog 167 #[.pointer (some ⟨q,0,none⟩),.int .i64 (bits:Int)] w (fun z w'=>∃ y:Bool × Nat,z = .returned (.int .u64 ((y.2:Nat):Int))/\Own w S w' [blk q [.pointer (some ⟨p,0,none⟩),.bool y.1] 287,rR 281 p (rdN l (i+1))]/\TkF l i bits B y) :=
 (QoW w S q p B (rdN l i) bits hbits (QqK hby i) (Nat.le_trans (Qng l i) hl) hR hlt).mono fun z w' ⟨B',h1,h2,h3⟩=>⟨(B',nO l i),h1,h2,⟨rfl,h3⟩⟩
theorem QrD (w:World) (a:Option Addr) (c:Nat) (l:Bs) (hby:QaZ l) (hl:l.length<=800000) (hr:Rd w (.slice a l.length c) 1 (l.map (ic .u8))):Calls prog 82 #[.slice a l.length c] w (fun e w'=>∃ x:Opn × Nat,e = .returned (.tuple #[.agg (oc x.1).toArray,.int .i64 ((x.2:Nat):Int)])/\Own w no w' []/\Qef l x.1 x.2):=by
 refine Qal (n:=82) func82 rfl ntmps82 rfl ?_
 have Y:=Own.start w
 have hn:=hr.sml
 refine Qae (Qab (Qaa (QaX (cs:=oc (⟨(⟨0,0⟩:Dot),0,0,0,0,0,vzero⟩:Opn)) QjS rfl Y fun b1 w2 Y=>?_)))
 replace Y:=Ow [blk b1 (oc (⟨(⟨0,0⟩:Dot),0,0,0,0,0,vzero⟩:Opn)) 54] Y
 refine Qaa (Qak (I6 0) (Qad (Qae (Qab (Qaa (Qag (.slice a l.length c) (Qaa (Qax (vs:=[.slice a l.length c]) (V:=fun x:Nat=>Pq x 0) Qsq rfl rfl (Qif _ a c l (by omega) (Rd.own' hr Y)) Y fun p3 w4 Y _=>?_))))))))
 replace Y:=Ow [blk b1 (oc (⟨(⟨0,0⟩:Dot),0,0,0,0,0,vzero⟩:Opn)) 54,rR 281 p3 (⟨0,l⟩:Rdr)] Y
 refine Qaa (Qbz (vs:=[(0,Pq p3 0),(1,.bool false)]) (cs:=[Pq p3 0,.bool false]) Qt4 (rfl) rfl (Qaa (Qb4 (V:=.agg #[Pq p3 0,.bool false]) (cs:=[Pq p3 0,.bool false]) rfl rfl Y fun b5 w6 Y=>?_)))
 replace Y:=Ow [blk b1 (oc (⟨(⟨0,0⟩:Dot),0,0,0,0,0,vzero⟩:Opn)) 54,rR 281 p3 (⟨0,l⟩:Rdr),blk b5 [Pq p3 0,.bool false] 287] Y
 refine Qaa (Qak (Pq b5 0) (Qad (Qae (Qab (Qaa (QaX (cs:=oc (⟨(⟨0,0⟩:Dot),0,0,0,0,0,vzero⟩:Opn)) QjS rfl Y fun b7 w8 Y=>?_))))))
 replace Y:=Ow [blk b1 (oc (⟨(⟨0,0⟩:Dot),0,0,0,0,0,vzero⟩:Opn)) 54,rR 281 p3 (⟨0,l⟩:Rdr),blk b5 [Pq p3 0,.bool false] 287,blk b7 (oc (⟨(⟨0,0⟩:Dot),0,0,0,0,0,vzero⟩:Opn)) 54] Y
 refine Qad (Qae (Qab (Qaa (Qag (Pq b5 0) (Qaa (Qen (α:=Bool × Nat) (vs:=[Pq b5 0,I6 8]) (V:=fun y=>.int .u64 ((y.2:Nat):Int)) (Rs:=[blk b5 [Pq p3 0,.bool false] 287,rR 281 p3 (rdN l 0)]) (Rs':=fun y=>[blk b5 [Pq p3 0,.bool y.1] 287,rR 281 p3 (rdN l 1)]) (Lo:=fun _=>[]) (F:=fun y _=>TkF l 0 8 false y) Qgn rfl rfl Y [2,1] (by decide) rfl (fun _=>(rfl:2=2)) (fun S0 hS0 hl0=>Qdn _ S0 b5 p3 false l 0 8 (by omega) hby (by omega) hS0 hl0) fun xt1 w9 Y hF1=>?_))))))
 replace Y:=Ow [blk b1 (oc (⟨(⟨0,0⟩:Dot),0,0,0,0,0,vzero⟩:Opn)) 54,rR 281 p3 (rdN l 1),blk b5 [Pq p3 0,.bool xt1.1] 287,blk b7 (oc (⟨(⟨0,0⟩:Dot),0,0,0,0,0,vzero⟩:Opn)) 54] Y
 refine Qaa (Qas (V:=.int .u8 (((xt1.2:Nat):Int)%256)) (V':=.int .u8 ((xt1.2%256:Nat):Int)) (QaB Qa6 Qfe rfl (QhY _) ⟨rfl,rfl⟩) (congrArg (Value.int .u8) (by omega)) (Qaa (Qac Qcq rfl (Qaa (Qac QdO rfl (Qaa (Qcl (V:=.int .u8 ((xt1.2%256:Nat):Int)) (cs':=oc (⟨(⟨((xt1.2%256:Nat):Int),0⟩:Dot),0,0,0,0,0,vzero⟩:Opn)) QcG Y 3 rfl rfl rfl rfl (QQ8 rfl) rfl fun w10 Y=>?_)))))))
 replace Y:=Ow [blk b1 (oc (⟨(⟨0,0⟩:Dot),0,0,0,0,0,vzero⟩:Opn)) 54,rR 281 p3 (rdN l 1),blk b5 [Pq p3 0,.bool xt1.1] 287,blk b7 (oc (⟨(⟨((xt1.2%256:Nat):Int),0⟩:Dot),0,0,0,0,0,vzero⟩:Opn)) 54] Y
 refine Qad (Qae (Qab (Qaa (Qag (Pq b5 0) (Qaa (Qen (α:=Bool × Nat) (vs:=[Pq b5 0,I6 32]) (V:=fun y=>.int .u64 ((y.2:Nat):Int)) (Rs:=[blk b5 [Pq p3 0,.bool xt1.1] 287,rR 281 p3 (rdN l 1)]) (Rs':=fun y=>[blk b5 [Pq p3 0,.bool y.1] 287,rR 281 p3 (rdN l 2)]) (Lo:=fun _=>[]) (F:=fun y _=>TkF l 1 32 xt1.1 y) Qgn rfl rfl Y [2,1] (by decide) rfl (fun _=>(rfl:2=2)) (fun S0 hS0 hl0=>Qdn _ S0 b5 p3 xt1.1 l 1 32 (by omega) hby (by omega) hS0 hl0) fun xt2 w11 Y hF2=>?_))))))
 replace Y:=Ow [blk b1 (oc (⟨(⟨0,0⟩:Dot),0,0,0,0,0,vzero⟩:Opn)) 54,rR 281 p3 (rdN l 2),blk b5 [Pq p3 0,.bool xt2.1] 287,blk b7 (oc (⟨(⟨((xt1.2%256:Nat):Int),0⟩:Dot),0,0,0,0,0,vzero⟩:Opn)) 54] Y
 refine Qaa (Qas (V:=.int .u32 (((xt2.2:Nat):Int)%4294967296)) (V':=.int .u32 ((xt2.2%4294967296:Nat):Int)) (QaB Qa6 Qdx rfl (QiM _) ⟨rfl,rfl⟩) (congrArg (Value.int .u32) (by omega)) (Qaa (Qac Qcq rfl (Qaa (Qac Qds rfl (Qaa (Qcl (V:=.int .u32 ((xt2.2%4294967296:Nat):Int)) (cs':=oc (⟨(⟨((xt1.2%256:Nat):Int),((xt2.2%4294967296:Nat):Int)⟩:Dot),0,0,0,0,0,vzero⟩:Opn)) Qbv Y 3 rfl rfl rfl rfl (QQ8 rfl) rfl fun w12 Y=>?_)))))))
 replace Y:=Ow [blk b1 (oc (⟨(⟨0,0⟩:Dot),0,0,0,0,0,vzero⟩:Opn)) 54,rR 281 p3 (rdN l 2),blk b5 [Pq p3 0,.bool xt2.1] 287,blk b7 (oc (⟨(⟨((xt1.2%256:Nat):Int),((xt2.2%4294967296:Nat):Int)⟩:Dot),0,0,0,0,0,vzero⟩:Opn)) 54] Y
 refine Qad (Qae (Qab (Qaa (Qag (Pq b5 0) (Qaa (Qen (α:=Bool × Nat) (vs:=[Pq b5 0,I6 8]) (V:=fun y=>.int .u64 ((y.2:Nat):Int)) (Rs:=[blk b5 [Pq p3 0,.bool xt2.1] 287,rR 281 p3 (rdN l 2)]) (Rs':=fun y=>[blk b5 [Pq p3 0,.bool y.1] 287,rR 281 p3 (rdN l 3)]) (Lo:=fun _=>[]) (F:=fun y _=>TkF l 2 8 xt2.1 y) Qgn rfl rfl Y [2,1] (by decide) rfl (fun _=>(rfl:2=2)) (fun S0 hS0 hl0=>Qdn _ S0 b5 p3 xt2.1 l 2 8 (by omega) hby (by omega) hS0 hl0) fun xt3 w13 Y hF3=>?_))))))
 replace Y:=Ow [blk b1 (oc (⟨(⟨0,0⟩:Dot),0,0,0,0,0,vzero⟩:Opn)) 54,rR 281 p3 (rdN l 3),blk b5 [Pq p3 0,.bool xt3.1] 287,blk b7 (oc (⟨(⟨((xt1.2%256:Nat):Int),((xt2.2%4294967296:Nat):Int)⟩:Dot),0,0,0,0,0,vzero⟩:Opn)) 54] Y
 refine Qaa (Qas (V:=.int .u8 (((xt3.2:Nat):Int)%256)) (V':=.int .u8 ((xt3.2%256:Nat):Int)) (QaB Qa6 Qfe rfl (QhY _) ⟨rfl,rfl⟩) (congrArg (Value.int .u8) (by omega)) (Qaa (Qac Qhc rfl (Qaa (Qcl (V:=.int .u8 ((xt3.2%256:Nat):Int)) (cs':=oc (⟨(⟨((xt1.2%256:Nat):Int),((xt2.2%4294967296:Nat):Int)⟩:Dot),((xt3.2%256:Nat):Int),0,0,0,0,vzero⟩:Opn)) QcG Y 3 rfl rfl rfl rfl (QQ8 rfl) rfl fun w14 Y=>?_)))))
 replace Y:=Ow [blk b1 (oc (⟨(⟨0,0⟩:Dot),0,0,0,0,0,vzero⟩:Opn)) 54,rR 281 p3 (rdN l 3),blk b5 [Pq p3 0,.bool xt3.1] 287,blk b7 (oc (⟨(⟨((xt1.2%256:Nat):Int),((xt2.2%4294967296:Nat):Int)⟩:Dot),((xt3.2%256:Nat):Int),0,0,0,0,vzero⟩:Opn)) 54] Y
 refine Qad (Qae (Qab (Qaa (Qag (Pq b5 0) (Qaa (Qen (α:=Bool × Nat) (vs:=[Pq b5 0,I6 16]) (V:=fun y=>.int .u64 ((y.2:Nat):Int)) (Rs:=[blk b5 [Pq p3 0,.bool xt3.1] 287,rR 281 p3 (rdN l 3)]) (Rs':=fun y=>[blk b5 [Pq p3 0,.bool y.1] 287,rR 281 p3 (rdN l 4)]) (Lo:=fun _=>[]) (F:=fun y _=>TkF l 3 16 xt3.1 y) Qgn rfl rfl Y [2,1] (by decide) rfl (fun _=>(rfl:2=2)) (fun S0 hS0 hl0=>Qdn _ S0 b5 p3 xt3.1 l 3 16 (by omega) hby (by omega) hS0 hl0) fun xt4 w15 Y hF4=>?_))))))
 replace Y:=Ow [blk b1 (oc (⟨(⟨0,0⟩:Dot),0,0,0,0,0,vzero⟩:Opn)) 54,rR 281 p3 (rdN l 4),blk b5 [Pq p3 0,.bool xt4.1] 287,blk b7 (oc (⟨(⟨((xt1.2%256:Nat):Int),((xt2.2%4294967296:Nat):Int)⟩:Dot),((xt3.2%256:Nat):Int),0,0,0,0,vzero⟩:Opn)) 54] Y
 refine Qaa (Qas (V:=I7 (((xt4.2:Nat):Int)%65536)) (V':=I7 ((xt4.2%65536:Nat):Int)) (QaB Qa6 QfP rfl (QhA _) ⟨rfl,rfl⟩) (congrArg (Value.int .u16) (by omega)) (Qaa (Qac Qkr rfl (Qaa (Qcl (V:=I7 ((xt4.2%65536:Nat):Int)) (cs':=oc (⟨(⟨((xt1.2%256:Nat):Int),((xt2.2%4294967296:Nat):Int)⟩:Dot),((xt3.2%256:Nat):Int),((xt4.2%65536:Nat):Int),0,0,0,vzero⟩:Opn)) Qc7 Y 3 rfl rfl rfl rfl (QQ8 rfl) rfl fun w16 Y=>?_)))))
 replace Y:=Ow [blk b1 (oc (⟨(⟨0,0⟩:Dot),0,0,0,0,0,vzero⟩:Opn)) 54,rR 281 p3 (rdN l 4),blk b5 [Pq p3 0,.bool xt4.1] 287,blk b7 (oc (⟨(⟨((xt1.2%256:Nat):Int),((xt2.2%4294967296:Nat):Int)⟩:Dot),((xt3.2%256:Nat):Int),((xt4.2%65536:Nat):Int),0,0,0,vzero⟩:Opn)) 54] Y
 refine Qad (Qae (Qab (Qaa (Qag (Pq b5 0) (Qaa (Qen (α:=Bool × Nat) (vs:=[Pq b5 0,I6 16]) (V:=fun y=>.int .u64 ((y.2:Nat):Int)) (Rs:=[blk b5 [Pq p3 0,.bool xt4.1] 287,rR 281 p3 (rdN l 4)]) (Rs':=fun y=>[blk b5 [Pq p3 0,.bool y.1] 287,rR 281 p3 (rdN l 5)]) (Lo:=fun _=>[]) (F:=fun y _=>TkF l 4 16 xt4.1 y) Qgn rfl rfl Y [2,1] (by decide) rfl (fun _=>(rfl:2=2)) (fun S0 hS0 hl0=>Qdn _ S0 b5 p3 xt4.1 l 4 16 (by omega) hby (by omega) hS0 hl0) fun xt5 w17 Y hF5=>?_))))))
 replace Y:=Ow [blk b1 (oc (⟨(⟨0,0⟩:Dot),0,0,0,0,0,vzero⟩:Opn)) 54,rR 281 p3 (rdN l 5),blk b5 [Pq p3 0,.bool xt5.1] 287,blk b7 (oc (⟨(⟨((xt1.2%256:Nat):Int),((xt2.2%4294967296:Nat):Int)⟩:Dot),((xt3.2%256:Nat):Int),((xt4.2%65536:Nat):Int),0,0,0,vzero⟩:Opn)) 54] Y
 refine Qaa (Qas (V:=I7 (((xt5.2:Nat):Int)%65536)) (V':=I7 ((xt5.2%65536:Nat):Int)) (QaB Qa6 QfP rfl (QhA _) ⟨rfl,rfl⟩) (congrArg (Value.int .u16) (by omega)) (Qaa (Qac Qes rfl (Qaa (Qcl (V:=I7 ((xt5.2%65536:Nat):Int)) (cs':=oc (⟨(⟨((xt1.2%256:Nat):Int),((xt2.2%4294967296:Nat):Int)⟩:Dot),((xt3.2%256:Nat):Int),((xt4.2%65536:Nat):Int),((xt5.2%65536:Nat):Int),0,0,vzero⟩:Opn)) Qc7 Y 3 rfl rfl rfl rfl (QQ8 rfl) rfl fun w18 Y=>?_)))))
 replace Y:=Ow [blk b1 (oc (⟨(⟨0,0⟩:Dot),0,0,0,0,0,vzero⟩:Opn)) 54,rR 281 p3 (rdN l 5),blk b5 [Pq p3 0,.bool xt5.1] 287,blk b7 (oc (⟨(⟨((xt1.2%256:Nat):Int),((xt2.2%4294967296:Nat):Int)⟩:Dot),((xt3.2%256:Nat):Int),((xt4.2%65536:Nat):Int),((xt5.2%65536:Nat):Int),0,0,vzero⟩:Opn)) 54] Y
 refine Qad (Qae (Qab (Qaa (Qag (Pq b5 0) (Qaa (Qen (α:=Bool × Nat) (vs:=[Pq b5 0,I6 16]) (V:=fun y=>.int .u64 ((y.2:Nat):Int)) (Rs:=[blk b5 [Pq p3 0,.bool xt5.1] 287,rR 281 p3 (rdN l 5)]) (Rs':=fun y=>[blk b5 [Pq p3 0,.bool y.1] 287,rR 281 p3 (rdN l 6)]) (Lo:=fun _=>[]) (F:=fun y _=>TkF l 5 16 xt5.1 y) Qgn rfl rfl Y [2,1] (by decide) rfl (fun _=>(rfl:2=2)) (fun S0 hS0 hl0=>Qdn _ S0 b5 p3 xt5.1 l 5 16 (by omega) hby (by omega) hS0 hl0) fun xt6 w19 Y hF6=>?_))))))
 replace Y:=Ow [blk b1 (oc (⟨(⟨0,0⟩:Dot),0,0,0,0,0,vzero⟩:Opn)) 54,rR 281 p3 (rdN l 6),blk b5 [Pq p3 0,.bool xt6.1] 287,blk b7 (oc (⟨(⟨((xt1.2%256:Nat):Int),((xt2.2%4294967296:Nat):Int)⟩:Dot),((xt3.2%256:Nat):Int),((xt4.2%65536:Nat):Int),((xt5.2%65536:Nat):Int),0,0,vzero⟩:Opn)) 54] Y
 refine Qaa (Qas (V:=I7 (((xt6.2:Nat):Int)%65536)) (V':=I7 ((xt6.2%65536:Nat):Int)) (QaB Qa6 QfP rfl (QhA _) ⟨rfl,rfl⟩) (congrArg (Value.int .u16) (by omega)) (Qaa (Qac QcO rfl (Qaa (Qcl (V:=I7 ((xt6.2%65536:Nat):Int)) (cs':=oc (⟨(⟨((xt1.2%256:Nat):Int),((xt2.2%4294967296:Nat):Int)⟩:Dot),((xt3.2%256:Nat):Int),((xt4.2%65536:Nat):Int),((xt5.2%65536:Nat):Int),((xt6.2%65536:Nat):Int),0,vzero⟩:Opn)) Qc7 Y 3 rfl rfl rfl rfl (QQ8 rfl) rfl fun w20 Y=>?_)))))
 replace Y:=Ow [blk b1 (oc (⟨(⟨0,0⟩:Dot),0,0,0,0,0,vzero⟩:Opn)) 54,rR 281 p3 (rdN l 6),blk b5 [Pq p3 0,.bool xt6.1] 287,blk b7 (oc (⟨(⟨((xt1.2%256:Nat):Int),((xt2.2%4294967296:Nat):Int)⟩:Dot),((xt3.2%256:Nat):Int),((xt4.2%65536:Nat):Int),((xt5.2%65536:Nat):Int),((xt6.2%65536:Nat):Int),0,vzero⟩:Opn)) 54] Y
 refine Qad (Qae (Qab (Qaa (Qag (Pq b5 0) (Qaa (Qen (α:=Bool × Nat) (vs:=[Pq b5 0,I6 32]) (V:=fun y=>.int .u64 ((y.2:Nat):Int)) (Rs:=[blk b5 [Pq p3 0,.bool xt6.1] 287,rR 281 p3 (rdN l 6)]) (Rs':=fun y=>[blk b5 [Pq p3 0,.bool y.1] 287,rR 281 p3 (rdN l 7)]) (Lo:=fun _=>[]) (F:=fun y _=>TkF l 6 32 xt6.1 y) Qgn rfl rfl Y [2,1] (by decide) rfl (fun _=>(rfl:2=2)) (fun S0 hS0 hl0=>Qdn _ S0 b5 p3 xt6.1 l 6 32 (by omega) hby (by omega) hS0 hl0) fun xt7 w21 Y hF7=>?_))))))
 replace Y:=Ow [blk b1 (oc (⟨(⟨0,0⟩:Dot),0,0,0,0,0,vzero⟩:Opn)) 54,rR 281 p3 (rdN l 7),blk b5 [Pq p3 0,.bool xt7.1] 287,blk b7 (oc (⟨(⟨((xt1.2%256:Nat):Int),((xt2.2%4294967296:Nat):Int)⟩:Dot),((xt3.2%256:Nat):Int),((xt4.2%65536:Nat):Int),((xt5.2%65536:Nat):Int),((xt6.2%65536:Nat):Int),0,vzero⟩:Opn)) 54] Y
 refine Qaa (Qas (V:=.int .u32 (((xt7.2:Nat):Int)%4294967296)) (V':=.int .u32 ((xt7.2%4294967296:Nat):Int)) (QaB Qa6 Qdx rfl (QiM _) ⟨rfl,rfl⟩) (congrArg (Value.int .u32) (by omega)) (Qaa (Qac QgF rfl (Qaa (Qcl (V:=.int .u32 ((xt7.2%4294967296:Nat):Int)) (cs':=oc (⟨(⟨((xt1.2%256:Nat):Int),((xt2.2%4294967296:Nat):Int)⟩:Dot),((xt3.2%256:Nat):Int),((xt4.2%65536:Nat):Int),((xt5.2%65536:Nat):Int),((xt6.2%65536:Nat):Int),((xt7.2%4294967296:Nat):Int),vzero⟩:Opn)) Qbv Y 3 rfl rfl rfl rfl (QQ8 rfl) rfl fun w22 Y=>?_)))))
 replace Y:=Ow [blk b1 (oc (⟨(⟨0,0⟩:Dot),0,0,0,0,0,vzero⟩:Opn)) 54,rR 281 p3 (rdN l 7),blk b5 [Pq p3 0,.bool xt7.1] 287,blk b7 (oc (⟨(⟨((xt1.2%256:Nat):Int),((xt2.2%4294967296:Nat):Int)⟩:Dot),((xt3.2%256:Nat):Int),((xt4.2%65536:Nat):Int),((xt5.2%65536:Nat):Int),((xt6.2%65536:Nat):Int),((xt7.2%4294967296:Nat):Int),vzero⟩:Opn)) 54] Y
 refine Qad ?_
 have hbf:=QrL hF1.b hF2.b hF3.b hF4.b hF5.b hF6.b hF7.b
 obtain ⟨r7,hr7⟩:∃ r,Qwm r l:=⟨rdN l 7,rfl⟩
 rw [← show r7=rdN l 7 from hr7] at Y
 obtain ⟨hr7b,hr7l⟩:=QvP hr7 hby hl
 refine Qae (Qab (Qaa (Qag (Pq b5 0) (Qaa (QaA rfl (Qaa (Qac Qim rfl (Qaa (QaY (Pq p3 0) QoG Y 2 (Qaa (Qa7 (vs:=[Pq p3 0]) (V:=fun x:Option Addr × Nat=>.tuple #[.slice x.1 ((QaT r7).1).length x.2,I6 (((QaT r7).2.1:Nat):Int)]) (R:=rR 281 p3 r7) (R':=fun _=>rR 281 p3 ((QaT r7).2.2)) (Lo:=fun x=>[row (.slice x.1 ((QaT r7).1).length x.2) (((QaT r7).1).map (ic .u8)) 5 1]) (F:=fun _ _=>True) Qpf rfl rfl Y 1 rfl (fun S0 hS0 hl0=>Qje _ S0 p3 r7 hr7b (by omega) hS0 hl0) fun x23 w24 Y _=>?_)))))))))))
 replace Y:=Ow [blk b1 (oc (⟨(⟨0,0⟩:Dot),0,0,0,0,0,vzero⟩:Opn)) 54,rR 281 p3 ((QaT r7).2.2),blk b5 [Pq p3 0,.bool xt7.1] 287,blk b7 (oc (⟨(⟨((xt1.2%256:Nat):Int),((xt2.2%4294967296:Nat):Int)⟩:Dot),((xt3.2%256:Nat):Int),((xt4.2%65536:Nat):Int),((xt5.2%65536:Nat):Int),((xt6.2%65536:Nat):Int),((xt7.2%4294967296:Nat):Int),vzero⟩:Opn)) 54,row (.slice x23.1 ((QaT r7).1.length) x23.2) (((QaT r7).1).map (ic .u8)) 5 1] Y
 refine Qaa (Qag (.tuple #[.slice x23.1 ((QaT r7).1.length) x23.2,I6 (((QaT r7).2.1:Nat):Int)]) (Qaa (Qaf (V:=.slice x23.1 ((QaT r7).1.length) x23.2) rfl rfl (Qaa (Qaf (V:=I6 (((QaT r7).2.1:Nat):Int)) rfl rfl (Qaa (Qak (.slice x23.1 ((QaT r7).1.length) x23.2) (Qaa (Qak (I6 (((QaT r7).2.1:Nat):Int)) (Qad (Qae (Qae (Qa2 (so 50 16) [] [0,1,3,7,15,31,63,127,255,511,1023,2047,4095,8191,16383,32767] [pv (I6 (((QaT r7).2.1:Nat):Int)),pv (.bool (!decide ((((QaT r7).2.1:Nat):Int)=0))),pv (.bool (!decide ((((QaT r7).2.1:Nat):Int)=0))),pg ((!decide ((((QaT r7).2.1:Nat):Int)=0)) == false) (Pq b5 0),pg ((!decide ((((QaT r7).2.1:Nat):Int)=0)) == false) (Pq b5 0),pg ((!decide ((((QaT r7).2.1:Nat):Int)=0)) == false) (Pq b5 (0+1)),pg ((!decide ((((QaT r7).2.1:Nat):Int)=0)) == false) (.bool xt7.1),pv (.bool ((!decide ((((QaT r7).2.1:Nat):Int)=0))||xt7.1)),pv (.bool ((!decide ((((QaT r7).2.1:Nat):Int)=0))||xt7.1)),pg (((!decide ((((QaT r7).2.1:Nat):Int)=0))||xt7.1) == false) (Pq b5 0),pg (((!decide ((((QaT r7).2.1:Nat):Int)=0))||xt7.1) == false) (Pq b5 0),pg (((!decide ((((QaT r7).2.1:Nat):Int)=0))||xt7.1) == false) (Pq b5 (0+0)),pg (((!decide ((((QaT r7).2.1:Nat):Int)=0))||xt7.1) == false) (Pq p3 0),pg (((!decide ((((QaT r7).2.1:Nat):Int)=0))||xt7.1) == false) (.bool (QaU ((QaT r7).2.2))),pg (((!decide ((((QaT r7).2.1:Nat):Int)=0))||xt7.1) == false) (.bool (!(QaU ((QaT r7).2.2)))),pv (.bool (((!decide ((((QaT r7).2.1:Nat):Int)=0))||xt7.1)||(!(QaU ((QaT r7).2.2)))))] (fun _ _=>_) [15] (by kernel_rfl) Y ⟨?_,?_,?_,?_,?_,?_,?_,?_,?_,?_,?_,?_,?_,?_,?_,?_,trivial⟩ ?_)))))))))))))
 ·exact oi [] fun Y=>Qag (.int .i64 (((QaT r7).2.1:Nat):Int)) (Zz Y)
 ·exact oi [0] fun Y=>QbM rfl rfl (Zz Y)
 ·exact oi [1] fun Y=>Qag (.bool (!decide ((((QaT r7).2.1:Nat):Int)=0))) (Zz Y)
 ·exact ogi [2] fun hG Y=>Qag (.pointer (some ⟨b5,0,none⟩)) (Zz Y)
 ·exact oyi [2,3] [3] fun hG Y=>QaA rfl (Zz Y)
 ·exact oyi [2,4] [4] fun hG Y=>Qac QkI rfl (Zz Y)
 ·exact oyi [2,5] [5] fun hG Y=>QaY (.bool xt7.1) Qtc Y 2 (Zz Y)
 ·exact oi [2,6] fun Y=>QbL (h':=xt7.1) rfl rfl rfl (Zz Y)
 ·exact oi [7] fun Y=>Qag (.bool ((!decide ((((QaT r7).2.1:Nat):Int)=0))||xt7.1)) (Zz Y)
 ·exact ogi [8] fun hG Y=>Qag (.pointer (some ⟨b5,0,none⟩)) (Zz Y)
 ·exact oyi [8,9] [9] fun hG Y=>QaA rfl (Zz Y)
 ·exact oyi [8,10] [10] fun hG Y=>Qac Qim rfl (Zz Y)
 ·exact oyi [8,11] [11] fun hG Y=>QaY (.pointer (some ⟨p3,0,none⟩)) QoG Y 2 (Zz Y)
 ·exact oyi [8,12] [12] fun hG Y=>QgB (vs:=[.pointer (some ⟨p3,0,none⟩)]) (V:=.bool (QaU ((QaT r7).2.2))) (R:=rR 281 p3 ((QaT r7).2.2)) Qot rfl rfl Y 1 rfl (fun S0 hS0 hl0=>QeG _ S0 p3 ((QaT r7).2.2) hS0 hl0) fun _ Y=>Zz Y
 ·exact oyi [8,13] [13] fun hG Y=>Qb6 rfl (Zz Y)
 ·exact oi [8,14] fun Y=>QbL (h':=!(QaU ((QaT r7).2.2))) rfl rfl rfl (Zz Y)
 rintro J1 w26 J2 hJ Y
 replace hJ:J2=upd (mix (sq 50 16) J1 _) 65 (.bool (((!decide ((((QaT r7).2.1:Nat):Int)=0))||xt7.1)||(!(QaU ((QaT r7).2.2))))):=hJ
 subst hJ
 refine Qaq (t:=((!decide ((((QaT r7).2.1:Nat):Int)=0))||xt7.1)||(!(QaU ((QaT r7).2.2)))) rfl (fun c27=>?_) (fun c27=>?_)
 ·
  refine Qae ?_
  have hno:Qef l Qhg 5:=QgR fun u hu=>by
   obtain ⟨q1,q2,q3⟩:=Qrf hr7 hu
   have hb7:=hbf.2 q1 q3
   have hd9:QaU (QaT r7).2.2=true:=by rw [q2];rfl
   have he9:(QaT r7).2.1=0:=by rw [q2]
   have h9:=c27
   rw [hb7,hd9,he9] at h9
   simp at h9
  refine Qab (Qaa (Qbi (vs:=[]) (cs:=oc (⟨(⟨0,0⟩:Dot),0,0,0,0,0,vzero⟩:Opn)) [dc (⟨0,0⟩:Dot),[(.int .u8 0:Value)],[(I7 0:Value)],[(I7 0:Value)],[(I7 0:Value)],[(.int .u32 0:Value)],vc vzero] [dc (⟨0,0⟩:Dot),[(.int .u8 0:Value)],[(I7 0:Value)],[(I7 0:Value)],[(I7 0:Value)],[(.int .u32 0:Value)],vc vzero] Qkb rfl (rfl) rfl rfl (Qaa (QbN (V:=.agg (oc (⟨(⟨0,0⟩:Dot),0,0,0,0,0,vzero⟩:Opn)).toArray) (vs:=oc (⟨(⟨0,0⟩:Dot),0,0,0,0,0,vzero⟩:Opn)) (cs':=oc (⟨(⟨0,0⟩:Dot),0,0,0,0,0,vzero⟩:Opn)) Qbp.1 Y 0 rfl rfl rfl rfl rfl (QQ8 rfl) (QcB _) (Qao rfl) fun w28 Y=>?_))))
  replace Y:=Ow [blk b1 (oc (⟨(⟨0,0⟩:Dot),0,0,0,0,0,vzero⟩:Opn)) 54,rR 281 p3 ((QaT r7).2.2),blk b5 [Pq p3 0,.bool xt7.1] 287,blk b7 (oc (⟨(⟨((xt1.2%256:Nat):Int),((xt2.2%4294967296:Nat):Int)⟩:Dot),((xt3.2%256:Nat):Int),((xt4.2%65536:Nat):Int),((xt5.2%65536:Nat):Int),((xt6.2%65536:Nat):Int),((xt7.2%4294967296:Nat):Int),vzero⟩:Opn)) 54,row (.slice x23.1 ((QaT r7).1.length) x23.2) (((QaT r7).1).map (ic .u8)) 5 1] Y
  refine Qaa (Qak (I6 5) (Qad (Qat ?_)))
  refine ⟨_,QaD (cs:=oc (⟨(⟨0,0⟩:Dot),0,0,0,0,0,vzero⟩:Opn)) (V:=I6 5) results82 Qbp Y 0 rfl rfl rfl rfl,?_⟩
  exact ⟨(Qhg,5),rfl,Y.take 0,hno⟩
 have c27r:=QdH c27
 replace c27:=QdJ c27
 have c27rr:=QdH c27
 replace c27:=QdJ c27
 replace c27:=Qa3 c27
 replace c27:=QQ1 c27
 replace c27r:=Qa3 c27r
 refine Qar (Qae ?_)
 have hbe:=Qqm (r:=r7)
 have hbb:=Qcg (r:=r7) hr7b
 have hbl:=QlP (r:=r7)
 have hd9:(QaT r7).2.2.e=0/\(QaT r7).2.2.l=[]:=Qdb.1 c27r
 have hfit:FitO l:=hbf.1 c27rr
 refine Qab (Qaa (Qag (.slice x23.1 ((QaT r7).1.length) x23.2) (Qaa (Qax (vs:=[.slice x23.1 ((QaT r7).1.length) x23.2]) (V:=fun x:Vec × Nat=>.tuple #[.agg (vc x.1).toArray,I6 ((x.2:Nat):Int)]) Qut rfl rfl (Qna _ x23.1 x23.2 ((QaT r7).1) hbb.2 (by omega) (Y.rd 4 rfl)) Y fun x29 w30 Y hd31=>?_))))
 replace Y:=Ow [blk b1 (oc (⟨(⟨0,0⟩:Dot),0,0,0,0,0,vzero⟩:Opn)) 54,rR 281 p3 ((QaT r7).2.2),blk b5 [Pq p3 0,.bool xt7.1] 287,blk b7 (oc (⟨(⟨((xt1.2%256:Nat):Int),((xt2.2%4294967296:Nat):Int)⟩:Dot),((xt3.2%256:Nat):Int),((xt4.2%65536:Nat):Int),((xt5.2%65536:Nat):Int),((xt6.2%65536:Nat):Int),((xt7.2%4294967296:Nat):Int),vzero⟩:Opn)) 54,row (.slice x23.1 ((QaT r7).1.length) x23.2) (((QaT r7).1).map (ic .u8)) 5 1] Y
 refine Qaa (Qag (.tuple #[.agg (vc x29.1).toArray,I6 ((x29.2:Nat):Int)]) (Qaa (Qaf (V:=.agg (vc x29.1).toArray) rfl rfl (Qaa (Qaf (V:=I6 ((x29.2:Nat):Int)) rfl rfl (Qaa (Qac Qeo rfl (Qaa (QbN (V:=.agg (vc x29.1).toArray) (vs:=vc x29.1) (cs':=oc (⟨(⟨((xt1.2%256:Nat):Int),((xt2.2%4294967296:Nat):Int)⟩:Dot),((xt3.2%256:Nat):Int),((xt4.2%65536:Nat):Int),((xt5.2%65536:Nat):Int),((xt6.2%65536:Nat):Int),((xt7.2%4294967296:Nat):Int),x29.1⟩:Opn)) QbC.1 Y 3 rfl rfl rfl rfl rfl (QQ8 rfl) (QdC _) rfl fun w32 Y=>?_)))))))))
 replace Y:=Ow [blk b1 (oc (⟨(⟨0,0⟩:Dot),0,0,0,0,0,vzero⟩:Opn)) 54,rR 281 p3 ((QaT r7).2.2),blk b5 [Pq p3 0,.bool xt7.1] 287,blk b7 (oc (⟨(⟨((xt1.2%256:Nat):Int),((xt2.2%4294967296:Nat):Int)⟩:Dot),((xt3.2%256:Nat):Int),((xt4.2%65536:Nat):Int),((xt5.2%65536:Nat):Int),((xt6.2%65536:Nat):Int),((xt7.2%4294967296:Nat):Int),x29.1⟩:Opn)) 54,row (.slice x23.1 ((QaT r7).1.length) x23.2) (((QaT r7).1).map (ic .u8)) 5 1] Y
 refine Qaa (Qak (I6 ((x29.2:Nat):Int)) (Qad ?_))
 have hdv9:=hd31
 have hoT:(⟨(⟨((xt1.2%256:Nat):Int),((xt2.2%4294967296:Nat):Int)⟩:Dot),((xt3.2%256:Nat):Int),((xt4.2%65536:Nat):Int),((xt5.2%65536:Nat):Int),((xt6.2%65536:Nat):Int),((xt7.2%4294967296:Nat):Int),x29.1⟩:Opn)=opT l x29.1:=by unfold opT;rw [hF1.n,hF2.n,hF3.n,hF4.n,hF5.n,hF6.n,hF7.n]
 refine Qae (Qae (Qa2 (so 73 7) [] [0,1,3,7,15,31,63] [pv (I6 ((x29.2:Nat):Int)),pv (.bool (!decide (((x29.2:Nat):Int)=0))),pv (.bool (!decide (((x29.2:Nat):Int)=0))),pg ((!decide (((x29.2:Nat):Int)=0)) == false) (.agg (oc (⟨(⟨((xt1.2%256:Nat):Int),((xt2.2%4294967296:Nat):Int)⟩:Dot),((xt3.2%256:Nat):Int),((xt4.2%65536:Nat):Int),((xt5.2%65536:Nat):Int),((xt6.2%65536:Nat):Int),((xt7.2%4294967296:Nat):Int),x29.1⟩:Opn)).toArray),pg ((!decide (((x29.2:Nat):Int)=0)) == false) (.bool (QaC (⟨(⟨((xt1.2%256:Nat):Int),((xt2.2%4294967296:Nat):Int)⟩:Dot),((xt3.2%256:Nat):Int),((xt4.2%65536:Nat):Int),((xt5.2%65536:Nat):Int),((xt6.2%65536:Nat):Int),((xt7.2%4294967296:Nat):Int),x29.1⟩:Opn) 16)),pg ((!decide (((x29.2:Nat):Int)=0)) == false) (.bool (!(QaC (⟨(⟨((xt1.2%256:Nat):Int),((xt2.2%4294967296:Nat):Int)⟩:Dot),((xt3.2%256:Nat):Int),((xt4.2%65536:Nat):Int),((xt5.2%65536:Nat):Int),((xt6.2%65536:Nat):Int),((xt7.2%4294967296:Nat):Int),x29.1⟩:Opn) 16))),pv (.bool ((!decide (((x29.2:Nat):Int)=0))||(!(QaC (⟨(⟨((xt1.2%256:Nat):Int),((xt2.2%4294967296:Nat):Int)⟩:Dot),((xt3.2%256:Nat):Int),((xt4.2%65536:Nat):Int),((xt5.2%65536:Nat):Int),((xt6.2%65536:Nat):Int),((xt7.2%4294967296:Nat):Int),x29.1⟩:Opn) 16))))] (fun _ _=>_) [6] (by kernel_rfl) Y ⟨?_,?_,?_,?_,?_,?_,?_,trivial⟩ ?_))
 ·exact oi [] fun Y=>Qag (.int .i64 ((x29.2:Nat):Int)) (Zz Y)
 ·exact oi [0] fun Y=>QbM rfl rfl (Zz Y)
 ·exact oi [1] fun Y=>Qag (.bool (!decide (((x29.2:Nat):Int)=0))) (Zz Y)
 ·exact ogi [2] fun hG Y=>Qa1 (cs:=oc (⟨(⟨((xt1.2%256:Nat):Int),((xt2.2%4294967296:Nat):Int)⟩:Dot),((xt3.2%256:Nat):Int),((xt4.2%65536:Nat):Int),((xt5.2%65536:Nat):Int),((xt6.2%65536:Nat):Int),((xt7.2%4294967296:Nat):Int),x29.1⟩:Opn)) Qbp Y 3 rfl rfl rfl (Zz Y)
 ·exact oyi [2,3] [3] fun hG Y=>QaH (vs:=[.agg (oc (⟨(⟨((xt1.2%256:Nat):Int),((xt2.2%4294967296:Nat):Int)⟩:Dot),((xt3.2%256:Nat):Int),((xt4.2%65536:Nat):Int),((xt5.2%65536:Nat):Int),((xt6.2%65536:Nat):Int),((xt7.2%4294967296:Nat):Int),x29.1⟩:Opn)).toArray,.int .i64 16]) (V:=.bool (QaC (⟨(⟨((xt1.2%256:Nat):Int),((xt2.2%4294967296:Nat):Int)⟩:Dot),((xt3.2%256:Nat):Int),((xt4.2%65536:Nat):Int),((xt5.2%65536:Nat):Int),((xt6.2%65536:Nat):Int),((xt7.2%4294967296:Nat):Int),x29.1⟩:Opn) 16)) QsF rfl rfl (Qgy _ (⟨(⟨((xt1.2%256:Nat):Int),((xt2.2%4294967296:Nat):Int)⟩:Dot),((xt3.2%256:Nat):Int),((xt4.2%65536:Nat):Int),((xt5.2%65536:Nat):Int),((xt6.2%65536:Nat):Int),((xt7.2%4294967296:Nat):Int),x29.1⟩:Opn) 16 (by rw [hoT];exact Qjc l (QcA.vok hdv9))) Y fun _ Y=>Zz Y
 ·exact oyi [2,4] [4] fun hG Y=>Qb6 rfl (Zz Y)
 ·exact oi [2,5] fun Y=>QbL (h':=!(QaC (⟨(⟨((xt1.2%256:Nat):Int),((xt2.2%4294967296:Nat):Int)⟩:Dot),((xt3.2%256:Nat):Int),((xt4.2%65536:Nat):Int),((xt5.2%65536:Nat):Int),((xt6.2%65536:Nat):Int),((xt7.2%4294967296:Nat):Int),x29.1⟩:Opn) 16)) rfl rfl rfl (Zz Y)
 rintro J1 w34 J2 hJ Y
 replace hJ:J2=upd (mix (sq 73 7) J1 _) 79 (.bool ((!decide (((x29.2:Nat):Int)=0))||(!(QaC (⟨(⟨((xt1.2%256:Nat):Int),((xt2.2%4294967296:Nat):Int)⟩:Dot),((xt3.2%256:Nat):Int),((xt4.2%65536:Nat):Int),((xt5.2%65536:Nat):Int),((xt6.2%65536:Nat):Int),((xt7.2%4294967296:Nat):Int),x29.1⟩:Opn) 16)))):=hJ
 subst hJ
 refine Qaq (t:=(!decide (((x29.2:Nat):Int)=0))||(!(QaC (⟨(⟨((xt1.2%256:Nat):Int),((xt2.2%4294967296:Nat):Int)⟩:Dot),((xt3.2%256:Nat):Int),((xt4.2%65536:Nat):Int),((xt5.2%65536:Nat):Int),((xt6.2%65536:Nat):Int),((xt7.2%4294967296:Nat):Int),x29.1⟩:Opn) 16))) rfl (fun c35=>?_) (fun c35=>?_)
 ·
  refine Qae ?_
  have hno:Qef l Qhg 5:=(QmZ hr7 hby hd9.1 hd9.2 hfit hd31).2 (by
    rintro ⟨h1,h2⟩
    have h9:=c35
    rw [hoT] at h9
    rw [← Qi5 hfit] at h2
    have h3:QaC (opT l x29.1) 16=true:=h2
    simp only [Bool.or_eq_true,Bool.not_eq_true',decide_eq_true_eq,decide_eq_false_iff_not] at h9
    rcases h9 with h9|h9
    ·omega
    ·exact absurd h3 (by rw [show QaC (opT l x29.1) 16=false from h9];decide))
  refine Qab (Qaa (Qbi (vs:=[]) (cs:=oc (⟨(⟨0,0⟩:Dot),0,0,0,0,0,vzero⟩:Opn)) [dc (⟨0,0⟩:Dot),[(.int .u8 0:Value)],[(I7 0:Value)],[(I7 0:Value)],[(I7 0:Value)],[(.int .u32 0:Value)],vc vzero] [dc (⟨0,0⟩:Dot),[(.int .u8 0:Value)],[(I7 0:Value)],[(I7 0:Value)],[(I7 0:Value)],[(.int .u32 0:Value)],vc vzero] Qkb rfl (rfl) rfl rfl (Qaa (QbN (V:=.agg (oc (⟨(⟨0,0⟩:Dot),0,0,0,0,0,vzero⟩:Opn)).toArray) (vs:=oc (⟨(⟨0,0⟩:Dot),0,0,0,0,0,vzero⟩:Opn)) (cs':=oc (⟨(⟨0,0⟩:Dot),0,0,0,0,0,vzero⟩:Opn)) Qbp.1 Y 0 rfl rfl rfl rfl rfl (QQ8 rfl) (QcB _) (Qao rfl) fun w36 Y=>?_))))
  replace Y:=Ow [blk b1 (oc (⟨(⟨0,0⟩:Dot),0,0,0,0,0,vzero⟩:Opn)) 54,rR 281 p3 ((QaT r7).2.2),blk b5 [Pq p3 0,.bool xt7.1] 287,blk b7 (oc (⟨(⟨((xt1.2%256:Nat):Int),((xt2.2%4294967296:Nat):Int)⟩:Dot),((xt3.2%256:Nat):Int),((xt4.2%65536:Nat):Int),((xt5.2%65536:Nat):Int),((xt6.2%65536:Nat):Int),((xt7.2%4294967296:Nat):Int),x29.1⟩:Opn)) 54,row (.slice x23.1 ((QaT r7).1.length) x23.2) (((QaT r7).1).map (ic .u8)) 5 1] Y
  refine Qaa (Qak (I6 5) (Qad (Qat ?_)))
  refine ⟨_,QaD (cs:=oc (⟨(⟨0,0⟩:Dot),0,0,0,0,0,vzero⟩:Opn)) (V:=I6 5) results82 Qbp Y 0 rfl rfl rfl rfl,?_⟩
  exact ⟨(Qhg,5),rfl,Y.take 0,hno⟩
 have c35r:=QdH c35
 replace c35:=QdJ c35
 replace c35:=Qa3 c35
 replace c35:=QQ1 c35
 replace c35r:=Qa3 c35r
 refine Qar (Qae ?_)
 have hyes:Qef l (opD l x29.1) 0:=(QmZ hr7 hby hd9.1 hd9.2 hfit hd31).1 ⟨by omega,by rw [← Qi5 hfit,← hoT];exact c35r⟩
 refine Qab (Qaa (Qa1 (cs:=oc (⟨(⟨((xt1.2%256:Nat):Int),((xt2.2%4294967296:Nat):Int)⟩:Dot),((xt3.2%256:Nat):Int),((xt4.2%65536:Nat):Int),((xt5.2%65536:Nat):Int),((xt6.2%65536:Nat):Int),((xt7.2%4294967296:Nat):Int),x29.1⟩:Opn)) Qbp Y 3 rfl rfl rfl (Qaa (QbN (V:=.agg (oc (⟨(⟨((xt1.2%256:Nat):Int),((xt2.2%4294967296:Nat):Int)⟩:Dot),((xt3.2%256:Nat):Int),((xt4.2%65536:Nat):Int),((xt5.2%65536:Nat):Int),((xt6.2%65536:Nat):Int),((xt7.2%4294967296:Nat):Int),x29.1⟩:Opn)).toArray) (vs:=oc (⟨(⟨((xt1.2%256:Nat):Int),((xt2.2%4294967296:Nat):Int)⟩:Dot),((xt3.2%256:Nat):Int),((xt4.2%65536:Nat):Int),((xt5.2%65536:Nat):Int),((xt6.2%65536:Nat):Int),((xt7.2%4294967296:Nat):Int),x29.1⟩:Opn)) (cs':=oc (⟨(⟨((xt1.2%256:Nat):Int),((xt2.2%4294967296:Nat):Int)⟩:Dot),((xt3.2%256:Nat):Int),((xt4.2%65536:Nat):Int),((xt5.2%65536:Nat):Int),((xt6.2%65536:Nat):Int),((xt7.2%4294967296:Nat):Int),x29.1⟩:Opn)) Qbp.1 Y 0 rfl rfl rfl rfl rfl (QQ8 rfl) (QcB _) (Qao rfl) fun w37 Y=>?_))))
 replace Y:=Ow [blk b1 (oc (⟨(⟨((xt1.2%256:Nat):Int),((xt2.2%4294967296:Nat):Int)⟩:Dot),((xt3.2%256:Nat):Int),((xt4.2%65536:Nat):Int),((xt5.2%65536:Nat):Int),((xt6.2%65536:Nat):Int),((xt7.2%4294967296:Nat):Int),x29.1⟩:Opn)) 54,rR 281 p3 ((QaT r7).2.2),blk b5 [Pq p3 0,.bool xt7.1] 287,blk b7 (oc (⟨(⟨((xt1.2%256:Nat):Int),((xt2.2%4294967296:Nat):Int)⟩:Dot),((xt3.2%256:Nat):Int),((xt4.2%65536:Nat):Int),((xt5.2%65536:Nat):Int),((xt6.2%65536:Nat):Int),((xt7.2%4294967296:Nat):Int),x29.1⟩:Opn)) 54,row (.slice x23.1 ((QaT r7).1.length) x23.2) (((QaT r7).1).map (ic .u8)) 5 1] Y
 refine Qaa (Qak (I6 0) (Qad (Qat ?_)))
 refine ⟨_,QaD (cs:=oc (⟨(⟨((xt1.2%256:Nat):Int),((xt2.2%4294967296:Nat):Int)⟩:Dot),((xt3.2%256:Nat):Int),((xt4.2%65536:Nat):Int),((xt5.2%65536:Nat):Int),((xt6.2%65536:Nat):Int),((xt7.2%4294967296:Nat):Int),x29.1⟩:Opn)) (V:=I6 0) results82 Qbp Y 0 rfl rfl rfl rfl,?_⟩
 exact ⟨(opD l x29.1,0),by rw [← Qi5 hfit,← hoT]<;>rfl,Y.take 0,hyes⟩
end Tt
end Go.Proofs
namespace Go.Proofs
open Go Go.Vx Go.RowKit
open Tryz
namespace Tt
theorem Qsa (w:World) (a:Option Addr) (c:Nat) (l:List Int) (hby:QaZ l) (hl:l.length<=1000000) (hr:Rd w (.slice a l.length c) 1 (l.map (ic .u8))) (hG:Qa8 w 0 (vc Qeh)):Calls prog 77 #[.slice a l.length c] w (fun e w'=>∃ y:(Option Addr × Nat) × Bs × Nat × Nat,e = .returned (.tuple #[.slice y.1.1 y.2.1.length y.1.2,.int .i64 ((y.2.2.1:Nat):Int),.int .i64 ((y.2.2.2:Nat):Int)])/\Own w no w' [row (.slice y.1.1 y.2.1.length y.1.2) (y.2.1.map (ic .u8)) 5 1]/\(FiF l y.2.1 y.2.2.1 y.2.2.2/\QaZ y.2.1/\y.2.1.length<=l.length)) :=
 (Qea w a c l hby hl hr hG).mono fun e w' ⟨x,h1,h2,_⟩=>⟨(x,QaP l),h1,h2,rfl,QgC hby⟩
theorem Qha (w:World) (S:Nat->Prop) (p:Nat) (r:Rdr) (hby:QaZ r.l) (hl:r.l.length<=1000000) (hR:(rR 281 p r).holds w S) (hlt:∀ x,S x->x<w.heap.size):Calls prog 79 #[.pointer (some ⟨p,0,none⟩)] w (fun z w'=>∃ y:Nat × Rdr,z = .returned (.int .i64 ((y.1:Nat):Int))/\Own w S w' [rR 281 p y.2]/\(SmF r y.1 y.2/\y.1<=100/\QaZ y.2.l/\y.2.l.length<=r.l.length)) :=
 (Qpr w S p r hby hl hR hlt).mono fun e w' ⟨_,h1,h2,_⟩=>⟨(min (Qaj r).1 100,(Qaj r).2.2),h1,h2,⟨rfl,rfl⟩,by simp only;omega,Qbu hby,Qh4⟩
theorem Qkd (w:World) (S:Nat->Prop) (p:Nat) (r:Rdr) (hby:QaZ r.l) (hl:r.l.length<=1000000) (hR:(rR 281 p r).holds w S) (hlt:∀ x,S x->x<w.heap.size):Calls prog 80 #[.pointer (some ⟨p,0,none⟩)] w (fun z w'=>∃ y:(Option Addr × Nat) × Bs × Nat × Rdr,z = .returned (.tuple #[.slice y.1.1 y.2.1.length y.1.2,.int .i64 ((y.2.2.1:Nat):Int)])/\Own w S w' [rR 281 p y.2.2.2,row (.slice y.1.1 y.2.1.length y.1.2) (y.2.1.map (ic .u8)) 5 1]/\(ByF r y.2.1 y.2.2.1 y.2.2.2/\QaZ y.2.1/\QaZ y.2.2.2.l/\y.2.1.length<=r.l.length/\y.2.2.2.l.length<=r.l.length)) :=
 (Qje w S p r hby hl hR hlt).mono fun e w' ⟨x,h1,h2,_⟩=>⟨(x,(QaT r).1,(QaT r).2.1,(QaT r).2.2),h1,h2,⟨rfl,rfl,rfl⟩,(Qcg hby).2,(Qcg hby).1,QeI.2,QeI.1⟩
theorem Qll {l f:Bs} {j e:Nat} (h:FiF l f j e) (he:e≠0):QcT l mscz e:=by
 have h1:(QaP l).2.2=e:=by rw [show QaP l=(f,j,e) from h]
 have h2:=QcT.first (b:=l) (by rw [h1];exact he)
 rw [h1] at h2
 exact h2
theorem QlS {x0 x1:Nat} {v:Vec} {Q:List Opn} {i t:Int} {b:Bs} (h0:x0<=100) (h1:x1<=100) (hv:Qbw v) (hq:∀ o∈Q,QbK o) (hi:I64 i) (ht:I64 t) (hb:QaZ b):MscOk ⟨(x0:Int),(x1:Int),v,Q,i,t,b⟩ :=
 ⟨⟨by show (-9223372036854775808:Int)<=(x0:Int);omega,by show (x0:Int)<9223372036854775808;omega⟩,⟨by show (0:Int)<=(x1:Int);omega,by show (x1:Int)<256;omega⟩,hv,hq,hi,ht,hb⟩
theorem Qil {n:Nat} (h:n<=100):I64 (n:Int):=by unfold I64;omega
theorem QsX (w:World) (a:Option Addr) (c:Nat) (l:Bs) (hby:QaZ l) (hl:l.length<=100000) (hr:Rd w (.slice a l.length c) 1 (l.map (ic .u8))) (hG:Qa8 w 0 (vc Qeh)):Calls prog 26 #[.slice a l.length c] w (fun e w'=>∃ y:Msv × Nat,e = .returned (.tuple #[.agg (msv y.1).toArray,.int .i64 ((y.2:Nat):Int)])/\Own w no w' [row (.slice y.1.a y.1.c.ops.length y.1.n) (y.1.c.ops.map oc) 54 23,row (.slice y.1.a2 y.1.c.b.length y.1.n2) (y.1.c.b.map (ic .u8)) 5 1]/\QcT l y.1.c y.2):=by
 refine Qal (n:=108) func26 rfl ntmps26 rfl ?_
 have Y:=Own.start w
 have hn:=hr.sml
 refine Qae (Qab (Qaa (QaX (cs:=msv (⟨⟨0,0,vzero,[],0,0,[]⟩,none,0,none,0⟩:Msv)) Qqu rfl Y fun b1 w2 Y=>(Qaa (Qak (I6 0) (Qad (Qae (Qab (Qaa (Qag (.slice a l.length c) (Qaa (Qax (vs:=[.slice a l.length c]) (V:=fun y:(Option Addr × Nat) × Bs × Nat × Nat=>.tuple #[.slice y.1.1 y.2.1.length y.1.2,I6 ((y.2.2.1:Nat):Int),I6 ((y.2.2.2:Nat):Int)]) Qu0 rfl rfl (Qsa _ a c l hby (by omega) (Rd.own' hr Y) (Qa8.own' hG Y)) Y fun y3 w4 Y hFF=>?_))))))))))))
 obtain ⟨hFi,hFb,hFl⟩:=hFF
 refine Qaa (Qag (.tuple #[.slice y3.1.1 y3.2.1.length y3.1.2,I6 ((y3.2.2.1:Nat):Int),I6 ((y3.2.2.2:Nat):Int)]) (Qaa (Qaf (V:=.slice y3.1.1 y3.2.1.length y3.1.2) rfl rfl (Qaa (Qaf (V:=I6 ((y3.2.2.1:Nat):Int)) rfl rfl (Qaa (Qaf (V:=I6 ((y3.2.2.2:Nat):Int)) rfl rfl (Qaa (Qak (.slice y3.1.1 y3.2.1.length y3.1.2) (Qaa (Qak (I6 ((y3.2.2.1:Nat):Int)) (Qaa (Qak (I6 ((y3.2.2.2:Nat):Int)) (Qad (Qae (Qay (Qae (Qab (Qaa (Qag (I6 ((y3.2.2.2:Nat):Int)) (Qaa (QbM rfl rfl (Qaa (Qak (.bool (!decide (((y3.2.2.2:Nat):Int)=0))) (Qad (Qaq (t:=!decide (((y3.2.2.2:Nat):Int)=0)) rfl (fun c5=>?_) (fun c5=>?_)))))))))))))))))))))))))))
 ·
  replace c5:=Qcb c5
  replace c5:=QQ2 c5
  refine Qae ?_
  have hno:=Qll hFi (by omega)
  refine Qab (Qaa (Qbi (vs:=[]) (cs:=msv (⟨⟨0,0,vzero,[],0,0,[]⟩,none,0,none,0⟩:Msv)) [[(I6 0:Value)],[(.int .u8 0:Value)],vc vzero,[(.slice none 0 0:Value)],[(I6 0:Value)],[(I6 0:Value)],[(.slice none 0 0:Value)]] [[(I6 0:Value)],[(.int .u8 0:Value)],vc vzero,[(.slice none 0 0:Value)],[(I6 0:Value)],[(I6 0:Value)],[(.slice none 0 0:Value)]] QjX rfl (rfl) rfl rfl (Qaa (Qag (I6 ((y3.2.2.2:Nat):Int)) (Qaa (QbN (V:=.agg (msv (⟨⟨0,0,vzero,[],0,0,[]⟩,none,0,none,0⟩:Msv)).toArray) (vs:=msv (⟨⟨0,0,vzero,[],0,0,[]⟩,none,0,none,0⟩:Msv)) (cs':=msv (⟨⟨0,0,vzero,[],0,0,[]⟩,none,0,none,0⟩:Msv)) QbW.1 Y 0 rfl rfl rfl rfl rfl (QQ8 rfl) (Qbo _) (Qao rfl) fun w6 Y=>?_))))))
  replace Y:=Ow [blk b1 (msv (⟨⟨0,0,vzero,[],0,0,[]⟩,none,0,none,0⟩:Msv)) 38,row (.slice y3.1.1 y3.2.1.length y3.1.2) (y3.2.1.map (ic .u8)) 5 1] Y
  refine Qaa (Qak (I6 ((y3.2.2.2:Nat):Int)) (Qad (Qat ?_)))
  refine ⟨_,QaD (cs:=msv (⟨⟨0,0,vzero,[],0,0,[]⟩,none,0,none,0⟩:Msv)) (V:=I6 ((y3.2.2.2:Nat):Int)) results26 QbW Y 0 rfl rfl rfl rfl,?_⟩
  exact ⟨((⟨⟨0,0,vzero,[],0,0,[]⟩,none,0,none,0⟩:Msv),y3.2.2.2),rfl,((Y.take 0).more (row (.slice none 0 0) (([]:List Opn).map oc) 54 23) (QaK _ _ _ _)).more (row (.slice none 0 0) (([]:Bs).map (ic .u8)) 5 1) (QaK _ _ _ _),hno⟩
 replace c5:=Qa3 c5
 replace c5:=QQ1 c5
 refine Qae (Qab (Qaa (Qag (I6 ((y3.2.2.1:Nat):Int)) (Qaa (Qag (.slice a l.length c) (Qaa (QbG (n:=l.length) QbJ (Rd.own' hr Y) (by simp) rfl (Qaa (QbM rfl rfl (Qaa (Qak (.bool (!decide (((y3.2.2.1:Nat):Int)=((l.length:Nat):Int)))) (Qad (Qaq (t:=!decide (((y3.2.2.1:Nat):Int)=((l.length:Nat):Int))) rfl (fun c7=>?_) (fun c7=>?_))))))))))))))
 ·
  replace c7:=Qcb c7
  replace c7:=QQ2 c7
  refine Qae ?_
  have he0:y3.2.2.2=0:=by omega
  rw [he0] at hFi
  have hno:=Quo hFi (by omega)
  refine Qab (Qaa (Qbi (vs:=[]) (cs:=msv (⟨⟨0,0,vzero,[],0,0,[]⟩,none,0,none,0⟩:Msv)) [[(I6 0:Value)],[(.int .u8 0:Value)],vc vzero,[(.slice none 0 0:Value)],[(I6 0:Value)],[(I6 0:Value)],[(.slice none 0 0:Value)]] [[(I6 0:Value)],[(.int .u8 0:Value)],vc vzero,[(.slice none 0 0:Value)],[(I6 0:Value)],[(I6 0:Value)],[(.slice none 0 0:Value)]] QjX rfl (rfl) rfl rfl (Qaa (QbN (V:=.agg (msv (⟨⟨0,0,vzero,[],0,0,[]⟩,none,0,none,0⟩:Msv)).toArray) (vs:=msv (⟨⟨0,0,vzero,[],0,0,[]⟩,none,0,none,0⟩:Msv)) (cs':=msv (⟨⟨0,0,vzero,[],0,0,[]⟩,none,0,none,0⟩:Msv)) QbW.1 Y 0 rfl rfl rfl rfl rfl (QQ8 rfl) (Qbo _) (Qao rfl) fun w8 Y=>?_))))
  replace Y:=Ow [blk b1 (msv (⟨⟨0,0,vzero,[],0,0,[]⟩,none,0,none,0⟩:Msv)) 38,row (.slice y3.1.1 y3.2.1.length y3.1.2) (y3.2.1.map (ic .u8)) 5 1] Y
  refine Qaa (Qak (I6 5) (Qad (Qat ?_)))
  refine ⟨_,QaD (cs:=msv (⟨⟨0,0,vzero,[],0,0,[]⟩,none,0,none,0⟩:Msv)) (V:=I6 5) results26 QbW Y 0 rfl rfl rfl rfl,?_⟩
  exact ⟨((⟨⟨0,0,vzero,[],0,0,[]⟩,none,0,none,0⟩:Msv),5),rfl,((Y.take 0).more (row (.slice none 0 0) (([]:List Opn).map oc) 54 23) (QaK _ _ _ _)).more (row (.slice none 0 0) (([]:Bs).map (ic .u8)) 5 1) (QaK _ _ _ _),hno⟩
 replace c7:=Qa3 c7
 replace c7:=QQ1 c7
 refine Qar (Qae ?_)
 have hj:y3.2.2.1=l.length:=by omega
 have he0:y3.2.2.2=0:=by omega
 rw [he0] at hFi
 have hFi9:=hFi
 rw [hj] at hFi9
 refine Qab (Qaa (Qag (.slice y3.1.1 y3.2.1.length y3.1.2) (Qaa (Qax (vs:=[.slice y3.1.1 y3.2.1.length y3.1.2]) (V:=fun x:Nat=>Pq x 0) Qsq rfl rfl (Qif _ y3.1.1 y3.1.2 y3.2.1 (by omega) (Y.rd 1 rfl)) Y fun p9 w10 Y _=>?_))))
 replace Y:=Ow [blk b1 (msv (⟨⟨0,0,vzero,[],0,0,[]⟩,none,0,none,0⟩:Msv)) 38,row (.slice y3.1.1 y3.2.1.length y3.1.2) (y3.2.1.map (ic .u8)) 5 1,rR 281 p9 (⟨0,y3.2.1⟩:Rdr)] Y
 refine Qaa (Qak (Pq p9 0) (Qad (Qae (Qab (Qaa (QaX (cs:=msv (⟨⟨0,0,vzero,[],0,0,[]⟩,none,0,none,0⟩:Msv)) Qqu rfl Y fun b11 w12 Y=>(Qad (Qae ?_))))))))
 have hrd0:(⟨0,y3.2.1⟩:Rdr).l.length<=100000:=by show y3.2.1.length<=_;omega
 refine Qab (Qaa (Qag (Pq p9 0) (Qaa (Qa7 (vs:=[Pq p9 0]) (V:=fun y:Nat × Rdr=>I6 ((y.1:Nat):Int)) (R:=rR 281 p9 (⟨0,y3.2.1⟩:Rdr)) (R':=fun y=>rR 281 p9 y.2) (Lo:=fun _=>[]) (F:=fun y _=>(SmF (⟨0,y3.2.1⟩:Rdr) y.1 y.2/\y.1<=100/\QaZ y.2.l/\y.2.l.length<=((⟨0,y3.2.1⟩:Rdr)).l.length)) QmE rfl rfl Y 2 rfl (fun S0 hS0 hl0=>Qha _ S0 p9 (⟨0,y3.2.1⟩:Rdr) hFb (by show y3.2.1.length<=_;omega) hS0 hl0) fun y13 w14 Y hS15=>?_))))
 obtain ⟨hS15,hS15le,hS15b,hS15ln⟩:=hS15
 refine Qaa (Qac Qgo rfl (Qaa (Qcl (V:=I6 ((y13.1:Nat):Int)) (cs':=msv (⟨⟨((y13.1:Nat):Int),0,vzero,[],0,0,[]⟩,none,0,none,0⟩:Msv)) QcS Y 3 rfl rfl rfl rfl (QQ8 rfl) rfl fun w16 Y=>?_)))
 replace Y:=Ow [blk b1 (msv (⟨⟨0,0,vzero,[],0,0,[]⟩,none,0,none,0⟩:Msv)) 38,row (.slice y3.1.1 y3.2.1.length y3.1.2) (y3.2.1.map (ic .u8)) 5 1,rR 281 p9 y13.2,blk b11 (msv (⟨⟨((y13.1:Nat):Int),0,vzero,[],0,0,[]⟩,none,0,none,0⟩:Msv)) 38] Y
 refine Qad (Qae (Qab (Qaa (Qag (Pq p9 0) (Qaa (Qa7 (vs:=[Pq p9 0]) (V:=fun y:Nat × Rdr=>I6 ((y.1:Nat):Int)) (R:=rR 281 p9 y13.2) (R':=fun y=>rR 281 p9 y.2) (Lo:=fun _=>[]) (F:=fun y _=>(SmF y13.2 y.1 y.2/\y.1<=100/\QaZ y.2.l/\y.2.l.length<=(y13.2).l.length)) QmE rfl rfl Y 2 rfl (fun S0 hS0 hl0=>Qha _ S0 p9 y13.2 hS15b (by omega) hS0 hl0) fun y17 w18 Y hS19=>?_))))))
 obtain ⟨hS19,hS19le,hS19b,hS19ln⟩:=hS19
 refine Qaa (QaB QfT Qfe rfl (Qki (by omega) (by omega)) (Qaa (Qac Qkn rfl (Qaa (Qcl (V:=.int .u8 ((y17.1:Nat):Int)) (cs':=msv (⟨⟨((y13.1:Nat):Int),((y17.1:Nat):Int),vzero,[],0,0,[]⟩,none,0,none,0⟩:Msv)) QcG Y 3 rfl rfl rfl rfl (QQ8 rfl) rfl fun w20 Y=>(Qad (Qae (Qab (Qaa (Qag (Pq p9 0) (Qaa (Qa7 (vs:=[Pq p9 0]) (V:=fun y:(Option Addr × Nat) × Bs × Nat × Rdr=>.tuple #[.slice y.1.1 y.2.1.length y.1.2,I6 ((y.2.2.1:Nat):Int)]) (R:=rR 281 p9 y17.2) (R':=fun y=>rR 281 p9 y.2.2.2) (Lo:=fun y=>[row (.slice y.1.1 y.2.1.length y.1.2) (y.2.1.map (ic .u8)) 5 1]) (F:=fun y _=>(ByF y17.2 y.2.1 y.2.2.1 y.2.2.2/\QaZ y.2.1/\QaZ y.2.2.2.l/\y.2.1.length<=(y17.2).l.length/\y.2.2.2.l.length<=(y17.2).l.length)) Qpf rfl rfl Y 2 rfl (fun S0 hS0 hl0=>Qkd _ S0 p9 y17.2 hS19b (by omega) hS0 hl0) fun y21 w22 Y hB23=>?_))))))))))))
 obtain ⟨hB23,hB23b,hB23r,hB23l,hB23m⟩:=hB23
 refine Qaa (Qag (.tuple #[.slice y21.1.1 y21.2.1.length y21.1.2,I6 ((y21.2.2.1:Nat):Int)]) (Qaa (Qaf (V:=.slice y21.1.1 y21.2.1.length y21.1.2) rfl rfl (Qaa (Qaf (V:=I6 ((y21.2.2.1:Nat):Int)) rfl rfl (Qaa (Qak (.slice y21.1.1 y21.2.1.length y21.1.2) (Qaa (Qak (I6 ((y21.2.2.1:Nat):Int)) (Qad ?_))))))))))
 have hHd:=HdF.mk' hS15 hS19 hB23
 refine Qae (Qae (Qab (Qaa (Qag (.slice y21.1.1 y21.2.1.length y21.1.2) (Qaa (Qax (vs:=[.slice y21.1.1 y21.2.1.length y21.1.2]) (V:=fun x:Vec × Nat=>.tuple #[.agg (vc x.1).toArray,I6 ((x.2:Nat):Int)]) Qut rfl rfl (Qna _ y21.1.1 y21.1.2 y21.2.1 hB23b (by omega) (Y.rd 4 rfl)) Y fun x24 w25 Y hd26=>?_))))))
 replace Y:=Ow [blk b1 (msv (⟨⟨0,0,vzero,[],0,0,[]⟩,none,0,none,0⟩:Msv)) 38,row (.slice y3.1.1 y3.2.1.length y3.1.2) (y3.2.1.map (ic .u8)) 5 1,rR 281 p9 y21.2.2.2,blk b11 (msv (⟨⟨((y13.1:Nat):Int),((y17.1:Nat):Int),vzero,[],0,0,[]⟩,none,0,none,0⟩:Msv)) 38,row (.slice y21.1.1 y21.2.1.length y21.1.2) (y21.2.1.map (ic .u8)) 5 1] Y
 refine Qaa (Qag (.tuple #[.agg (vc x24.1).toArray,I6 ((x24.2:Nat):Int)]) (Qaa (Qaf (V:=.agg (vc x24.1).toArray) rfl rfl (Qaa (Qaf (V:=I6 ((x24.2:Nat):Int)) rfl rfl (Qaa (Qac Qio rfl (Qaa (QbN (V:=.agg (vc x24.1).toArray) (vs:=vc x24.1) (cs':=msv (⟨⟨((y13.1:Nat):Int),((y17.1:Nat):Int),x24.1,[],0,0,[]⟩,none,0,none,0⟩:Msv)) QbC.1 Y 3 rfl rfl rfl rfl rfl (QQ8 rfl) (QdC _) rfl fun w27 Y=>(Qaa (Qak (I6 ((x24.2:Nat):Int)) (Qad (Qae (Qab (Qaa (Qag (I6 ((x24.2:Nat):Int)) (Qaa (QbM rfl rfl (Qad (Qaq (t:=!decide (((x24.2:Nat):Int)=0)) rfl (fun c28=>?_) (fun c28=>?_)))))))))))))))))))))
 ·
  replace c28:=Qcb c28
  replace c28:=QQ2 c28
  refine Qae ?_
  have hno:=Qtv hFi9 hHd hd26 (by omega)
  refine Qab (Qaa (Qbi (vs:=[]) (cs:=msv (⟨⟨0,0,vzero,[],0,0,[]⟩,none,0,none,0⟩:Msv)) [[(I6 0:Value)],[(.int .u8 0:Value)],vc vzero,[(.slice none 0 0:Value)],[(I6 0:Value)],[(I6 0:Value)],[(.slice none 0 0:Value)]] [[(I6 0:Value)],[(.int .u8 0:Value)],vc vzero,[(.slice none 0 0:Value)],[(I6 0:Value)],[(I6 0:Value)],[(.slice none 0 0:Value)]] QjX rfl (rfl) rfl rfl (Qaa (QbN (V:=.agg (msv (⟨⟨0,0,vzero,[],0,0,[]⟩,none,0,none,0⟩:Msv)).toArray) (vs:=msv (⟨⟨0,0,vzero,[],0,0,[]⟩,none,0,none,0⟩:Msv)) (cs':=msv (⟨⟨0,0,vzero,[],0,0,[]⟩,none,0,none,0⟩:Msv)) QbW.1 Y 0 rfl rfl rfl rfl rfl (QQ8 rfl) (Qbo _) (Qao rfl) fun w29 Y=>?_))))
  replace Y:=Ow [blk b1 (msv (⟨⟨0,0,vzero,[],0,0,[]⟩,none,0,none,0⟩:Msv)) 38,row (.slice y3.1.1 y3.2.1.length y3.1.2) (y3.2.1.map (ic .u8)) 5 1,rR 281 p9 y21.2.2.2,blk b11 (msv (⟨⟨((y13.1:Nat):Int),((y17.1:Nat):Int),x24.1,[],0,0,[]⟩,none,0,none,0⟩:Msv)) 38,row (.slice y21.1.1 y21.2.1.length y21.1.2) (y21.2.1.map (ic .u8)) 5 1] Y
  refine Qaa (Qak (I6 5) (Qad (Qat ?_)))
  refine ⟨_,QaD (cs:=msv (⟨⟨0,0,vzero,[],0,0,[]⟩,none,0,none,0⟩:Msv)) (V:=I6 5) results26 QbW Y 0 rfl rfl rfl rfl,?_⟩
  exact ⟨((⟨⟨0,0,vzero,[],0,0,[]⟩,none,0,none,0⟩:Msv),5),rfl,((Y.take 0).more (row (.slice none 0 0) (([]:List Opn).map oc) 54 23) (QaK _ _ _ _)).more (row (.slice none 0 0) (([]:Bs).map (ic .u8)) 5 1) (QaK _ _ _ _),hno⟩
 replace c28:=Qa3 c28
 replace c28:=QQ1 c28
 refine Qar (Qae (Qae (Qab (Qaa (Qac Qgo rfl (Qaa (QaY (I6 ((y13.1:Nat):Int)) QcS Y 3 (Qad (Qay (Qae (Qab (Qaa (Qa5 rfl rfl (Qaa (Qak (.bool (decide (((y13.1:Nat):Int)=2))) (Qad (Qaq (t:=decide (((y13.1:Nat):Int)=2)) rfl (fun c30=>?_) (fun c30=>?_))))))))))))))))))
 ·
  replace c30:=QQ1 c30
  refine Qae (Qab (Qaa (Qag (Pq p9 0) (Qaa (Qa7 (vs:=[Pq p9 0]) (V:=fun y:Nat × Rdr=>I6 ((y.1:Nat):Int)) (R:=rR 281 p9 y21.2.2.2) (R':=fun y=>rR 281 p9 y.2) (Lo:=fun _=>[]) (F:=fun y _=>(SmF y21.2.2.2 y.1 y.2/\y.1<=100/\QaZ y.2.l/\y.2.l.length<=(y21.2.2.2).l.length)) QmE rfl rfl Y 2 rfl (fun S0 hS0 hl0=>Qha _ S0 p9 y21.2.2.2 hB23r (by omega) hS0 hl0) fun y31 w32 Y hS33=>?_)))))
  obtain ⟨hS33,hS33le,hS33b,hS33ln⟩:=hS33
  refine Qaa (QpG rfl rfl (Qaa (Qag (I6 0) (Qad (Qay ?_)))))
  replace Y:=Y.more (row (.slice none 0 0) (List.map oc []) 54 23) (QaK _ _ _ _)
  obtain ⟨hfl0,hn4⟩:=FlK.zero hHd hS33
  refine Qbb (fun J μ J' w'=>∃ (Jo:Env) (k:Nat) (r9:Rdr) (ab9:Option Addr) (cb9:Nat) (Q:List Opn),J'=upd (mix ([3,11,12,13,14]++sq 62 22) Jo J) 62 (I6 (k:Int))/\(k<=min y31.1 17)/\(QaZ r9.l)/\(r9.l.length<=100000)/\(FlK y3.2.1 k r9 Q)/\μ=min y31.1 17-k/\Own w no w' [blk b1 (msv (⟨⟨0,0,vzero,[],0,0,[]⟩,none,0,none,0⟩:Msv)) 38,row (.slice y3.1.1 y3.2.1.length y3.1.2) (y3.2.1.map (ic .u8)) 5 1,rR 281 p9 r9,blk b11 (msv (⟨⟨((y13.1:Nat):Int),((y17.1:Nat):Int),x24.1,Q,0,0,[]⟩,ab9,cb9,none,0⟩:Msv)) 38,row (.slice y21.1.1 y21.2.1.length y21.1.2) (y21.2.1.map (ic .u8)) 5 1,row (.slice ab9 Q.length cb9) (Q.map oc) 54 23]) ?_ ?_
  ·exact ⟨_,_,0,y31.2,none,0,[],Qaw (QaN (ds:=([3,11,12,13,14]++sq 62 22)) (Agr.refl _ _)) rfl,(by omega),hS33b,(by omega),hfl0,rfl,Y⟩
  rintro μ J' w34 ⟨Jo,k,r9,ab9,cb9,Q,rfl,hk,hr9b,hr9l,hfl,rfl,Y⟩
  have hQl:=hfl.len
  refine Qae (Qab (Qaa (QbQ rfl rfl (Qad (Qae (Qaq (t:=decide ((k:Int)<min ((y31.1:Nat):Int) 17)) rfl (fun c35=>?_) (fun c35=>?_)))))))
  ·
   replace c35:=QQ1 c35
   refine Qar (Qae (Qay (Qae (Qab (Qaa (Qag (Pq p9 0) (Qaa (Qa7 (vs:=[Pq p9 0]) (V:=fun y:(Option Addr × Nat) × Bs × Nat × Rdr=>.tuple #[.slice y.1.1 y.2.1.length y.1.2,I6 ((y.2.2.1:Nat):Int)]) (R:=rR 281 p9 r9) (R':=fun y=>rR 281 p9 y.2.2.2) (Lo:=fun y=>[row (.slice y.1.1 y.2.1.length y.1.2) (y.2.1.map (ic .u8)) 5 1]) (F:=fun y _=>(ByF r9 y.2.1 y.2.2.1 y.2.2.2/\QaZ y.2.1/\QaZ y.2.2.2.l/\y.2.1.length<=(r9).l.length/\y.2.2.2.l.length<=(r9).l.length)) Qpf rfl rfl Y 2 rfl (fun S0 hS0 hl0=>Qkd _ S0 p9 r9 hr9b (by omega) hS0 hl0) fun y36 w37 Y hB38=>?_))))))))
   obtain ⟨hB38,hB38b,hB38r,hB38l,hB38m⟩:=hB38
   refine Qaa (Qag (.tuple #[.slice y36.1.1 y36.2.1.length y36.1.2,I6 ((y36.2.2.1:Nat):Int)]) (Qaa (Qaf (V:=.slice y36.1.1 y36.2.1.length y36.1.2) rfl rfl (Qaa (Qaf (V:=I6 ((y36.2.2.1:Nat):Int)) rfl rfl (Qaa (Qak (.slice y36.1.1 y36.2.1.length y36.1.2) (Qaa (Qak (I6 ((y36.2.2.1:Nat):Int)) (Qad (Qae (Qab (Qaa (Qag (.slice y36.1.1 y36.2.1.length y36.1.2) (Qaa (Qax (vs:=[.slice y36.1.1 y36.2.1.length y36.1.2]) (V:=fun x:Opn × Nat=>.tuple #[.agg (oc x.1).toArray,I6 ((x.2:Nat):Int)]) Qv3 rfl rfl (QrD _ y36.1.1 y36.1.2 y36.2.1 hB38b (by omega) (Y.rd 6 rfl)) Y fun x39 w40 Y hd41=>?_))))))))))))))))
   replace Y:=Ow [blk b1 (msv (⟨⟨0,0,vzero,[],0,0,[]⟩,none,0,none,0⟩:Msv)) 38,row (.slice y3.1.1 y3.2.1.length y3.1.2) (y3.2.1.map (ic .u8)) 5 1,rR 281 p9 y36.2.2.2,blk b11 (msv (⟨⟨((y13.1:Nat):Int),((y17.1:Nat):Int),x24.1,Q,0,0,[]⟩,ab9,cb9,none,0⟩:Msv)) 38,row (.slice y21.1.1 y21.2.1.length y21.1.2) (y21.2.1.map (ic .u8)) 5 1,row (.slice ab9 Q.length cb9) (Q.map oc) 54 23,row (.slice y36.1.1 y36.2.1.length y36.1.2) (y36.2.1.map (ic .u8)) 5 1] Y
   refine Qaa (Qag (.tuple #[.agg (oc x39.1).toArray,I6 ((x39.2:Nat):Int)]) (Qaa (Qaf (V:=.agg (oc x39.1).toArray) rfl rfl (Qaa (Qaf (V:=I6 ((x39.2:Nat):Int)) rfl rfl (Qaa (QaX (cs:=oc (⟨(⟨0,0⟩:Dot),0,0,0,0,0,vzero⟩:Opn)) QjS rfl Y fun b42 w43 Y=>(Qaa (QbN (V:=.agg (oc x39.1).toArray) (vs:=oc x39.1) (cs':=oc x39.1) Qbp.1 Y 7 rfl rfl rfl rfl rfl (QQ8 rfl) (QcB _) (Qao rfl) fun w44 Y=>?_)))))))))
   replace Y:=Ow [blk b1 (msv (⟨⟨0,0,vzero,[],0,0,[]⟩,none,0,none,0⟩:Msv)) 38,row (.slice y3.1.1 y3.2.1.length y3.1.2) (y3.2.1.map (ic .u8)) 5 1,rR 281 p9 y36.2.2.2,blk b11 (msv (⟨⟨((y13.1:Nat):Int),((y17.1:Nat):Int),x24.1,Q,0,0,[]⟩,ab9,cb9,none,0⟩:Msv)) 38,row (.slice y21.1.1 y21.2.1.length y21.1.2) (y21.2.1.map (ic .u8)) 5 1,row (.slice ab9 Q.length cb9) (Q.map oc) 54 23,row (.slice y36.1.1 y36.2.1.length y36.1.2) (y36.2.1.map (ic .u8)) 5 1,blk b42 (oc x39.1) 54] Y
   refine Qaa (Qak (I6 ((x39.2:Nat):Int)) (Qad (Qae (Qae (Qab (Qaa (Qag (I6 ((x39.2:Nat):Int)) (Qaa (QbM rfl rfl (Qad (Qaq (t:=!decide (((x39.2:Nat):Int)=0)) rfl (fun c45=>?_) (fun c45=>?_))))))))))))
   ·
    replace c45:=Qcb c45
    replace c45:=QQ2 c45
    refine Qae ?_
    have hno:=FlK.no hFi9 hHd hfl (by omega) hn4 (by omega) hB38 hd41 (by omega)
    refine Qab (Qaa (Qbi (vs:=[]) (cs:=msv (⟨⟨0,0,vzero,[],0,0,[]⟩,none,0,none,0⟩:Msv)) [[(I6 0:Value)],[(.int .u8 0:Value)],vc vzero,[(.slice none 0 0:Value)],[(I6 0:Value)],[(I6 0:Value)],[(.slice none 0 0:Value)]] [[(I6 0:Value)],[(.int .u8 0:Value)],vc vzero,[(.slice none 0 0:Value)],[(I6 0:Value)],[(I6 0:Value)],[(.slice none 0 0:Value)]] QjX rfl (rfl) rfl rfl (Qaa (QbN (V:=.agg (msv (⟨⟨0,0,vzero,[],0,0,[]⟩,none,0,none,0⟩:Msv)).toArray) (vs:=msv (⟨⟨0,0,vzero,[],0,0,[]⟩,none,0,none,0⟩:Msv)) (cs':=msv (⟨⟨0,0,vzero,[],0,0,[]⟩,none,0,none,0⟩:Msv)) QbW.1 Y 0 rfl rfl rfl rfl rfl (QQ8 rfl) (Qbo _) (Qao rfl) fun w46 Y=>(Qaa (Qak (I6 5) (Qad (Qat ?_))))))))
    refine ⟨_,QaD (cs:=msv (⟨⟨0,0,vzero,[],0,0,[]⟩,none,0,none,0⟩:Msv)) (V:=I6 5) results26 QbW Y 0 rfl rfl rfl rfl,?_⟩
    exact ⟨((⟨⟨0,0,vzero,[],0,0,[]⟩,none,0,none,0⟩:Msv),5),rfl,((Y.take 0).more (row (.slice none 0 0) (([]:List Opn).map oc) 54 23) (QaK _ _ _ _)).more (row (.slice none 0 0) (([]:Bs).map (ic .u8)) 5 1) (QaK _ _ _ _),hno⟩
   replace c45:=Qa3 c45
   replace c45:=QQ1 c45
   refine Qar (Qab (Qaa (Qac Qfs rfl (Qaa (QaY (.slice ab9 Q.length cb9) Qc3 Y 3 (Qaa (Qa1 (cs:=oc x39.1) Qbp Y 7 rfl rfl rfl (Qaa (Ql2 (vals:=[.agg (oc x39.1).toArray]) (ls:=List.map oc ([x39.1]:List Opn)) Qqv rfl rfl rfl (Qb3 (enc:=oc) (fun _=>rfl) _) (QaV QcB _) (QQ8 rfl) Y fun b47 w48 Y=>(Qaa (QbH (ls':=(Q++[x39.1]).map oc) (n:=(Q++[x39.1]).length) Qqv Y 5 rfl rfl rfl (Y.rd 8 rfl) (QaV QcB _) (by simp only [QQ6,QQ7,List.length_cons,List.length_nil];omega) (by simp) (by simp) fun a49 c49 w50 Y=>?_)))))))))))
   replace Y:=Ow [blk b1 (msv (⟨⟨0,0,vzero,[],0,0,[]⟩,none,0,none,0⟩:Msv)) 38,row (.slice y3.1.1 y3.2.1.length y3.1.2) (y3.2.1.map (ic .u8)) 5 1,rR 281 p9 y36.2.2.2,blk b11 (msv (⟨⟨((y13.1:Nat):Int),((y17.1:Nat):Int),x24.1,Q,0,0,[]⟩,ab9,cb9,none,0⟩:Msv)) 38,row (.slice y21.1.1 y21.2.1.length y21.1.2) (y21.2.1.map (ic .u8)) 5 1,row (.slice a49 ((Q++[x39.1]).length) c49) ((Q++[x39.1]).map oc) 54 23,row (.slice y36.1.1 y36.2.1.length y36.1.2) (y36.2.1.map (ic .u8)) 5 1,blk b42 (oc x39.1) 54,row (.slice (some ⟨b47,0,none⟩) 1 1) ([x39.1].map oc) 54 23] Y
   refine Qaa (Qac Qfs rfl (Qaa (Qcl (V:=.slice a49 ((Q++[x39.1]).length) c49) (cs':=msv (⟨⟨((y13.1:Nat):Int),((y17.1:Nat):Int),x24.1,Q++[x39.1],0,0,[]⟩,a49,c49,none,0⟩:Msv)) Qc3 Y 3 rfl rfl rfl rfl (QQ8 rfl) rfl fun w51 Y=>(Qad (Qab (Qaa (Qbx (a:=(k:Int)) (b:=1) (c:=((k+1:Nat):Int)) rfl rfl (QaS (by omega) (by omega)) (Qaa (Qag (I6 ((k+1:Nat):Int)) (Qad ?_))))))))))
   refine ⟨_,?_,_,k+1,y36.2.2.2,a49,c49,Q++[x39.1],Qaw (QaN (ds:=([3,11,12,13,14]++sq 62 22)) (by repeat (first|exact Agr.refl _ _|refine Agr.upd ?_ rfl|refine Agr.mix ?_ rfl))) rfl,(by omega),hB38r,(by omega),(hfl.next hB38 (by have h0:x39.2=0:=(by omega);rw [← h0];exact hd41)),rfl,Y.take 6⟩
   omega
  replace c35:=QQ2 c35
  refine Qbs (Qae (Qae ?_))
  have hv0:x24.2=0:=by omega
  have hdv:QcA y21.2.1 x24.1 0:=by rw [← hv0];exact hd26
  have hmok:MscOk (⟨⟨((y13.1:Nat):Int),((y17.1:Nat):Int),x24.1,Q,0,0,[]⟩,ab9,cb9,none,0⟩:Msv).c:=QlS (by omega) (by omega) (QcA.vok hdv) hfl.q.enc.2 QfQ QfQ QcY
  have hend:=Qr9 (m:=(⟨⟨((y13.1:Nat):Int),((y17.1:Nat):Int),x24.1,Q,0,0,[]⟩,ab9,cb9,none,0⟩:Msv).c) hby hFi9 hHd hdv (by omega) hn4 (show k=min y31.1 17 by omega) hfl rfl
  refine Qa2 (so 98 8) [] [0,1,3,7,15,31,63,127] [pv (Pq p9 0),pv (.bool (QaU r9)),pv (.bool (!(QaU r9))),pv (.bool (!(QaU r9))),pg ((!(QaU r9)) == false) (.agg (msv (⟨⟨((y13.1:Nat):Int),((y17.1:Nat):Int),x24.1,Q,0,0,[]⟩,ab9,cb9,none,0⟩:Msv)).toArray),pg ((!(QaU r9)) == false) (.bool (Qah (⟨⟨((y13.1:Nat):Int),((y17.1:Nat):Int),x24.1,Q,0,0,[]⟩,ab9,cb9,none,0⟩:Msv).c)),pg ((!(QaU r9)) == false) (.bool (!(Qah (⟨⟨((y13.1:Nat):Int),((y17.1:Nat):Int),x24.1,Q,0,0,[]⟩,ab9,cb9,none,0⟩:Msv).c))),pv (.bool ((!(QaU r9))||(!(Qah (⟨⟨((y13.1:Nat):Int),((y17.1:Nat):Int),x24.1,Q,0,0,[]⟩,ab9,cb9,none,0⟩:Msv).c))))] (fun _ _=>_) [7] (by kernel_rfl) Y ⟨?_,?_,?_,?_,?_,?_,?_,?_,trivial⟩ ?_
  ·exact oi [] fun Y=>Qag (.pointer (some ⟨p9,0,none⟩)) (Zz Y)
  ·exact oi [0] fun Y=>QgB (vs:=[.pointer (some ⟨p9,0,none⟩)]) (V:=.bool (QaU r9)) (R:=rR 281 p9 r9) Qot rfl rfl Y 2 rfl (fun S0 hS0 hl0=>QeG _ S0 p9 r9 hS0 hl0) fun _ Y=>Zz Y
  ·exact oi [1] fun Y=>Qb6 rfl (Zz Y)
  ·exact oi [2] fun Y=>Qag (.bool (!(QaU r9))) (Zz Y)
  ·exact ogi [3] fun hG Y=>Qa1 (cs:=msv (⟨⟨((y13.1:Nat):Int),((y17.1:Nat):Int),x24.1,Q,0,0,[]⟩,ab9,cb9,none,0⟩:Msv)) QbW Y 3 rfl rfl rfl (Zz Y)
  ·exact oyi [3,4] [4] fun hG Y=>QaH (vs:=[.agg (msv (⟨⟨((y13.1:Nat):Int),((y17.1:Nat):Int),x24.1,Q,0,0,[]⟩,ab9,cb9,none,0⟩:Msv)).toArray]) (V:=.bool (Qah (⟨⟨((y13.1:Nat):Int),((y17.1:Nat):Int),x24.1,Q,0,0,[]⟩,ab9,cb9,none,0⟩:Msv).c)) Qn0 rfl rfl (QdK _ (⟨⟨((y13.1:Nat):Int),((y17.1:Nat):Int),x24.1,Q,0,0,[]⟩,ab9,cb9,none,0⟩:Msv) hmok (.inl (Y.rd 5 rfl)) (.inl (Rd.nil _ 1))) Y fun _ Y=>Zz Y
  ·exact oyi [3,5] [5] fun hG Y=>Qb6 rfl (Zz Y)
  ·exact oi [3,6] fun Y=>QbL (h':=!(Qah (⟨⟨((y13.1:Nat):Int),((y17.1:Nat):Int),x24.1,Q,0,0,[]⟩,ab9,cb9,none,0⟩:Msv).c)) rfl rfl rfl (Zz Y)
  rintro J1 w54 J2 hJ Y
  replace hJ:J2=upd (mix (sq 98 8) J1 _) 105 (.bool ((!(QaU r9))||(!(Qah (⟨⟨((y13.1:Nat):Int),((y17.1:Nat):Int),x24.1,Q,0,0,[]⟩,ab9,cb9,none,0⟩:Msv).c)))):=hJ
  subst hJ
  refine Qaq (t:=(!(QaU r9))||(!(Qah (⟨⟨((y13.1:Nat):Int),((y17.1:Nat):Int),x24.1,Q,0,0,[]⟩,ab9,cb9,none,0⟩:Msv).c))) rfl (fun c55=>?_) (fun c55=>?_)
  ·
   refine Qae ?_
   have hno:QcT l mscz 5:=hend.2 (by
         rintro ⟨h1,h2⟩
         have h9:=c55
         rw [h1,h2] at h9
         simp at h9)
   refine Qab (Qaa (Qbi (vs:=[]) (cs:=msv (⟨⟨0,0,vzero,[],0,0,[]⟩,none,0,none,0⟩:Msv)) [[(I6 0:Value)],[(.int .u8 0:Value)],vc vzero,[(.slice none 0 0:Value)],[(I6 0:Value)],[(I6 0:Value)],[(.slice none 0 0:Value)]] [[(I6 0:Value)],[(.int .u8 0:Value)],vc vzero,[(.slice none 0 0:Value)],[(I6 0:Value)],[(I6 0:Value)],[(.slice none 0 0:Value)]] QjX rfl (rfl) rfl rfl (Qaa (QbN (V:=.agg (msv (⟨⟨0,0,vzero,[],0,0,[]⟩,none,0,none,0⟩:Msv)).toArray) (vs:=msv (⟨⟨0,0,vzero,[],0,0,[]⟩,none,0,none,0⟩:Msv)) (cs':=msv (⟨⟨0,0,vzero,[],0,0,[]⟩,none,0,none,0⟩:Msv)) QbW.1 Y 0 rfl rfl rfl rfl rfl (QQ8 rfl) (Qbo _) (Qao rfl) fun w56 Y=>?_))))
   replace Y:=Ow [blk b1 (msv (⟨⟨0,0,vzero,[],0,0,[]⟩,none,0,none,0⟩:Msv)) 38,row (.slice y3.1.1 y3.2.1.length y3.1.2) (y3.2.1.map (ic .u8)) 5 1,rR 281 p9 r9,blk b11 (msv (⟨⟨((y13.1:Nat):Int),((y17.1:Nat):Int),x24.1,Q,0,0,[]⟩,ab9,cb9,none,0⟩:Msv)) 38,row (.slice y21.1.1 y21.2.1.length y21.1.2) (y21.2.1.map (ic .u8)) 5 1,row (.slice ab9 Q.length cb9) (Q.map oc) 54 23] Y
   refine Qaa (Qak (I6 5) (Qad (Qat ?_)))
   refine ⟨_,QaD (cs:=msv (⟨⟨0,0,vzero,[],0,0,[]⟩,none,0,none,0⟩:Msv)) (V:=I6 5) results26 QbW Y 0 rfl rfl rfl rfl,?_⟩
   exact ⟨((⟨⟨0,0,vzero,[],0,0,[]⟩,none,0,none,0⟩:Msv),5),rfl,((Y.take 0).more (row (.slice none 0 0) (([]:List Opn).map oc) 54 23) (QaK _ _ _ _)).more (row (.slice none 0 0) (([]:Bs).map (ic .u8)) 5 1) (QaK _ _ _ _),hno⟩
  have c55r:=QdH c55
  replace c55:=QdJ c55
  replace c55:=Qa3 c55
  replace c55r:=Qa3 c55r
  refine Qar (Qae ?_)
  have hyes:=hend.1 ⟨c55,c55r⟩
  refine Qab (Qaa (Qa1 (cs:=msv (⟨⟨((y13.1:Nat):Int),((y17.1:Nat):Int),x24.1,Q,0,0,[]⟩,ab9,cb9,none,0⟩:Msv)) QbW Y 3 rfl rfl rfl (Qaa (QbN (V:=.agg (msv (⟨⟨((y13.1:Nat):Int),((y17.1:Nat):Int),x24.1,Q,0,0,[]⟩,ab9,cb9,none,0⟩:Msv)).toArray) (vs:=msv (⟨⟨((y13.1:Nat):Int),((y17.1:Nat):Int),x24.1,Q,0,0,[]⟩,ab9,cb9,none,0⟩:Msv)) (cs':=msv (⟨⟨((y13.1:Nat):Int),((y17.1:Nat):Int),x24.1,Q,0,0,[]⟩,ab9,cb9,none,0⟩:Msv)) QbW.1 Y 0 rfl rfl rfl rfl rfl (QQ8 rfl) (Qbo _) (Qao rfl) fun w57 Y=>?_))))
  replace Y:=Ow [blk b1 (msv (⟨⟨((y13.1:Nat):Int),((y17.1:Nat):Int),x24.1,Q,0,0,[]⟩,ab9,cb9,none,0⟩:Msv)) 38,row (.slice y3.1.1 y3.2.1.length y3.1.2) (y3.2.1.map (ic .u8)) 5 1,rR 281 p9 r9,blk b11 (msv (⟨⟨((y13.1:Nat):Int),((y17.1:Nat):Int),x24.1,Q,0,0,[]⟩,ab9,cb9,none,0⟩:Msv)) 38,row (.slice y21.1.1 y21.2.1.length y21.1.2) (y21.2.1.map (ic .u8)) 5 1,row (.slice ab9 Q.length cb9) (Q.map oc) 54 23] Y
  refine Qaa (Qak (I6 0) (Qad (Qat ?_)))
  refine ⟨_,QaD (cs:=msv (⟨⟨((y13.1:Nat):Int),((y17.1:Nat):Int),x24.1,Q,0,0,[]⟩,ab9,cb9,none,0⟩:Msv)) (V:=I6 0) results26 QbW Y 0 rfl rfl rfl rfl,?_⟩
  replace Y:=(Y.more (row (.slice none 0 0) (([]:List Opn).map oc) 54 23) (QaK _ _ _ _)).more (row (.slice none 0 0) (([]:Bs).map (ic .u8)) 5 1) (QaK _ _ _ _)
  exact ⟨((⟨⟨((y13.1:Nat):Int),((y17.1:Nat):Int),x24.1,Q,0,0,[]⟩,ab9,cb9,none,0⟩:Msv),0),rfl,Y.sel [5,7] (by decide) rfl,hyes⟩
 replace c30:=QQ2 c30
 refine Qae (Qab (Qaa (Qa5 rfl rfl (Qaa (Qak (.bool (decide (((y13.1:Nat):Int)=3))) (Qad (Qaq (t:=decide (((y13.1:Nat):Int)=3)) rfl (fun c58=>?_) (fun c58=>?_))))))))
 ·
  replace c58:=QQ1 c58
  refine Qae (Qab (Qaa (Qag (Pq p9 0) (Qaa (Qa7 (vs:=[Pq p9 0]) (V:=fun y:Nat × Rdr=>I6 ((y.1:Nat):Int)) (R:=rR 281 p9 y21.2.2.2) (R':=fun y=>rR 281 p9 y.2) (Lo:=fun _=>[]) (F:=fun y _=>(SmF y21.2.2.2 y.1 y.2/\y.1<=100/\QaZ y.2.l/\y.2.l.length<=(y21.2.2.2).l.length)) QmE rfl rfl Y 2 rfl (fun S0 hS0 hl0=>Qha _ S0 p9 y21.2.2.2 hB23r (by omega) hS0 hl0) fun y59 w60 Y hS61=>?_)))))
  obtain ⟨hS61,hS61le,hS61b,hS61ln⟩:=hS61
  refine Qaa (Qac Qfd rfl (Qaa (Qcl (V:=I6 ((y59.1:Nat):Int)) (cs':=msv (⟨⟨((y13.1:Nat):Int),((y17.1:Nat):Int),x24.1,[],((y59.1:Nat):Int),0,[]⟩,none,0,none,0⟩:Msv)) QcS Y 3 rfl rfl rfl rfl (QQ8 rfl) rfl fun w62 Y=>?_)))
  replace Y:=Ow [blk b1 (msv (⟨⟨0,0,vzero,[],0,0,[]⟩,none,0,none,0⟩:Msv)) 38,row (.slice y3.1.1 y3.2.1.length y3.1.2) (y3.2.1.map (ic .u8)) 5 1,rR 281 p9 y59.2,blk b11 (msv (⟨⟨((y13.1:Nat):Int),((y17.1:Nat):Int),x24.1,[],((y59.1:Nat):Int),0,[]⟩,none,0,none,0⟩:Msv)) 38,row (.slice y21.1.1 y21.2.1.length y21.1.2) (y21.2.1.map (ic .u8)) 5 1] Y
  refine Qad (Qae (Qab (Qaa (Qag (Pq p9 0) (Qaa (Qa7 (vs:=[Pq p9 0]) (V:=fun y:Nat × Rdr=>I6 ((y.1:Nat):Int)) (R:=rR 281 p9 y59.2) (R':=fun y=>rR 281 p9 y.2) (Lo:=fun _=>[]) (F:=fun y _=>(SmF y59.2 y.1 y.2/\y.1<=100/\QaZ y.2.l/\y.2.l.length<=(y59.2).l.length)) QmE rfl rfl Y 2 rfl (fun S0 hS0 hl0=>Qha _ S0 p9 y59.2 hS61b (by omega) hS0 hl0) fun y63 w64 Y hS65=>?_))))))
  obtain ⟨hS65,hS65le,hS65b,hS65ln⟩:=hS65
  refine Qaa (Qac Qeu rfl (Qaa (Qcl (V:=I6 ((y63.1:Nat):Int)) (cs':=msv (⟨⟨((y13.1:Nat):Int),((y17.1:Nat):Int),x24.1,[],((y59.1:Nat):Int),((y63.1:Nat):Int),[]⟩,none,0,none,0⟩:Msv)) QcS Y 3 rfl rfl rfl rfl (QQ8 rfl) rfl fun w66 Y=>(Qad (Qab (Qaa (Qag (Pq p9 0) (Qaa (Qa7 (vs:=[Pq p9 0]) (V:=fun y:(Option Addr × Nat) × Bs × Nat × Rdr=>.tuple #[.slice y.1.1 y.2.1.length y.1.2,I6 ((y.2.2.1:Nat):Int)]) (R:=rR 281 p9 y63.2) (R':=fun y=>rR 281 p9 y.2.2.2) (Lo:=fun y=>[row (.slice y.1.1 y.2.1.length y.1.2) (y.2.1.map (ic .u8)) 5 1]) (F:=fun y _=>(ByF y63.2 y.2.1 y.2.2.1 y.2.2.2/\QaZ y.2.1/\QaZ y.2.2.2.l/\y.2.1.length<=(y63.2).l.length/\y.2.2.2.l.length<=(y63.2).l.length)) Qpf rfl rfl Y 2 rfl (fun S0 hS0 hl0=>Qkd _ S0 p9 y63.2 hS65b (by omega) hS0 hl0) fun y67 w68 Y hB69=>?_)))))))))
  obtain ⟨hB69,hB69b,hB69r,hB69l,hB69m⟩:=hB69
  refine Qaa (Qag (.tuple #[.slice y67.1.1 y67.2.1.length y67.1.2,I6 ((y67.2.2.1:Nat):Int)]) (Qaa (Qaf (V:=.slice y67.1.1 y67.2.1.length y67.1.2) rfl rfl (Qaa (Qaf (V:=I6 ((y67.2.2.1:Nat):Int)) rfl rfl (Qaa (Qac Qfh rfl (Qaa (Qcl (V:=.slice y67.1.1 y67.2.1.length y67.1.2) (cs':=msv (⟨⟨((y13.1:Nat):Int),((y17.1:Nat):Int),x24.1,[],((y59.1:Nat):Int),((y63.1:Nat):Int),y67.2.1⟩,none,0,y67.1.1,y67.1.2⟩:Msv)) QbD Y 3 rfl rfl rfl rfl (QQ8 rfl) rfl fun w70 Y=>?_)))))))))
  replace Y:=Ow [blk b1 (msv (⟨⟨0,0,vzero,[],0,0,[]⟩,none,0,none,0⟩:Msv)) 38,row (.slice y3.1.1 y3.2.1.length y3.1.2) (y3.2.1.map (ic .u8)) 5 1,rR 281 p9 y67.2.2.2,blk b11 (msv (⟨⟨((y13.1:Nat):Int),((y17.1:Nat):Int),x24.1,[],((y59.1:Nat):Int),((y63.1:Nat):Int),y67.2.1⟩,none,0,y67.1.1,y67.1.2⟩:Msv)) 38,row (.slice y21.1.1 y21.2.1.length y21.1.2) (y21.2.1.map (ic .u8)) 5 1,row (.slice y67.1.1 y67.2.1.length y67.1.2) (y67.2.1.map (ic .u8)) 5 1] Y
  refine Qad (Qae (Qae ?_))
  have hv0:x24.2=0:=by omega
  have hdv:QcA y21.2.1 x24.1 0:=by rw [← hv0];exact hd26
  have hmok:MscOk (⟨⟨((y13.1:Nat):Int),((y17.1:Nat):Int),x24.1,[],((y59.1:Nat):Int),((y63.1:Nat):Int),y67.2.1⟩,none,0,y67.1.1,y67.1.2⟩:Msv).c:=QlS (by omega) (by omega) (QcA.vok hdv) (fun _ h=>nomatch h) (Qil (by omega)) (Qil (by omega)) hB69b
  have hend:=Qn5 (m:=(⟨⟨((y13.1:Nat):Int),((y17.1:Nat):Int),x24.1,[],((y59.1:Nat):Int),((y63.1:Nat):Int),y67.2.1⟩,none,0,y67.1.1,y67.1.2⟩:Msv).c) hby hFi9 hHd hdv (by omega) hS61 hS65 hB69 rfl
  refine Qa2 (so 98 8) [] [0,1,3,7,15,31,63,127] [pv (Pq p9 0),pv (.bool (QaU y67.2.2.2)),pv (.bool (!(QaU y67.2.2.2))),pv (.bool (!(QaU y67.2.2.2))),pg ((!(QaU y67.2.2.2)) == false) (.agg (msv (⟨⟨((y13.1:Nat):Int),((y17.1:Nat):Int),x24.1,[],((y59.1:Nat):Int),((y63.1:Nat):Int),y67.2.1⟩,none,0,y67.1.1,y67.1.2⟩:Msv)).toArray),pg ((!(QaU y67.2.2.2)) == false) (.bool (Qah (⟨⟨((y13.1:Nat):Int),((y17.1:Nat):Int),x24.1,[],((y59.1:Nat):Int),((y63.1:Nat):Int),y67.2.1⟩,none,0,y67.1.1,y67.1.2⟩:Msv).c)),pg ((!(QaU y67.2.2.2)) == false) (.bool (!(Qah (⟨⟨((y13.1:Nat):Int),((y17.1:Nat):Int),x24.1,[],((y59.1:Nat):Int),((y63.1:Nat):Int),y67.2.1⟩,none,0,y67.1.1,y67.1.2⟩:Msv).c))),pv (.bool ((!(QaU y67.2.2.2))||(!(Qah (⟨⟨((y13.1:Nat):Int),((y17.1:Nat):Int),x24.1,[],((y59.1:Nat):Int),((y63.1:Nat):Int),y67.2.1⟩,none,0,y67.1.1,y67.1.2⟩:Msv).c))))] (fun _ _=>_) [7] (by kernel_rfl) Y ⟨?_,?_,?_,?_,?_,?_,?_,?_,trivial⟩ ?_
  ·exact oi [] fun Y=>Qag (.pointer (some ⟨p9,0,none⟩)) (Zz Y)
  ·exact oi [0] fun Y=>QgB (vs:=[.pointer (some ⟨p9,0,none⟩)]) (V:=.bool (QaU y67.2.2.2)) (R:=rR 281 p9 y67.2.2.2) Qot rfl rfl Y 2 rfl (fun S0 hS0 hl0=>QeG _ S0 p9 y67.2.2.2 hS0 hl0) fun _ Y=>Zz Y
  ·exact oi [1] fun Y=>Qb6 rfl (Zz Y)
  ·exact oi [2] fun Y=>Qag (.bool (!(QaU y67.2.2.2))) (Zz Y)
  ·exact ogi [3] fun hG Y=>Qa1 (cs:=msv (⟨⟨((y13.1:Nat):Int),((y17.1:Nat):Int),x24.1,[],((y59.1:Nat):Int),((y63.1:Nat):Int),y67.2.1⟩,none,0,y67.1.1,y67.1.2⟩:Msv)) QbW Y 3 rfl rfl rfl (Zz Y)
  ·exact oyi [3,4] [4] fun hG Y=>QaH (vs:=[.agg (msv (⟨⟨((y13.1:Nat):Int),((y17.1:Nat):Int),x24.1,[],((y59.1:Nat):Int),((y63.1:Nat):Int),y67.2.1⟩,none,0,y67.1.1,y67.1.2⟩:Msv)).toArray]) (V:=.bool (Qah (⟨⟨((y13.1:Nat):Int),((y17.1:Nat):Int),x24.1,[],((y59.1:Nat):Int),((y63.1:Nat):Int),y67.2.1⟩,none,0,y67.1.1,y67.1.2⟩:Msv).c)) Qn0 rfl rfl (QdK _ (⟨⟨((y13.1:Nat):Int),((y17.1:Nat):Int),x24.1,[],((y59.1:Nat):Int),((y63.1:Nat):Int),y67.2.1⟩,none,0,y67.1.1,y67.1.2⟩:Msv) hmok (.inl (Rd.nil _ 23)) (.inl (Y.rd 5 rfl))) Y fun _ Y=>Zz Y
  ·exact oyi [3,5] [5] fun hG Y=>Qb6 rfl (Zz Y)
  ·exact oi [3,6] fun Y=>QbL (h':=!(Qah (⟨⟨((y13.1:Nat):Int),((y17.1:Nat):Int),x24.1,[],((y59.1:Nat):Int),((y63.1:Nat):Int),y67.2.1⟩,none,0,y67.1.1,y67.1.2⟩:Msv).c)) rfl rfl rfl (Zz Y)
  rintro J1 w73 J2 hJ Y
  replace hJ:J2=upd (mix (sq 98 8) J1 _) 105 (.bool ((!(QaU y67.2.2.2))||(!(Qah (⟨⟨((y13.1:Nat):Int),((y17.1:Nat):Int),x24.1,[],((y59.1:Nat):Int),((y63.1:Nat):Int),y67.2.1⟩,none,0,y67.1.1,y67.1.2⟩:Msv).c)))):=hJ
  subst hJ
  refine Qaq (t:=(!(QaU y67.2.2.2))||(!(Qah (⟨⟨((y13.1:Nat):Int),((y17.1:Nat):Int),x24.1,[],((y59.1:Nat):Int),((y63.1:Nat):Int),y67.2.1⟩,none,0,y67.1.1,y67.1.2⟩:Msv).c))) rfl (fun c74=>?_) (fun c74=>?_)
  ·
   refine Qae ?_
   have hno:QcT l mscz 5:=hend.2 (by
        rintro ⟨h1,h2⟩
        have h9:=c74
        rw [h1,h2] at h9
        simp at h9)
   refine Qab (Qaa (Qbi (vs:=[]) (cs:=msv (⟨⟨0,0,vzero,[],0,0,[]⟩,none,0,none,0⟩:Msv)) [[(I6 0:Value)],[(.int .u8 0:Value)],vc vzero,[(.slice none 0 0:Value)],[(I6 0:Value)],[(I6 0:Value)],[(.slice none 0 0:Value)]] [[(I6 0:Value)],[(.int .u8 0:Value)],vc vzero,[(.slice none 0 0:Value)],[(I6 0:Value)],[(I6 0:Value)],[(.slice none 0 0:Value)]] QjX rfl (rfl) rfl rfl (Qaa (QbN (V:=.agg (msv (⟨⟨0,0,vzero,[],0,0,[]⟩,none,0,none,0⟩:Msv)).toArray) (vs:=msv (⟨⟨0,0,vzero,[],0,0,[]⟩,none,0,none,0⟩:Msv)) (cs':=msv (⟨⟨0,0,vzero,[],0,0,[]⟩,none,0,none,0⟩:Msv)) QbW.1 Y 0 rfl rfl rfl rfl rfl (QQ8 rfl) (Qbo _) (Qao rfl) fun w75 Y=>(Qaa (Qak (I6 5) (Qad (Qat ?_))))))))
   refine ⟨_,QaD (cs:=msv (⟨⟨0,0,vzero,[],0,0,[]⟩,none,0,none,0⟩:Msv)) (V:=I6 5) results26 QbW Y 0 rfl rfl rfl rfl,?_⟩
   exact ⟨((⟨⟨0,0,vzero,[],0,0,[]⟩,none,0,none,0⟩:Msv),5),rfl,((Y.take 0).more (row (.slice none 0 0) (([]:List Opn).map oc) 54 23) (QaK _ _ _ _)).more (row (.slice none 0 0) (([]:Bs).map (ic .u8)) 5 1) (QaK _ _ _ _),hno⟩
  have c74r:=QdH c74
  replace c74:=QdJ c74
  replace c74:=Qa3 c74
  replace c74r:=Qa3 c74r
  refine Qar (Qae ?_)
  have hyes:=hend.1 ⟨c74,c74r⟩
  refine Qab (Qaa (Qa1 (cs:=msv (⟨⟨((y13.1:Nat):Int),((y17.1:Nat):Int),x24.1,[],((y59.1:Nat):Int),((y63.1:Nat):Int),y67.2.1⟩,none,0,y67.1.1,y67.1.2⟩:Msv)) QbW Y 3 rfl rfl rfl (Qaa (QbN (V:=.agg (msv (⟨⟨((y13.1:Nat):Int),((y17.1:Nat):Int),x24.1,[],((y59.1:Nat):Int),((y63.1:Nat):Int),y67.2.1⟩,none,0,y67.1.1,y67.1.2⟩:Msv)).toArray) (vs:=msv (⟨⟨((y13.1:Nat):Int),((y17.1:Nat):Int),x24.1,[],((y59.1:Nat):Int),((y63.1:Nat):Int),y67.2.1⟩,none,0,y67.1.1,y67.1.2⟩:Msv)) (cs':=msv (⟨⟨((y13.1:Nat):Int),((y17.1:Nat):Int),x24.1,[],((y59.1:Nat):Int),((y63.1:Nat):Int),y67.2.1⟩,none,0,y67.1.1,y67.1.2⟩:Msv)) QbW.1 Y 0 rfl rfl rfl rfl rfl (QQ8 rfl) (Qbo _) (Qao rfl) fun w76 Y=>(Qaa (Qak (I6 0) (Qad (Qat ?_))))))))
  refine ⟨_,QaD (cs:=msv (⟨⟨((y13.1:Nat):Int),((y17.1:Nat):Int),x24.1,[],((y59.1:Nat):Int),((y63.1:Nat):Int),y67.2.1⟩,none,0,y67.1.1,y67.1.2⟩:Msv)) (V:=I6 0) results26 QbW Y 0 rfl rfl rfl rfl,?_⟩
  replace Y:=(Y.more (row (.slice none 0 0) (([]:List Opn).map oc) 54 23) (QaK _ _ _ _)).more (row (.slice none 0 0) (([]:Bs).map (ic .u8)) 5 1) (QaK _ _ _ _)
  exact ⟨((⟨⟨((y13.1:Nat):Int),((y17.1:Nat):Int),x24.1,[],((y59.1:Nat):Int),((y63.1:Nat):Int),y67.2.1⟩,none,0,y67.1.1,y67.1.2⟩:Msv),0),rfl,Y.sel [6,5] (by decide) rfl,hyes⟩
 replace c58:=QQ2 c58
 refine Qar (Qae (Qae ?_))
 have hv0:x24.2=0:=by omega
 have hdv:QcA y21.2.1 x24.1 0:=by rw [← hv0];exact hd26
 have hmok:MscOk (⟨⟨((y13.1:Nat):Int),((y17.1:Nat):Int),x24.1,[],0,0,[]⟩,none,0,none,0⟩:Msv).c:=QlS (by omega) (by omega) (QcA.vok hdv) (fun _ h=>nomatch h) QfQ QfQ QcY
 have hend:=Qs4 (m:=(⟨⟨((y13.1:Nat):Int),((y17.1:Nat):Int),x24.1,[],0,0,[]⟩,none,0,none,0⟩:Msv).c) hby hFi9 hHd hdv (by omega) (by omega) rfl
 refine Qa2 (so 98 8) [] [0,1,3,7,15,31,63,127] [pv (Pq p9 0),pv (.bool (QaU y21.2.2.2)),pv (.bool (!(QaU y21.2.2.2))),pv (.bool (!(QaU y21.2.2.2))),pg ((!(QaU y21.2.2.2)) == false) (.agg (msv (⟨⟨((y13.1:Nat):Int),((y17.1:Nat):Int),x24.1,[],0,0,[]⟩,none,0,none,0⟩:Msv)).toArray),pg ((!(QaU y21.2.2.2)) == false) (.bool (Qah (⟨⟨((y13.1:Nat):Int),((y17.1:Nat):Int),x24.1,[],0,0,[]⟩,none,0,none,0⟩:Msv).c)),pg ((!(QaU y21.2.2.2)) == false) (.bool (!(Qah (⟨⟨((y13.1:Nat):Int),((y17.1:Nat):Int),x24.1,[],0,0,[]⟩,none,0,none,0⟩:Msv).c))),pv (.bool ((!(QaU y21.2.2.2))||(!(Qah (⟨⟨((y13.1:Nat):Int),((y17.1:Nat):Int),x24.1,[],0,0,[]⟩,none,0,none,0⟩:Msv).c))))] (fun _ _=>_) [7] (by kernel_rfl) Y ⟨?_,?_,?_,?_,?_,?_,?_,?_,trivial⟩ ?_
 ·exact oi [] fun Y=>Qag (.pointer (some ⟨p9,0,none⟩)) (Zz Y)
 ·exact oi [0] fun Y=>QgB (vs:=[.pointer (some ⟨p9,0,none⟩)]) (V:=.bool (QaU y21.2.2.2)) (R:=rR 281 p9 y21.2.2.2) Qot rfl rfl Y 2 rfl (fun S0 hS0 hl0=>QeG _ S0 p9 y21.2.2.2 hS0 hl0) fun _ Y=>Zz Y
 ·exact oi [1] fun Y=>Qb6 rfl (Zz Y)
 ·exact oi [2] fun Y=>Qag (.bool (!(QaU y21.2.2.2))) (Zz Y)
 ·exact ogi [3] fun hG Y=>Qa1 (cs:=msv (⟨⟨((y13.1:Nat):Int),((y17.1:Nat):Int),x24.1,[],0,0,[]⟩,none,0,none,0⟩:Msv)) QbW Y 3 rfl rfl rfl (Zz Y)
 ·exact oyi [3,4] [4] fun hG Y=>QaH (vs:=[.agg (msv (⟨⟨((y13.1:Nat):Int),((y17.1:Nat):Int),x24.1,[],0,0,[]⟩,none,0,none,0⟩:Msv)).toArray]) (V:=.bool (Qah (⟨⟨((y13.1:Nat):Int),((y17.1:Nat):Int),x24.1,[],0,0,[]⟩,none,0,none,0⟩:Msv).c)) Qn0 rfl rfl (QdK _ (⟨⟨((y13.1:Nat):Int),((y17.1:Nat):Int),x24.1,[],0,0,[]⟩,none,0,none,0⟩:Msv) hmok (.inl (Rd.nil _ 23)) (.inl (Rd.nil _ 1))) Y fun _ Y=>Zz Y
 ·exact oyi [3,5] [5] fun hG Y=>Qb6 rfl (Zz Y)
 ·exact oi [3,6] fun Y=>QbL (h':=!(Qah (⟨⟨((y13.1:Nat):Int),((y17.1:Nat):Int),x24.1,[],0,0,[]⟩,none,0,none,0⟩:Msv).c)) rfl rfl rfl (Zz Y)
 rintro J1 w79 J2 hJ Y
 replace hJ:J2=upd (mix (sq 98 8) J1 _) 105 (.bool ((!(QaU y21.2.2.2))||(!(Qah (⟨⟨((y13.1:Nat):Int),((y17.1:Nat):Int),x24.1,[],0,0,[]⟩,none,0,none,0⟩:Msv).c)))):=hJ
 subst hJ
 refine Qaq (t:=(!(QaU y21.2.2.2))||(!(Qah (⟨⟨((y13.1:Nat):Int),((y17.1:Nat):Int),x24.1,[],0,0,[]⟩,none,0,none,0⟩:Msv).c))) rfl (fun c80=>?_) (fun c80=>?_)
 ·
  refine Qae ?_
  have hno:QcT l mscz 5:=hend.2 (by
        rintro ⟨h1,h2⟩
        have h9:=c80
        rw [h1,h2] at h9
        simp at h9)
  refine Qab (Qaa (Qbi (vs:=[]) (cs:=msv (⟨⟨0,0,vzero,[],0,0,[]⟩,none,0,none,0⟩:Msv)) [[(I6 0:Value)],[(.int .u8 0:Value)],vc vzero,[(.slice none 0 0:Value)],[(I6 0:Value)],[(I6 0:Value)],[(.slice none 0 0:Value)]] [[(I6 0:Value)],[(.int .u8 0:Value)],vc vzero,[(.slice none 0 0:Value)],[(I6 0:Value)],[(I6 0:Value)],[(.slice none 0 0:Value)]] QjX rfl (rfl) rfl rfl (Qaa (QbN (V:=.agg (msv (⟨⟨0,0,vzero,[],0,0,[]⟩,none,0,none,0⟩:Msv)).toArray) (vs:=msv (⟨⟨0,0,vzero,[],0,0,[]⟩,none,0,none,0⟩:Msv)) (cs':=msv (⟨⟨0,0,vzero,[],0,0,[]⟩,none,0,none,0⟩:Msv)) QbW.1 Y 0 rfl rfl rfl rfl rfl (QQ8 rfl) (Qbo _) (Qao rfl) fun w81 Y=>?_))))
  replace Y:=Ow [blk b1 (msv (⟨⟨0,0,vzero,[],0,0,[]⟩,none,0,none,0⟩:Msv)) 38,row (.slice y3.1.1 y3.2.1.length y3.1.2) (y3.2.1.map (ic .u8)) 5 1,rR 281 p9 y21.2.2.2,blk b11 (msv (⟨⟨((y13.1:Nat):Int),((y17.1:Nat):Int),x24.1,[],0,0,[]⟩,none,0,none,0⟩:Msv)) 38,row (.slice y21.1.1 y21.2.1.length y21.1.2) (y21.2.1.map (ic .u8)) 5 1] Y
  refine Qaa (Qak (I6 5) (Qad (Qat ?_)))
  refine ⟨_,QaD (cs:=msv (⟨⟨0,0,vzero,[],0,0,[]⟩,none,0,none,0⟩:Msv)) (V:=I6 5) results26 QbW Y 0 rfl rfl rfl rfl,?_⟩
  exact ⟨((⟨⟨0,0,vzero,[],0,0,[]⟩,none,0,none,0⟩:Msv),5),rfl,((Y.take 0).more (row (.slice none 0 0) (([]:List Opn).map oc) 54 23) (QaK _ _ _ _)).more (row (.slice none 0 0) (([]:Bs).map (ic .u8)) 5 1) (QaK _ _ _ _),hno⟩
 have c80r:=QdH c80
 replace c80:=QdJ c80
 replace c80:=Qa3 c80
 replace c80r:=Qa3 c80r
 refine Qar (Qae ?_)
 have hyes:=hend.1 ⟨c80,c80r⟩
 refine Qab (Qaa (Qa1 (cs:=msv (⟨⟨((y13.1:Nat):Int),((y17.1:Nat):Int),x24.1,[],0,0,[]⟩,none,0,none,0⟩:Msv)) QbW Y 3 rfl rfl rfl (Qaa (QbN (V:=.agg (msv (⟨⟨((y13.1:Nat):Int),((y17.1:Nat):Int),x24.1,[],0,0,[]⟩,none,0,none,0⟩:Msv)).toArray) (vs:=msv (⟨⟨((y13.1:Nat):Int),((y17.1:Nat):Int),x24.1,[],0,0,[]⟩,none,0,none,0⟩:Msv)) (cs':=msv (⟨⟨((y13.1:Nat):Int),((y17.1:Nat):Int),x24.1,[],0,0,[]⟩,none,0,none,0⟩:Msv)) QbW.1 Y 0 rfl rfl rfl rfl rfl (QQ8 rfl) (Qbo _) (Qao rfl) fun w82 Y=>?_))))
 replace Y:=Ow [blk b1 (msv (⟨⟨((y13.1:Nat):Int),((y17.1:Nat):Int),x24.1,[],0,0,[]⟩,none,0,none,0⟩:Msv)) 38,row (.slice y3.1.1 y3.2.1.length y3.1.2) (y3.2.1.map (ic .u8)) 5 1,rR 281 p9 y21.2.2.2,blk b11 (msv (⟨⟨((y13.1:Nat):Int),((y17.1:Nat):Int),x24.1,[],0,0,[]⟩,none,0,none,0⟩:Msv)) 38,row (.slice y21.1.1 y21.2.1.length y21.1.2) (y21.2.1.map (ic .u8)) 5 1] Y
 refine Qaa (Qak (I6 0) (Qad (Qat ?_)))
 refine ⟨_,QaD (cs:=msv (⟨⟨((y13.1:Nat):Int),((y17.1:Nat):Int),x24.1,[],0,0,[]⟩,none,0,none,0⟩:Msv)) (V:=I6 0) results26 QbW Y 0 rfl rfl rfl rfl,?_⟩
 replace Y:=(Y.more (row (.slice none 0 0) (([]:List Opn).map oc) 54 23) (QaK _ _ _ _)).more (row (.slice none 0 0) (([]:Bs).map (ic .u8)) 5 1) (QaK _ _ _ _)
 exact ⟨((⟨⟨((y13.1:Nat):Int),((y17.1:Nat):Int),x24.1,[],0,0,[]⟩,none,0,none,0⟩:Msv),0),rfl,Y.sel [5,6] (by decide) rfl,hyes⟩
end Tt
end Go.Proofs
namespace Go.Proofs
open Go Go.Vx Go.RowKit
open Tryz
namespace Tt
theorem QoS (w:World) (a:Option Addr) (c:Nat) (l:Bs) (hby:QaZ l) (hl:l.length<=800000) (hr:Rd w (.slice a l.length c) 1 (l.map (ic .u8))):Calls prog 169 #[.slice a l.length c] w (fun e w'=>∃ x:Opn × Nat,e = .returned (.tuple #[.agg (oc x.1).toArray,.int .i64 ((x.2:Nat):Int)])/\Own w no w' []/\Qef l x.1 x.2):=by
 refine Qal (n:=98) func169 rfl ntmps169 rfl ?_
 have Y:=Own.start w
 have hn:=hr.sml
 obtain ⟨x0,hx0⟩:∃ x:Rdv,x=⟨a,c,0,l⟩:=⟨_,rfl⟩
 have h0x:x0.ok w:=by rw [hx0];exact ⟨hr,hby,by show (0:Int)<=0;omega⟩
 have h0r:x0.r=⟨0,l⟩:=by rw [hx0];rfl
 refine Qae (Qab (Qaa (QaX (cs:=oc (⟨(⟨0,0⟩:Dot),0,0,0,0,0,vzero⟩:Opn)) QjS rfl Y fun b1 w2 Y=>(Qaa (Qak (I6 0) (Qad (Qae (Qab (Qaa (Qag (.slice a l.length c) (Qaa (Qas (V:=.agg (rve (⟨a,c,0,l⟩:Rdv)).toArray) (V':=.agg (rve x0).toArray) (Qbz (vs:=[(0,.slice a l.length c)]) (cs:=rve (⟨a,c,0,l⟩:Rdv)) QnG (rfl) rfl ⟨rfl,rfl⟩) (by rw [hx0]<;>rfl) (Qaa (QaX (cs:=rve (⟨none,0,0,[]⟩:Rdv)) Qda rfl Y fun b3 w4 Y=>(Qaa (QbN (V:=.agg (rve x0).toArray) (vs:=rve x0) (cs':=rve x0) QaW.1 Y 1 rfl rfl rfl rfl rfl (QQ8 rfl) (Qbn _) (Qao rfl) fun w5 Y=>(Qad (Qae (Qab (Qaa (Qak (.slice none 0 0) (Qad (Qae (Qae (Qab (Qaa (Qak (I6 0) (Qad (Qay ?_)))))))))))))))))))))))))))))
 replace Y:=Y.more (row (.slice none 0 0) (List.map (ic .u64) []) 65 1) (QaK _ _ _ _)
 refine Qbb (fun J μ J' w'=>∃ (Jo:Env) (k:Nat) (y:Rdv) (ab9:Option Addr) (cb9:Nat) (Q:List Int),J'=upd (upd (mix ([3,5,6,7,8,9]++sq 18 18) Jo J) 6 (I6 (k:Int))) 5 (.slice ab9 Q.length cb9)/\(k<=7)/\(y.ok w)/\(y.l.length<=800000)/\(QfC y.r l k)/\(QK Q l k)/\μ=7-k/\Own w no w' [blk b1 (oc (⟨(⟨0,0⟩:Dot),0,0,0,0,0,vzero⟩:Opn)) 54,blk b3 (rve y) 174,row (.slice ab9 Q.length cb9) (Q.map (ic .u64)) 65 1]) ?_ ?_
 ·exact ⟨_,_,0,x0,none,0,[],Qaw (Qaw (QaN (ds:=([3,5,6,7,8,9]++sq 18 18)) (Agr.refl _ _)) rfl) rfl,(by omega),h0x,(by rw [hx0];exact hl),(by rw [h0r];exact QfC.zero l),(QK.zero l),rfl,Y⟩
 rintro μ J' w6 ⟨Jo,k,y,ab9,cb9,Q,rfl,hk,hy,hyl,hyr,hQ,rfl,Y⟩
 have hQl:=hQ.len
 refine Qae (Qae (Qab (Qaa (Qag (I6 (k:Int)) (Qaa (QbQ rfl rfl (Qad (Qaq (t:=decide ((k:Int)<7)) rfl (fun c7=>?_) (fun c7=>?_)))))))))
 ·
  replace c7:=QQ1 c7
  refine Qar (Qae (Qay (Qae (Qab (Qaa (Qa1 (cs:=rve y) QaW Y 1 rfl rfl rfl (Qaa (QaH (vs:=[.agg (rve y).toArray]) (V:=.tuple #[.agg (rve y.num).toArray,.int .u64 (((Qaj y.r).1:Nat):Int),I6 (((Qaj y.r).2.1:Nat):Int)]) QhR rfl rfl ?hc Y fun w8 Y=>?_))))))))
  case hc=>exact (Qhd _ y (Rdv.own hy Y) (by omega))
  refine Qaa (Qag (.tuple #[.agg (rve y.num).toArray,.int .u64 (((Qaj y.r).1:Nat):Int),I6 (((Qaj y.r).2.1:Nat):Int)]) (Qaa (Qaf (V:=.agg (rve y.num).toArray) rfl rfl (Qaa (Qaf (V:=.int .u64 (((Qaj y.r).1:Nat):Int)) rfl rfl (Qaa (Qaf (V:=I6 (((Qaj y.r).2.1:Nat):Int)) rfl rfl (Qaa (QaX (cs:=rve (⟨none,0,0,[]⟩:Rdv)) Qda rfl Y fun b9 w10 Y=>(Qaa (QbN (V:=.agg (rve y.num).toArray) (vs:=rve y.num) (cs':=rve y.num) QaW.1 Y 3 rfl rfl rfl rfl rfl (QQ8 rfl) (Qbn _) (Qao rfl) fun w11 Y=>(Qaa (Qak (.int .u64 (((Qaj y.r).1:Nat):Int)) (Qaa (Qak (I6 (((Qaj y.r).2.1:Nat):Int)) (Qad (Qae (Qae (Qab (Qaa (Qag (I6 (((Qaj y.r).2.1:Nat):Int)) (Qaa (QbM rfl rfl (Qad (Qaq (t:=!decide ((((Qaj y.r).2.1:Nat):Int)=0)) rfl (fun c12=>?_) (fun c12=>?_))))))))))))))))))))))))))
  ·
   replace c12:=Qcb c12
   replace c12:=QQ2 c12
   refine Qae ?_
   have hno:Qef l Qhg 5:=QgR fun u hu=>by
    have q1:=(Qqz hu).1 (k+1) (by omega)
    have q2:(Qaj y.r).2.1=(Qaj y.r).2.2.e:=Qc2
    rw [hyr.nexte,q1] at q2
    omega
   refine Qab (Qaa (Qbi (vs:=[]) (cs:=oc (⟨(⟨0,0⟩:Dot),0,0,0,0,0,vzero⟩:Opn)) [dc (⟨0,0⟩:Dot),[(.int .u8 0:Value)],[(I7 0:Value)],[(I7 0:Value)],[(I7 0:Value)],[(.int .u32 0:Value)],vc vzero] [dc (⟨0,0⟩:Dot),[(.int .u8 0:Value)],[(I7 0:Value)],[(I7 0:Value)],[(I7 0:Value)],[(.int .u32 0:Value)],vc vzero] Qkb rfl (rfl) rfl rfl (Qaa (QbN (V:=.agg (oc (⟨(⟨0,0⟩:Dot),0,0,0,0,0,vzero⟩:Opn)).toArray) (vs:=oc (⟨(⟨0,0⟩:Dot),0,0,0,0,0,vzero⟩:Opn)) (cs':=oc (⟨(⟨0,0⟩:Dot),0,0,0,0,0,vzero⟩:Opn)) Qbp.1 Y 0 rfl rfl rfl rfl rfl (QQ8 rfl) (QcB _) (Qao rfl) fun w13 Y=>(Qaa (Qak (I6 5) (Qad (Qat ?_))))))))
   refine ⟨_,QaD (cs:=oc (⟨(⟨0,0⟩:Dot),0,0,0,0,0,vzero⟩:Opn)) (V:=I6 5) results169 Qbp Y 0 rfl rfl rfl rfl,?_⟩
   exact ⟨(Qhg,5),rfl,Y.take 0,hno⟩
  replace c12:=Qa3 c12
  replace c12:=QQ1 c12
  refine Qar (Qae (Qab (Qaa (Qa1 (cs:=rve y.num) QaW Y 3 rfl rfl rfl (Qaa (QbN (V:=.agg (rve y.num).toArray) (vs:=rve y.num) (cs':=rve y.num) QaW.1 Y 1 rfl rfl rfl rfl rfl (QQ8 rfl) (Qbn _) (Qao rfl) fun w14 Y=>(Qad (Qab (Qaa (Qag (.slice ab9 Q.length cb9) (Qaa (Qag (.int .u64 (((Qaj y.r).1:Nat):Int)) (Qaa (Ql2 (vals:=[.int .u64 (((Qaj y.r).1:Nat):Int)]) (ls:=List.map (ic .u64) ([(((Qaj y.r).1:Nat):Int)]:List Int)) Qnb rfl rfl rfl (Qb3 (enc:=(ic .u64)) (fun _=>rfl) _) (QaV (Qbj .u64) _) (QQ8 rfl) Y fun b15 w16 Y=>(Qaa (QbH (ls':=(Q++[(((Qaj y.r).1:Nat):Int)]).map (ic .u64)) (n:=(Q++[(((Qaj y.r).1:Nat):Int)]).length) Qnb Y 2 rfl rfl rfl (Y.rd 4 rfl) (QaV (Qbj .u64) _) (by simp only [QQ6,QQ7,List.length_cons,List.length_nil];omega) (by simp) (by simp) fun a17 c17 w18 Y=>(Qaa (Qak (.slice a17 ((Q++[(((Qaj y.r).1:Nat):Int)]).length) c17) (Qad (Qab (Qaa (Qag (I6 (k:Int)) (Qaa (Qbx (a:=(k:Int)) (b:=1) (c:=((k+1:Nat):Int)) rfl rfl (QaS (by omega) (by omega)) (Qaa (Qak (I6 ((k+1:Nat):Int)) (Qad ?_)))))))))))))))))))))))))))
  refine ⟨_,?_,_,k+1,y.num,a17,c17,Q++[(((Qaj y.r).1:Nat):Int)],Qaw (Qaw (QaN (ds:=([3,5,6,7,8,9]++sq 18 18)) (by repeat (first|exact Agr.refl _ _|refine Agr.upd ?_ rfl|refine Agr.mix ?_ rfl))) rfl) rfl,(by omega),(Rdv.num_ok hy),(Nat.le_trans (Rdv.num_len hy) hyl),(by rw [Rdv.num_r hy];exact hyr.next),(hQ.next hyr),rfl,Y.take 3⟩
  omega
 replace c7:=QQ2 c7
 refine Qbs (Qae ?_)
 have hk7:k=7:=by omega
 have hyr7:y.r=rdN l 7:=by rw [← hk7];exact hyr
 refine Qab (Qaa (Qa1 (cs:=rve y) QaW Y 1 rfl rfl rfl (Qaa (QaH (vs:=[.agg (rve y).toArray]) (V:=.tuple #[.agg (rve y.byt).toArray,.slice y.ba ((QaT y.r).1.length) y.bc,I6 (((QaT y.r).2.1:Nat):Int)]) Qp6 rfl rfl ?hc Y fun w19 Y=>?_))))
 case hc=>exact (QiK _ y (Rdv.own hy Y) (by omega))
 refine Qaa (Qag (.tuple #[.agg (rve y.byt).toArray,.slice y.ba ((QaT y.r).1.length) y.bc,I6 (((QaT y.r).2.1:Nat):Int)]) (Qaa (Qaf (V:=.agg (rve y.byt).toArray) rfl rfl (Qaa (Qaf (V:=.slice y.ba ((QaT y.r).1.length) y.bc) rfl rfl (Qaa (Qaf (V:=I6 (((QaT y.r).2.1:Nat):Int)) rfl rfl (Qaa (QaX (cs:=rve (⟨none,0,0,[]⟩:Rdv)) Qda rfl Y fun b20 w21 Y=>(Qaa (QbN (V:=.agg (rve y.byt).toArray) (vs:=rve y.byt) (cs':=rve y.byt) QaW.1 Y 3 rfl rfl rfl rfl rfl (QQ8 rfl) (Qbn _) (Qao rfl) fun w22 Y=>(Qaa (Qak (.slice y.ba ((QaT y.r).1.length) y.bc) (Qaa (Qak (I6 (((QaT y.r).2.1:Nat):Int)) (Qad (Qae (Qae (Qab (Qaa (Qag (I6 (((QaT y.r).2.1:Nat):Int)) (Qaa (QbM rfl rfl (Qad (Qaq (t:=!decide ((((QaT y.r).2.1:Nat):Int)=0)) rfl (fun c23=>?_) (fun c23=>?_))))))))))))))))))))))))))
 ·
  replace c23:=Qcb c23
  replace c23:=QQ2 c23
  refine Qae ?_
  have hno:Qef l Qhg 5:=QgR fun u hu=>by
   have q2:=(Qrf hyr7 hu).2.1
   have q3:(QaT y.r).2.1=0:=by rw [q2]
   omega
  refine Qab (Qaa (Qbi (vs:=[]) (cs:=oc (⟨(⟨0,0⟩:Dot),0,0,0,0,0,vzero⟩:Opn)) [dc (⟨0,0⟩:Dot),[(.int .u8 0:Value)],[(I7 0:Value)],[(I7 0:Value)],[(I7 0:Value)],[(.int .u32 0:Value)],vc vzero] [dc (⟨0,0⟩:Dot),[(.int .u8 0:Value)],[(I7 0:Value)],[(I7 0:Value)],[(I7 0:Value)],[(.int .u32 0:Value)],vc vzero] Qkb rfl (rfl) rfl rfl (Qaa (QbN (V:=.agg (oc (⟨(⟨0,0⟩:Dot),0,0,0,0,0,vzero⟩:Opn)).toArray) (vs:=oc (⟨(⟨0,0⟩:Dot),0,0,0,0,0,vzero⟩:Opn)) (cs':=oc (⟨(⟨0,0⟩:Dot),0,0,0,0,0,vzero⟩:Opn)) Qbp.1 Y 0 rfl rfl rfl rfl rfl (QQ8 rfl) (QcB _) (Qao rfl) fun w24 Y=>(Qaa (Qak (I6 5) (Qad (Qat ?_))))))))
  refine ⟨_,QaD (cs:=oc (⟨(⟨0,0⟩:Dot),0,0,0,0,0,vzero⟩:Opn)) (V:=I6 5) results169 Qbp Y 0 rfl rfl rfl rfl,?_⟩
  exact ⟨(Qhg,5),rfl,Y.take 0,hno⟩
 replace c23:=Qa3 c23
 replace c23:=QQ1 c23
 refine Qar (Qae (Qab (Qaa (Qag (.slice y.ba ((QaT y.r).1.length) y.bc) (Qaa (Qax (vs:=[.slice y.ba ((QaT y.r).1.length) y.bc]) (V:=fun x:Vec × Nat=>.tuple #[.agg (vc x.1).toArray,I6 ((x.2:Nat):Int)]) QtT rfl rfl (Qlj _ y.ba y.bc ((QaT y.r).1) (Qcg hy.2.1).2 (Nat.le_trans QlP.2 (Nat.le_trans hyl (by decide))) (Rd.own' (Rdv.byt_ok hy).2.2 Y)) Y fun x25 w26 Y hd27=>?_))))))
 refine Qaa (Qag (.tuple #[.agg (vc x25.1).toArray,I6 ((x25.2:Nat):Int)]) (Qaa (Qaf (V:=.agg (vc x25.1).toArray) rfl rfl (Qaa (Qaf (V:=I6 ((x25.2:Nat):Int)) rfl rfl (Qaa (QaX (cs:=vc vzero) Ql5 rfl Y fun b28 w29 Y=>(Qaa (QbN (V:=.agg (vc x25.1).toArray) (vs:=vc x25.1) (cs':=vc x25.1) QbC.1 Y 4 rfl rfl rfl rfl rfl (QQ8 rfl) (QdC _) (Qao rfl) fun w30 Y=>(Qaa (Qak (I6 ((x25.2:Nat):Int)) (Qad ?_))))))))))))
 have hdv9:=hd27
 rw [hyr7] at hdv9
 have hof:=Qs6 hdv9
 refine Qae (Qae (Qab (Qaa (Qag (I6 ((x25.2:Nat):Int)) (Qaa (QbM rfl rfl (Qad (Qaq (t:=!decide (((x25.2:Nat):Int)=0)) rfl (fun c31=>?_) (fun c31=>?_)))))))))
 ·
  replace c31:=Qcb c31
  replace c31:=QQ2 c31
  refine Qae ?_
  have hno:Qef l Qhg 5:=hof.2 (by rintro ⟨h1,_⟩;omega)
  refine Qab (Qaa (Qbi (vs:=[]) (cs:=oc (⟨(⟨0,0⟩:Dot),0,0,0,0,0,vzero⟩:Opn)) [dc (⟨0,0⟩:Dot),[(.int .u8 0:Value)],[(I7 0:Value)],[(I7 0:Value)],[(I7 0:Value)],[(.int .u32 0:Value)],vc vzero] [dc (⟨0,0⟩:Dot),[(.int .u8 0:Value)],[(I7 0:Value)],[(I7 0:Value)],[(I7 0:Value)],[(.int .u32 0:Value)],vc vzero] Qkb rfl (rfl) rfl rfl (Qaa (QbN (V:=.agg (oc (⟨(⟨0,0⟩:Dot),0,0,0,0,0,vzero⟩:Opn)).toArray) (vs:=oc (⟨(⟨0,0⟩:Dot),0,0,0,0,0,vzero⟩:Opn)) (cs':=oc (⟨(⟨0,0⟩:Dot),0,0,0,0,0,vzero⟩:Opn)) Qbp.1 Y 0 rfl rfl rfl rfl rfl (QQ8 rfl) (QcB _) (Qao rfl) fun w32 Y=>(Qaa (Qak (I6 5) (Qad (Qat ?_))))))))
  refine ⟨_,QaD (cs:=oc (⟨(⟨0,0⟩:Dot),0,0,0,0,0,vzero⟩:Opn)) (V:=I6 5) results169 Qbp Y 0 rfl rfl rfl rfl,?_⟩
  exact ⟨(Qhg,5),rfl,Y.take 0,hno⟩
 replace c31:=Qa3 c31
 replace c31:=QQ1 c31
 refine Qar (Qae ?_)
 have hQ7:QK Q l 7:=by rw [← hk7];exact hQ
 have hQl:=hQ.len
 obtain ⟨n0,hn0,hq0⟩:=hQ7.at_ 0 (by omega)
 obtain ⟨n1,hn1,hq1⟩:=hQ7.at_ 1 (by omega)
 obtain ⟨n2,hn2,hq2⟩:=hQ7.at_ 2 (by omega)
 obtain ⟨n3,hn3,hq3⟩:=hQ7.at_ 3 (by omega)
 obtain ⟨n4,hn4,hq4⟩:=hQ7.at_ 4 (by omega)
 obtain ⟨n5,hn5,hq5⟩:=hQ7.at_ 5 (by omega)
 obtain ⟨n6,hn6,hq6⟩:=hQ7.at_ 6 (by omega)
 replace Y:=Y.more emp trivial
 refine Qcm HM (so 53 22++[some 15,none]) [[],[],[],[],[],[],[],[],[],[],[],[],[],[],[],[],[],[],[],[],[],[],[15]] [0,1,3,7,0,16,48,112,0,256,768,1792,0,4096,12288,28672,0,65536,196608,458752,0,2097151,0,8388607] [pv (.slice ab9 Q.length cb9),pv (.pointer (some ⟨bkS (.slice ab9 Q.length cb9),ofS (.slice ab9 Q.length cb9)+(2:Int).toNat*1,none⟩)),pv (.int .u64 (gd Q 2)),pv (.int .u8 ((n2%256:Nat):Int)),pv (.slice ab9 Q.length cb9),pv (.pointer (some ⟨bkS (.slice ab9 Q.length cb9),ofS (.slice ab9 Q.length cb9)+(3:Int).toNat*1,none⟩)),pv (.int .u64 (gd Q 3)),pv (I7 ((n3%65536:Nat):Int)),pv (.slice ab9 Q.length cb9),pv (.pointer (some ⟨bkS (.slice ab9 Q.length cb9),ofS (.slice ab9 Q.length cb9)+(4:Int).toNat*1,none⟩)),pv (.int .u64 (gd Q 4)),pv (I7 ((n4%65536:Nat):Int)),pv (.slice ab9 Q.length cb9),pv (.pointer (some ⟨bkS (.slice ab9 Q.length cb9),ofS (.slice ab9 Q.length cb9)+(5:Int).toNat*1,none⟩)),pv (.int .u64 (gd Q 5)),pv (I7 ((n5%65536:Nat):Int)),pv (.slice ab9 Q.length cb9),pv (.pointer (some ⟨bkS (.slice ab9 Q.length cb9),ofS (.slice ab9 Q.length cb9)+(6:Int).toNat*1,none⟩)),pv (.int .u64 (gd Q 6)),pv (.int .u32 ((n6%4294967296:Nat):Int)),pv (.agg (vc x25.1).toArray),pv (.agg (oc (⟨(⟨0,0⟩:Dot),((n2%256:Nat):Int),((n3%65536:Nat):Int),((n4%65536:Nat):Int),((n5%65536:Nat):Int),((n6%4294967296:Nat):Int),x25.1⟩:Opn)).toArray),(true,fun J=>.pointer (some ⟨(bOf (J 15)),0,none⟩)),pn] (fun D J=>[blk b1 (oc (⟨(⟨0,0⟩:Dot),0,0,0,0,0,vzero⟩:Opn)) 54,blk b3 (rve y) 174,row (.slice ab9 Q.length cb9) (Q.map (ic .u64)) 65 1,blk b20 (rve y.byt) 174,blk b28 (vc x25.1) 36,cond (D 23) (blk (bOf (J 15)) (oc (⟨(⟨0,0⟩:Dot),((n2%256:Nat):Int),((n3%65536:Nat):Int),((n4%65536:Nat):Int),((n5%65536:Nat):Int),((n6%4294967296:Nat):Int),x25.1⟩:Opn)) 54) (cond (D 22) (blk (bOf (J 15)) (oc (⟨(⟨0,0⟩:Dot),0,0,0,0,0,vzero⟩:Opn)) 54) (emp))]) [22] (by kernel_rfl) Y ⟨?_,?_,?_,?_,?_,?_,?_,?_,?_,?_,?_,?_,?_,?_,?_,?_,?_,?_,?_,?_,?_,?_,?_,?_,trivial⟩ ?_
 ·exact oi [] fun Y=>Qag (.slice ab9 Q.length cb9) (Zz Y)
 ·exact oi [0] fun Y=>QcJ Qe5 QdR.1 (Y.rd 2 rfl) rfl rfl (by decide) (by rw [QQ6];omega) (Zz Y)
 ·exact oi [1] fun Y=>QdX (j:=0) (V:=.int .u64 (gd Q 2)) 2 QdR (Y.rd 2 rfl) (QcN (by omega)) rfl rfl (by omega) (Zz Y)
 ·exact oi [2] fun Y=>Qas (V:=.int .u8 ((gd Q 2)%256)) (V':=.int .u8 ((n2%256:Nat):Int)) (QaB Qa6 Qfe rfl (QhY _) ⟨rfl,rfl⟩) (congrArg (Value.int .u8) (by rw [hq2]<;>omega)) (Zz Y)
 ·exact oi [] fun Y=>Qag (.slice ab9 Q.length cb9) (Zz Y)
 ·exact oi [4] fun Y=>QcJ Qe5 QdR.1 (Y.rd 2 rfl) rfl rfl (by decide) (by rw [QQ6];omega) (Zz Y)
 ·exact oi [5] fun Y=>QdX (j:=0) (V:=.int .u64 (gd Q 3)) 3 QdR (Y.rd 2 rfl) (QcN (by omega)) rfl rfl (by omega) (Zz Y)
 ·exact oi [6] fun Y=>Qas (V:=.int .u16 ((gd Q 3)%65536)) (V':=.int .u16 ((n3%65536:Nat):Int)) (QaB Qa6 QfP rfl (QhA _) ⟨rfl,rfl⟩) (congrArg (Value.int .u16) (by rw [hq3]<;>omega)) (Zz Y)
 ·exact oi [] fun Y=>Qag (.slice ab9 Q.length cb9) (Zz Y)
 ·exact oi [8] fun Y=>QcJ Qe5 QdR.1 (Y.rd 2 rfl) rfl rfl (by decide) (by rw [QQ6];omega) (Zz Y)
 ·exact oi [9] fun Y=>QdX (j:=0) (V:=.int .u64 (gd Q 4)) 4 QdR (Y.rd 2 rfl) (QcN (by omega)) rfl rfl (by omega) (Zz Y)
 ·exact oi [10] fun Y=>Qas (V:=.int .u16 ((gd Q 4)%65536)) (V':=.int .u16 ((n4%65536:Nat):Int)) (QaB Qa6 QfP rfl (QhA _) ⟨rfl,rfl⟩) (congrArg (Value.int .u16) (by rw [hq4]<;>omega)) (Zz Y)
 ·exact oi [] fun Y=>Qag (.slice ab9 Q.length cb9) (Zz Y)
 ·exact oi [12] fun Y=>QcJ Qe5 QdR.1 (Y.rd 2 rfl) rfl rfl (by decide) (by rw [QQ6];omega) (Zz Y)
 ·exact oi [13] fun Y=>QdX (j:=0) (V:=.int .u64 (gd Q 5)) 5 QdR (Y.rd 2 rfl) (QcN (by omega)) rfl rfl (by omega) (Zz Y)
 ·exact oi [14] fun Y=>Qas (V:=.int .u16 ((gd Q 5)%65536)) (V':=.int .u16 ((n5%65536:Nat):Int)) (QaB Qa6 QfP rfl (QhA _) ⟨rfl,rfl⟩) (congrArg (Value.int .u16) (by rw [hq5]<;>omega)) (Zz Y)
 ·exact oi [] fun Y=>Qag (.slice ab9 Q.length cb9) (Zz Y)
 ·exact oi [16] fun Y=>QcJ Qe5 QdR.1 (Y.rd 2 rfl) rfl rfl (by decide) (by rw [QQ6];omega) (Zz Y)
 ·exact oi [17] fun Y=>QdX (j:=0) (V:=.int .u64 (gd Q 6)) 6 QdR (Y.rd 2 rfl) (QcN (by omega)) rfl rfl (by omega) (Zz Y)
 ·exact oi [18] fun Y=>Qas (V:=.int .u32 ((gd Q 6)%4294967296)) (V':=.int .u32 ((n6%4294967296:Nat):Int)) (QaB Qa6 Qdx rfl (QiM _) ⟨rfl,rfl⟩) (congrArg (Value.int .u32) (by rw [hq6]<;>omega)) (Zz Y)
 ·exact oi [] fun Y=>Qa1 (cs:=vc x25.1) QbC Y 4 rfl rfl rfl (Zz Y)
 ·exact oi [3,7,11,15,19,20] fun Y=>Qbi (vs:=[(1,.int .u8 ((n2%256:Nat):Int)),(2,.int .u16 ((n3%65536:Nat):Int)),(3,.int .u16 ((n4%65536:Nat):Int)),(4,.int .u16 ((n5%65536:Nat):Int)),(5,.int .u32 ((n6%4294967296:Nat):Int)),(6,.agg (vc x25.1).toArray)]) (cs:=oc (⟨(⟨0,0⟩:Dot),((n2%256:Nat):Int),((n3%65536:Nat):Int),((n4%65536:Nat):Int),((n5%65536:Nat):Int),((n6%4294967296:Nat):Int),x25.1⟩:Opn)) [dc (⟨0,0⟩:Dot),[(.int .u8 0:Value)],[(.int .u16 0:Value)],[(.int .u16 0:Value)],[(.int .u16 0:Value)],[(.int .u32 0:Value)],vc vzero] [dc (⟨0,0⟩:Dot),[(.int .u8 ((n2%256:Nat):Int):Value)],[(.int .u16 ((n3%65536:Nat):Int):Value)],[(.int .u16 ((n4%65536:Nat):Int):Value)],[(.int .u16 ((n5%65536:Nat):Int):Value)],[(.int .u32 ((n6%4294967296:Nat):Int):Value)],vc x25.1] Qkb rfl (rfl) rfl rfl (Zz Y)
 ·exact ob [] [23] rfl rfl fun D J w Y=>QaX (cs:=oc (⟨(⟨0,0⟩:Dot),0,0,0,0,0,vzero⟩:Opn)) QjS rfl Y fun _ _ Y=>⟨rfl,Y.put 5 (QQ8 rfl)⟩
 ·exact oi [21,22] fun Y=>QbN (V:=.agg (oc (⟨(⟨0,0⟩:Dot),((n2%256:Nat):Int),((n3%65536:Nat):Int),((n4%65536:Nat):Int),((n5%65536:Nat):Int),((n6%4294967296:Nat):Int),x25.1⟩:Opn)).toArray) (vs:=oc (⟨(⟨0,0⟩:Dot),((n2%256:Nat):Int),((n3%65536:Nat):Int),((n4%65536:Nat):Int),((n5%65536:Nat):Int),((n6%4294967296:Nat):Int),x25.1⟩:Opn)) (cs':=oc (⟨(⟨0,0⟩:Dot),((n2%256:Nat):Int),((n3%65536:Nat):Int),((n4%65536:Nat):Int),((n5%65536:Nat):Int),((n6%4294967296:Nat):Int),x25.1⟩:Opn)) Qbp.1 Y 5 rfl rfl rfl rfl rfl (QQ8 rfl) (QcB _) (Qao rfl) fun _ Y=>⟨trivial,Y⟩
 rintro J1 w35 J2 hJ Y
 replace hJ:J2=upd (mix (sq 53 22++[15]) J1 _) 15 (.pointer (some ⟨(bOf (J1 15)),0,none⟩)):=hJ
 replace Y:Own w no w35 [blk b1 (oc (⟨(⟨0,0⟩:Dot),0,0,0,0,0,vzero⟩:Opn)) 54,blk b3 (rve y) 174,row (.slice ab9 Q.length cb9) (Q.map (ic .u64)) 65 1,blk b20 (rve y.byt) 174,blk b28 (vc x25.1) 36,blk (bOf (J1 15)) (oc (⟨(⟨0,0⟩:Dot),((n2%256:Nat):Int),((n3%65536:Nat):Int),((n4%65536:Nat):Int),((n5%65536:Nat):Int),((n6%4294967296:Nat):Int),x25.1⟩:Opn)) 54]:=Y
 generalize (bOf (J1 15))=b36 at hJ Y
 subst hJ
 refine Qae (Qcm HM (so 75 10++[none]) [] [0,1,3,7,0,16,48,112,255,511,1023] [pv (.slice ab9 Q.length cb9),pv (.pointer (some ⟨bkS (.slice ab9 Q.length cb9),ofS (.slice ab9 Q.length cb9)+(0:Int).toNat*1,none⟩)),pv (.int .u64 (gd Q 0)),pv (.int .u8 ((n0%256:Nat):Int)),pv (.slice ab9 Q.length cb9),pv (.pointer (some ⟨bkS (.slice ab9 Q.length cb9),ofS (.slice ab9 Q.length cb9)+(1:Int).toNat*1,none⟩)),pv (.int .u64 (gd Q 1)),pv (.int .u32 ((n1%4294967296:Nat):Int)),pv (.agg (dc (⟨((n0%256:Nat):Int),((n1%4294967296:Nat):Int)⟩:Dot)).toArray),pv (Pq b36 (0+0)),pn] (fun D J=>[blk b1 (oc (⟨(⟨0,0⟩:Dot),0,0,0,0,0,vzero⟩:Opn)) 54,blk b3 (rve y) 174,row (.slice ab9 Q.length cb9) (Q.map (ic .u64)) 65 1,blk b20 (rve y.byt) 174,blk b28 (vc x25.1) 36,cond (D 10) (blk b36 (oc (⟨(⟨((n0%256:Nat):Int),((n1%4294967296:Nat):Int)⟩:Dot),((n2%256:Nat):Int),((n3%65536:Nat):Int),((n4%65536:Nat):Int),((n5%65536:Nat):Int),((n6%4294967296:Nat):Int),x25.1⟩:Opn)) 54) (blk b36 (oc (⟨(⟨0,0⟩:Dot),((n2%256:Nat):Int),((n3%65536:Nat):Int),((n4%65536:Nat):Int),((n5%65536:Nat):Int),((n6%4294967296:Nat):Int),x25.1⟩:Opn)) 54)]) [] (by kernel_rfl) Y ⟨?_,?_,?_,?_,?_,?_,?_,?_,?_,?_,?_,trivial⟩ ?_)
 ·exact oi [] fun Y=>Qag (.slice ab9 Q.length cb9) (Zz Y)
 ·exact oi [0] fun Y=>QcJ Qe5 QdR.1 (Y.rd 2 rfl) rfl rfl (by decide) (by rw [QQ6];omega) (Zz Y)
 ·exact oi [1] fun Y=>QdX (j:=0) (V:=.int .u64 (gd Q 0)) 0 QdR (Y.rd 2 rfl) (QcN (by omega)) rfl rfl (by omega) (Zz Y)
 ·exact oi [2] fun Y=>Qas (V:=.int .u8 ((gd Q 0)%256)) (V':=.int .u8 ((n0%256:Nat):Int)) (QaB Qa6 Qfe rfl (QhY _) ⟨rfl,rfl⟩) (congrArg (Value.int .u8) (by rw [hq0]<;>omega)) (Zz Y)
 ·exact oi [] fun Y=>Qag (.slice ab9 Q.length cb9) (Zz Y)
 ·exact oi [4] fun Y=>QcJ Qe5 QdR.1 (Y.rd 2 rfl) rfl rfl (by decide) (by rw [QQ6];omega) (Zz Y)
 ·exact oi [5] fun Y=>QdX (j:=0) (V:=.int .u64 (gd Q 1)) 1 QdR (Y.rd 2 rfl) (QcN (by omega)) rfl rfl (by omega) (Zz Y)
 ·exact oi [6] fun Y=>Qas (V:=.int .u32 ((gd Q 1)%4294967296)) (V':=.int .u32 ((n1%4294967296:Nat):Int)) (QaB Qa6 Qdx rfl (QiM _) ⟨rfl,rfl⟩) (congrArg (Value.int .u32) (by rw [hq1]<;>omega)) (Zz Y)
 ·exact oi [3,7] fun Y=>Qbz (vs:=[(0,.int .u8 ((n0%256:Nat):Int)),(1,.int .u32 ((n1%4294967296:Nat):Int))]) (cs:=dc (⟨((n0%256:Nat):Int),((n1%4294967296:Nat):Int)⟩:Dot)) Qvf (rfl) rfl (Zz Y)
 ·exact oi [] fun Y=>Qac Qcq rfl (Zz Y)
 ·exact oi [8,9] fun Y=>QbN (V:=.agg (dc (⟨((n0%256:Nat):Int),((n1%4294967296:Nat):Int)⟩:Dot)).toArray) (vs:=dc (⟨((n0%256:Nat):Int),((n1%4294967296:Nat):Int)⟩:Dot)) (cs':=oc (⟨(⟨((n0%256:Nat):Int),((n1%4294967296:Nat):Int)⟩:Dot),((n2%256:Nat):Int),((n3%65536:Nat):Int),((n4%65536:Nat):Int),((n5%65536:Nat):Int),((n6%4294967296:Nat):Int),x25.1⟩:Opn)) Ql4.1 Y 5 rfl rfl rfl rfl rfl (QQ8 rfl) (QqL _) rfl fun _ Y=>⟨trivial,Y⟩
 rintro J1 w38 J2 hJ Y
 replace hJ:J2=mix (sq 75 10) J1 _:=hJ
 replace Y:Own w no w38 [blk b1 (oc (⟨(⟨0,0⟩:Dot),0,0,0,0,0,vzero⟩:Opn)) 54,blk b3 (rve y) 174,row (.slice ab9 Q.length cb9) (Q.map (ic .u64)) 65 1,blk b20 (rve y.byt) 174,blk b28 (vc x25.1) 36,blk b36 (oc (⟨(⟨((n0%256:Nat):Int),((n1%4294967296:Nat):Int)⟩:Dot),((n2%256:Nat):Int),((n3%65536:Nat):Int),((n4%65536:Nat):Int),((n5%65536:Nat):Int),((n6%4294967296:Nat):Int),x25.1⟩:Opn)) 54]:=Y
 subst hJ
 have hoT:(⟨(⟨((n0%256:Nat):Int),((n1%4294967296:Nat):Int)⟩:Dot),((n2%256:Nat):Int),((n3%65536:Nat):Int),((n4%65536:Nat):Int),((n5%65536:Nat):Int),((n6%4294967296:Nat):Int),x25.1⟩:Opn)=opT l x25.1:=by unfold opT;rw [hn0.n,hn1.n,hn2.n,hn3.n,hn4.n,hn5.n,hn6.n]
 refine Qae (Qae ?_)
 replace Y:=Y.more emp trivial
 refine Qcm HM (so 85 11) [[],[],[],[],[],[90]] [0,1,3,7,15,31,63,15,143,511,1023] [pv (.agg (oc (⟨(⟨((n0%256:Nat):Int),((n1%4294967296:Nat):Int)⟩:Dot),((n2%256:Nat):Int),((n3%65536:Nat):Int),((n4%65536:Nat):Int),((n5%65536:Nat):Int),((n6%4294967296:Nat):Int),x25.1⟩:Opn)).toArray),pv (.bool (QaC (⟨(⟨((n0%256:Nat):Int),((n1%4294967296:Nat):Int)⟩:Dot),((n2%256:Nat):Int),((n3%65536:Nat):Int),((n4%65536:Nat):Int),((n5%65536:Nat):Int),((n6%4294967296:Nat):Int),x25.1⟩:Opn) 16)),pv (.bool (!(QaC (⟨(⟨((n0%256:Nat):Int),((n1%4294967296:Nat):Int)⟩:Dot),((n2%256:Nat):Int),((n3%65536:Nat):Int),((n4%65536:Nat):Int),((n5%65536:Nat):Int),((n6%4294967296:Nat):Int),x25.1⟩:Opn) 16))),pv (.bool (!(QaC (⟨(⟨((n0%256:Nat):Int),((n1%4294967296:Nat):Int)⟩:Dot),((n2%256:Nat):Int),((n3%65536:Nat):Int),((n4%65536:Nat):Int),((n5%65536:Nat):Int),((n6%4294967296:Nat):Int),x25.1⟩:Opn) 16))),pg ((!(QaC (⟨(⟨((n0%256:Nat):Int),((n1%4294967296:Nat):Int)⟩:Dot),((n2%256:Nat):Int),((n3%65536:Nat):Int),((n4%65536:Nat):Int),((n5%65536:Nat):Int),((n6%4294967296:Nat):Int),x25.1⟩:Opn) 16)) == false) (.agg (oc (⟨(⟨((n0%256:Nat):Int),((n1%4294967296:Nat):Int)⟩:Dot),((n2%256:Nat):Int),((n3%65536:Nat):Int),((n4%65536:Nat):Int),((n5%65536:Nat):Int),((n6%4294967296:Nat):Int),x25.1⟩:Opn)).toArray),(((!(QaC (⟨(⟨((n0%256:Nat):Int),((n1%4294967296:Nat):Int)⟩:Dot),((n2%256:Nat):Int),((n3%65536:Nat):Int),((n4%65536:Nat):Int),((n5%65536:Nat):Int),((n6%4294967296:Nat):Int),x25.1⟩:Opn) 16)) == false),fun J=>.slice (aOf (J 90)) ((Qbr (⟨(⟨((n0%256:Nat):Int),((n1%4294967296:Nat):Int)⟩:Dot),((n2%256:Nat):Int),((n3%65536:Nat):Int),((n4%65536:Nat):Int),((n5%65536:Nat):Int),((n6%4294967296:Nat):Int),x25.1⟩:Opn)).length) (cOf (J 90))),pg ((!(QaC (⟨(⟨((n0%256:Nat):Int),((n1%4294967296:Nat):Int)⟩:Dot),((n2%256:Nat):Int),((n3%65536:Nat):Int),((n4%65536:Nat):Int),((n5%65536:Nat):Int),((n6%4294967296:Nat):Int),x25.1⟩:Opn) 16)) == false) (sv (sOf (Qbr (⟨(⟨((n0%256:Nat):Int),((n1%4294967296:Nat):Int)⟩:Dot),((n2%256:Nat):Int),((n3%65536:Nat):Int),((n4%65536:Nat):Int),((n5%65536:Nat):Int),((n6%4294967296:Nat):Int),x25.1⟩:Opn)))),pg ((!(QaC (⟨(⟨((n0%256:Nat):Int),((n1%4294967296:Nat):Int)⟩:Dot),((n2%256:Nat):Int),((n3%65536:Nat):Int),((n4%65536:Nat):Int),((n5%65536:Nat):Int),((n6%4294967296:Nat):Int),x25.1⟩:Opn) 16)) == false) (.slice a l.length c),pg ((!(QaC (⟨(⟨((n0%256:Nat):Int),((n1%4294967296:Nat):Int)⟩:Dot),((n2%256:Nat):Int),((n3%65536:Nat):Int),((n4%65536:Nat):Int),((n5%65536:Nat):Int),((n6%4294967296:Nat):Int),x25.1⟩:Opn) 16)) == false) (sv (sOf l)),pg ((!(QaC (⟨(⟨((n0%256:Nat):Int),((n1%4294967296:Nat):Int)⟩:Dot),((n2%256:Nat):Int),((n3%65536:Nat):Int),((n4%65536:Nat):Int),((n5%65536:Nat):Int),((n6%4294967296:Nat):Int),x25.1⟩:Opn) 16)) == false) (.bool (!decide (Qbr (⟨(⟨((n0%256:Nat):Int),((n1%4294967296:Nat):Int)⟩:Dot),((n2%256:Nat):Int),((n3%65536:Nat):Int),((n4%65536:Nat):Int),((n5%65536:Nat):Int),((n6%4294967296:Nat):Int),x25.1⟩:Opn)=l))),pv (.bool ((!(QaC (⟨(⟨((n0%256:Nat):Int),((n1%4294967296:Nat):Int)⟩:Dot),((n2%256:Nat):Int),((n3%65536:Nat):Int),((n4%65536:Nat):Int),((n5%65536:Nat):Int),((n6%4294967296:Nat):Int),x25.1⟩:Opn) 16))||(!decide (Qbr (⟨(⟨((n0%256:Nat):Int),((n1%4294967296:Nat):Int)⟩:Dot),((n2%256:Nat):Int),((n3%65536:Nat):Int),((n4%65536:Nat):Int),((n5%65536:Nat):Int),((n6%4294967296:Nat):Int),x25.1⟩:Opn)=l))))] (fun D J=>[blk b1 (oc (⟨(⟨0,0⟩:Dot),0,0,0,0,0,vzero⟩:Opn)) 54,blk b3 (rve y) 174,row (.slice ab9 Q.length cb9) (Q.map (ic .u64)) 65 1,blk b20 (rve y.byt) 174,blk b28 (vc x25.1) 36,blk b36 (oc (⟨(⟨((n0%256:Nat):Int),((n1%4294967296:Nat):Int)⟩:Dot),((n2%256:Nat):Int),((n3%65536:Nat):Int),((n4%65536:Nat):Int),((n5%65536:Nat):Int),((n6%4294967296:Nat):Int),x25.1⟩:Opn)) 54,cond (D 5) (cond ((!(QaC (⟨(⟨((n0%256:Nat):Int),((n1%4294967296:Nat):Int)⟩:Dot),((n2%256:Nat):Int),((n3%65536:Nat):Int),((n4%65536:Nat):Int),((n5%65536:Nat):Int),((n6%4294967296:Nat):Int),x25.1⟩:Opn) 16)) == false) (row (.slice (aOf (J 90)) ((Qbr (⟨(⟨((n0%256:Nat):Int),((n1%4294967296:Nat):Int)⟩:Dot),((n2%256:Nat):Int),((n3%65536:Nat):Int),((n4%65536:Nat):Int),((n5%65536:Nat):Int),((n6%4294967296:Nat):Int),x25.1⟩:Opn)).length) (cOf (J 90))) ((Qbr (⟨(⟨((n0%256:Nat):Int),((n1%4294967296:Nat):Int)⟩:Dot),((n2%256:Nat):Int),((n3%65536:Nat):Int),((n4%65536:Nat):Int),((n5%65536:Nat):Int),((n6%4294967296:Nat):Int),x25.1⟩:Opn)).map (ic .u8)) 5 1) (emp)) (emp)]) [10] (by kernel_rfl) Y ⟨?_,?_,?_,?_,?_,?_,?_,?_,?_,?_,?_,trivial⟩ ?_
 ·exact oi [] fun Y=>Qa1 (cs:=oc (⟨(⟨((n0%256:Nat):Int),((n1%4294967296:Nat):Int)⟩:Dot),((n2%256:Nat):Int),((n3%65536:Nat):Int),((n4%65536:Nat):Int),((n5%65536:Nat):Int),((n6%4294967296:Nat):Int),x25.1⟩:Opn)) Qbp Y 5 rfl rfl rfl (Zz Y)
 ·exact oi [0] fun Y=>QaH (vs:=[.agg (oc (⟨(⟨((n0%256:Nat):Int),((n1%4294967296:Nat):Int)⟩:Dot),((n2%256:Nat):Int),((n3%65536:Nat):Int),((n4%65536:Nat):Int),((n5%65536:Nat):Int),((n6%4294967296:Nat):Int),x25.1⟩:Opn)).toArray,.int .i64 16]) (V:=.bool (QaC (⟨(⟨((n0%256:Nat):Int),((n1%4294967296:Nat):Int)⟩:Dot),((n2%256:Nat):Int),((n3%65536:Nat):Int),((n4%65536:Nat):Int),((n5%65536:Nat):Int),((n6%4294967296:Nat):Int),x25.1⟩:Opn) 16)) QnO rfl rfl (QfB _ (⟨(⟨((n0%256:Nat):Int),((n1%4294967296:Nat):Int)⟩:Dot),((n2%256:Nat):Int),((n3%65536:Nat):Int),((n4%65536:Nat):Int),((n5%65536:Nat):Int),((n6%4294967296:Nat):Int),x25.1⟩:Opn) 16 (by rw [hoT];exact Qjc l (QcA.vok hdv9))) Y fun _ Y=>Zz Y
 ·exact oi [1] fun Y=>Qb6 rfl (Zz Y)
 ·exact oi [2] fun Y=>Qag (.bool (!(QaC (⟨(⟨((n0%256:Nat):Int),((n1%4294967296:Nat):Int)⟩:Dot),((n2%256:Nat):Int),((n3%65536:Nat):Int),((n4%65536:Nat):Int),((n5%65536:Nat):Int),((n6%4294967296:Nat):Int),x25.1⟩:Opn) 16))) (Zz Y)
 ·exact ogi [3] fun hG Y=>Qa1 (cs:=oc (⟨(⟨((n0%256:Nat):Int),((n1%4294967296:Nat):Int)⟩:Dot),((n2%256:Nat):Int),((n3%65536:Nat):Int),((n4%65536:Nat):Int),((n5%65536:Nat):Int),((n6%4294967296:Nat):Int),x25.1⟩:Opn)) Qbp Y 5 rfl rfl rfl (Zz Y)
 ·exact obgy [3,4] [] [4] (!(QaC (⟨(⟨((n0%256:Nat):Int),((n1%4294967296:Nat):Int)⟩:Dot),((n2%256:Nat):Int),((n3%65536:Nat):Int),((n4%65536:Nat):Int),((n5%65536:Nat):Int),((n6%4294967296:Nat):Int),x25.1⟩:Opn) 16)) rfl (fun _=>rfl) rfl (fun _ _ _ hG Y=>by change ((!(QaC (⟨(⟨((n0%256:Nat):Int),((n1%4294967296:Nat):Int)⟩:Dot),((n2%256:Nat):Int),((n3%65536:Nat):Int),((n4%65536:Nat):Int),((n5%65536:Nat):Int),((n6%4294967296:Nat):Int),x25.1⟩:Opn) 16)) == false)=false at hG;rw [hG];exact Y) (fun hG=>⟨hG,trivial⟩) fun D J w hG Y=>Qax (vs:=[.agg (oc (⟨(⟨((n0%256:Nat):Int),((n1%4294967296:Nat):Int)⟩:Dot),((n2%256:Nat):Int),((n3%65536:Nat):Int),((n4%65536:Nat):Int),((n5%65536:Nat):Int),((n6%4294967296:Nat):Int),x25.1⟩:Opn)).toArray]) (V:=fun x:Option Addr × Nat=>.slice x.1 (Qbr (⟨(⟨((n0%256:Nat):Int),((n1%4294967296:Nat):Int)⟩:Dot),((n2%256:Nat):Int),((n3%65536:Nat):Int),((n4%65536:Nat):Int),((n5%65536:Nat):Int),((n6%4294967296:Nat):Int),x25.1⟩:Opn)).length x.2) QqJ rfl rfl (QhO _ (⟨(⟨((n0%256:Nat):Int),((n1%4294967296:Nat):Int)⟩:Dot),((n2%256:Nat):Int),((n3%65536:Nat):Int),((n4%65536:Nat):Int),((n5%65536:Nat):Int),((n6%4294967296:Nat):Int),x25.1⟩:Opn) (by rw [hoT];exact Qjc l (QcA.vok hdv9))) Y fun _ _ Y _=>⟨rfl,(by change ((!(QaC (⟨(⟨((n0%256:Nat):Int),((n1%4294967296:Nat):Int)⟩:Dot),((n2%256:Nat):Int),((n3%65536:Nat):Int),((n4%65536:Nat):Int),((n5%65536:Nat):Int),((n6%4294967296:Nat):Int),x25.1⟩:Opn) 16)) == false)=true at hG;rw [hG];exact Y.put 6 (QQ8 rfl))⟩
 ·refine oyi [3,5] [5] fun hG Y=>?_
  have hz:=Y
  have hG0:=hG
  change ((!(QaC (⟨(⟨((n0%256:Nat):Int),((n1%4294967296:Nat):Int)⟩:Dot),((n2%256:Nat):Int),((n3%65536:Nat):Int),((n4%65536:Nat):Int),((n5%65536:Nat):Int),((n6%4294967296:Nat):Int),x25.1⟩:Opn) 16)) == false)=true at hG0
  rw [hG0] at Y
  exact QbS Qbh QdG QdF (Y.rd 6 rfl) rfl (Zz hz)
 ·exact ogi [3] fun hG Y=>Qag (.slice a l.length c) (Zz Y)
 ·exact oyi [3,7] [7] fun hG Y=>QbS Qbh QdG QdF (Rd.own' hr Y) rfl (Zz Y)
 ·exact oyi [3,6,8] [6,8] fun hG Y=>Qas (V:=.bool (!decide (sOf (Qbr (⟨(⟨((n0%256:Nat):Int),((n1%4294967296:Nat):Int)⟩:Dot),((n2%256:Nat):Int),((n3%65536:Nat):Int),((n4%65536:Nat):Int),((n5%65536:Nat):Int),((n6%4294967296:Nat):Int),x25.1⟩:Opn))=sOf l))) (V':=.bool (!decide (Qbr (⟨(⟨((n0%256:Nat):Int),((n1%4294967296:Nat):Int)⟩:Dot),((n2%256:Nat):Int),((n3%65536:Nat):Int),((n4%65536:Nat):Int),((n5%65536:Nat):Int),((n6%4294967296:Nat):Int),x25.1⟩:Opn)=l))) (QiP rfl rfl ⟨rfl,rfl⟩) (congrArg (fun b:Bool=>Value.bool (!b)) (QfF (QnA _) hby)) (Zz Y)
 ·exact oi [3,9] fun Y=>QbL (h':=!decide (Qbr (⟨(⟨((n0%256:Nat):Int),((n1%4294967296:Nat):Int)⟩:Dot),((n2%256:Nat):Int),((n3%65536:Nat):Int),((n4%65536:Nat):Int),((n5%65536:Nat):Int),((n6%4294967296:Nat):Int),x25.1⟩:Opn)=l)) rfl rfl rfl (Zz Y)
 rintro J1 w41 J2 hJ Y
 replace hJ:J2=upd (mix (sq 85 11) J1 _) 95 (.bool ((!(QaC (⟨(⟨((n0%256:Nat):Int),((n1%4294967296:Nat):Int)⟩:Dot),((n2%256:Nat):Int),((n3%65536:Nat):Int),((n4%65536:Nat):Int),((n5%65536:Nat):Int),((n6%4294967296:Nat):Int),x25.1⟩:Opn) 16))||(!decide (Qbr (⟨(⟨((n0%256:Nat):Int),((n1%4294967296:Nat):Int)⟩:Dot),((n2%256:Nat):Int),((n3%65536:Nat):Int),((n4%65536:Nat):Int),((n5%65536:Nat):Int),((n6%4294967296:Nat):Int),x25.1⟩:Opn)=l)))):=hJ
 replace Y:Own w no w41 [blk b1 (oc (⟨(⟨0,0⟩:Dot),0,0,0,0,0,vzero⟩:Opn)) 54,blk b3 (rve y) 174,row (.slice ab9 Q.length cb9) (Q.map (ic .u64)) 65 1,blk b20 (rve y.byt) 174,blk b28 (vc x25.1) 36,blk b36 (oc (⟨(⟨((n0%256:Nat):Int),((n1%4294967296:Nat):Int)⟩:Dot),((n2%256:Nat):Int),((n3%65536:Nat):Int),((n4%65536:Nat):Int),((n5%65536:Nat):Int),((n6%4294967296:Nat):Int),x25.1⟩:Opn)) 54,cond ((!(QaC (⟨(⟨((n0%256:Nat):Int),((n1%4294967296:Nat):Int)⟩:Dot),((n2%256:Nat):Int),((n3%65536:Nat):Int),((n4%65536:Nat):Int),((n5%65536:Nat):Int),((n6%4294967296:Nat):Int),x25.1⟩:Opn) 16)) == false) (row (.slice (aOf (J1 90)) ((Qbr (⟨(⟨((n0%256:Nat):Int),((n1%4294967296:Nat):Int)⟩:Dot),((n2%256:Nat):Int),((n3%65536:Nat):Int),((n4%65536:Nat):Int),((n5%65536:Nat):Int),((n6%4294967296:Nat):Int),x25.1⟩:Opn)).length) (cOf (J1 90))) ((Qbr (⟨(⟨((n0%256:Nat):Int),((n1%4294967296:Nat):Int)⟩:Dot),((n2%256:Nat):Int),((n3%65536:Nat):Int),((n4%65536:Nat):Int),((n5%65536:Nat):Int),((n6%4294967296:Nat):Int),x25.1⟩:Opn)).map (ic .u8)) 5 1) (emp)]:=Y
 generalize (aOf (J1 90))=a42 at Y
 generalize (cOf (J1 90))=c43 at Y
 subst hJ
 refine Qaq (t:=(!(QaC (⟨(⟨((n0%256:Nat):Int),((n1%4294967296:Nat):Int)⟩:Dot),((n2%256:Nat):Int),((n3%65536:Nat):Int),((n4%65536:Nat):Int),((n5%65536:Nat):Int),((n6%4294967296:Nat):Int),x25.1⟩:Opn) 16))||(!decide (Qbr (⟨(⟨((n0%256:Nat):Int),((n1%4294967296:Nat):Int)⟩:Dot),((n2%256:Nat):Int),((n3%65536:Nat):Int),((n4%65536:Nat):Int),((n5%65536:Nat):Int),((n6%4294967296:Nat):Int),x25.1⟩:Opn)=l))) rfl (fun c44=>?_) (fun c44=>?_)
 ·
  refine Qae ?_
  have hno:Qef l Qhg 5:=hof.2 (by
       rintro ⟨_,h2,h3⟩
       have h9:=c44
       rw [hoT] at h9
       have h4:QaC (opT l x25.1) 16=true:=h2
       rw [h4,h3] at h9
       simp at h9)
  refine Qab (Qaa (Qbi (vs:=[]) (cs:=oc (⟨(⟨0,0⟩:Dot),0,0,0,0,0,vzero⟩:Opn)) [dc (⟨0,0⟩:Dot),[(.int .u8 0:Value)],[(I7 0:Value)],[(I7 0:Value)],[(I7 0:Value)],[(.int .u32 0:Value)],vc vzero] [dc (⟨0,0⟩:Dot),[(.int .u8 0:Value)],[(I7 0:Value)],[(I7 0:Value)],[(I7 0:Value)],[(.int .u32 0:Value)],vc vzero] Qkb rfl (rfl) rfl rfl (Qaa (QbN (V:=.agg (oc (⟨(⟨0,0⟩:Dot),0,0,0,0,0,vzero⟩:Opn)).toArray) (vs:=oc (⟨(⟨0,0⟩:Dot),0,0,0,0,0,vzero⟩:Opn)) (cs':=oc (⟨(⟨0,0⟩:Dot),0,0,0,0,0,vzero⟩:Opn)) Qbp.1 Y 0 rfl rfl rfl rfl rfl (QQ8 rfl) (QcB _) (Qao rfl) fun w45 Y=>(Qaa (Qak (I6 5) (Qad (Qat ?_))))))))
  refine ⟨_,QaD (cs:=oc (⟨(⟨0,0⟩:Dot),0,0,0,0,0,vzero⟩:Opn)) (V:=I6 5) results169 Qbp Y 0 rfl rfl rfl rfl,?_⟩
  exact ⟨(Qhg,5),rfl,Y.take 0,hno⟩
 have c44r:=QdH c44
 replace c44:=QdJ c44
 replace c44:=Qa3 c44
 replace c44r:=Qa3 c44r
 replace c44r:=QQ1 c44r
 refine Qar (Qae ?_)
 have hyes:Qef l (opT l x25.1) 0:=hof.1 ⟨by omega,by rw [← hoT];exact c44,by rw [← hoT];exact c44r⟩
 refine Qab (Qaa (Qa1 (cs:=oc (⟨(⟨((n0%256:Nat):Int),((n1%4294967296:Nat):Int)⟩:Dot),((n2%256:Nat):Int),((n3%65536:Nat):Int),((n4%65536:Nat):Int),((n5%65536:Nat):Int),((n6%4294967296:Nat):Int),x25.1⟩:Opn)) Qbp Y 5 rfl rfl rfl (Qaa (QbN (V:=.agg (oc (⟨(⟨((n0%256:Nat):Int),((n1%4294967296:Nat):Int)⟩:Dot),((n2%256:Nat):Int),((n3%65536:Nat):Int),((n4%65536:Nat):Int),((n5%65536:Nat):Int),((n6%4294967296:Nat):Int),x25.1⟩:Opn)).toArray) (vs:=oc (⟨(⟨((n0%256:Nat):Int),((n1%4294967296:Nat):Int)⟩:Dot),((n2%256:Nat):Int),((n3%65536:Nat):Int),((n4%65536:Nat):Int),((n5%65536:Nat):Int),((n6%4294967296:Nat):Int),x25.1⟩:Opn)) (cs':=oc (⟨(⟨((n0%256:Nat):Int),((n1%4294967296:Nat):Int)⟩:Dot),((n2%256:Nat):Int),((n3%65536:Nat):Int),((n4%65536:Nat):Int),((n5%65536:Nat):Int),((n6%4294967296:Nat):Int),x25.1⟩:Opn)) Qbp.1 Y 0 rfl rfl rfl rfl rfl (QQ8 rfl) (QcB _) (Qao rfl) fun w46 Y=>(Qaa (Qak (I6 0) (Qad (Qat ?_))))))))
 refine ⟨_,QaD (cs:=oc (⟨(⟨((n0%256:Nat):Int),((n1%4294967296:Nat):Int)⟩:Dot),((n2%256:Nat):Int),((n3%65536:Nat):Int),((n4%65536:Nat):Int),((n5%65536:Nat):Int),((n6%4294967296:Nat):Int),x25.1⟩:Opn)) (V:=I6 0) results169 Qbp Y 0 rfl rfl rfl rfl,?_⟩
 exact ⟨(opT l x25.1,0),by rw [← hoT]<;>rfl,Y.take 0,hyes⟩
end Tt
end Go.Proofs
namespace Go.Proofs
open Go Go.Vx Go.RowKit
open Tryz
namespace Tt
theorem QpV (w:World) (a:Option Addr) (c:Nat) (l:List Int) (hby:QaZ l) (hl:l.length<=1000000) (hr:Rd w (.slice a l.length c) 1 (l.map (ic .u8))):Calls prog 84 #[.slice a l.length c] w (fun e w'=>∃ y:(Option Addr × Nat) × Bs × Nat × Nat,e = .returned (.tuple #[.slice y.1.1 y.2.1.length y.1.2,.int .i64 ((y.2.2.1:Nat):Int),.int .i64 ((y.2.2.2:Nat):Int)])/\Own w no w' []/\(FiF l y.2.1 y.2.2.1 y.2.2.2/\QaZ y.2.1/\y.2.1.length<=l.length/\∀ w1,Rd w1 (.slice a l.length c) 1 (l.map (ic .u8))->Rd w1 (.slice y.1.1 y.2.1.length y.1.2) 1 (y.2.1.map (ic .u8)))) :=
 (QmF w a c l hby hl hr).mono fun e w' ⟨h1,h2⟩=>⟨((fA a c l,fC c l),QaP l),h1,h2,rfl,(QgC hby).1,(QgC hby).2,fun w1 h=>QpI h⟩
theorem Qjh (w:World) (x:Rdv) (hx:x.ok w) (hl:x.l.length<=1000000):Calls prog 85 #[.agg (rve x).toArray] w (fun e w'=>∃ y:Nat × Nat × Rdv,e = .returned (.tuple #[.agg (rve y.2.2).toArray,.int .u64 ((y.1:Nat):Int),.int .i64 ((y.2.1:Nat):Int)])/\Own w no w' []/\(NmF x.r y.1 y.2.1 y.2.2.r/\y.1<18446744073709551616/\y.2.2.l.length<=x.l.length/\∀ w1,x.ok w1->y.2.2.ok w1)) :=
 (Qhd w x hx hl).mono fun e w' ⟨h1,h2⟩=>⟨((Qaj x.r).1,(Qaj x.r).2.1,x.num),h1,h2,⟨rfl,rfl,Rdv.num_r hx⟩,QrG hx.2.1,Rdv.num_len hx,fun w1 h=>Rdv.num_ok h⟩
theorem Qiw (w:World) (x:Rdv) (hx:x.ok w) (hl:x.l.length<=1000000):Calls prog 86 #[.agg (rve x).toArray] w (fun e w'=>∃ y:(Option Addr × Nat) × Bs × Nat × Rdv,e = .returned (.tuple #[.agg (rve y.2.2.2).toArray,.slice y.1.1 y.2.1.length y.1.2,.int .i64 ((y.2.2.1:Nat):Int)])/\Own w no w' []/\(ByF x.r y.2.1 y.2.2.1 y.2.2.2.r/\QaZ y.2.1/\y.2.1.length<=x.l.length/\y.2.2.2.l.length<=x.l.length/\∀ w1,x.ok w1->y.2.2.2.ok w1/\Rd w1 (.slice y.1.1 y.2.1.length y.1.2) 1 (y.2.1.map (ic .u8)))) :=
 (QiK w x hx hl).mono fun e w' ⟨h1,h2⟩=>⟨((x.ba,x.bc),(QaT x.r).1,(QaT x.r).2.1,x.byt),h1,h2,⟨rfl,rfl,(Rdv.byt_ok hx).2.1⟩,(Qcg hx.2.1).2,QeI.2,Rdv.byt_len hx,fun w1 h=>⟨(Rdv.byt_ok h).1,(Rdv.byt_ok h).2.2⟩⟩
theorem Qsy (w:World) (x:Rdv) (hx:x.ok w) (hl:x.l.length<=800000) (n:Nat) (hn64:n<18446744073709551616):Calls prog 88 #[.agg (rve x).toArray,.int .u64 (n:Int)] w (fun e w'=>∃ y:(Option Addr × Nat) × List Opn,e = .returned (.slice y.1.1 y.2.length y.1.2)/\Own w no w' [row (.slice y.1.1 y.2.length y.1.2) (y.2.map oc) 54 23]/\OpF x.r (min n 17) y.2):=by
 refine Qal (n:=38) func88 rfl ntmps88 rfl ?_
 have Y:=Own.start w
 refine Qae (Qab (Qaa (Qb4 (V:=.agg (rve x).toArray) (cs:=rve x) rfl rfl Y fun b1 w2 Y=>(Qaa (Qak (.slice none 0 0) (Qad (Qae (Qab (Qaa (Qak (.slice none 0 0) (Qad (Qae (Qae (Qab (Qaa (Qak (.int .u64 0) (Qad (Qay ?_))))))))))))))))))
 replace Y:=Y.more (row (.slice none 0 0) (List.map oc []) 54 23) (QaK _ _ _ _)
 refine Qbb (fun J μ J' w'=>∃ (Jo:Env) (k:Nat) (z9:Rdv) (ab9:Option Addr) (cb9:Nat) (Q:List Opn),J'=upd (upd (mix (sq 5 32) Jo J) 6 (.int .u64 (k:Int))) 5 (.slice ab9 Q.length cb9)/\(k<=min n 17)/\(z9.ok w)/\(z9.l.length<=800000)/\(OfK x.r k z9.r Q)/\μ=min n 17-k/\Own w no w' [blk b1 (rve z9) 174,row (.slice ab9 Q.length cb9) (Q.map oc) 54 23]) ?_ ?_
 ·exact ⟨_,_,0,x,none,0,[],Qaw (Qaw (QaN (ds:=(sq 5 32)) (Agr.refl _ _)) rfl) rfl,(by omega),hx,hl,(OfK.zero _),rfl,Y⟩
 rintro μ J' w3 ⟨Jo,k,z9,ab9,cb9,Q,rfl,hk,hz9,hzl,hof,rfl,Y⟩
 have hQl:=hof.len
 refine Qae (Qae (Qa2 (so 12 7) [] [0,0,3,7,15,31,63] [pv (.int .u64 (k:Int)),pv (.int .u64 (n:Int)),pv (.bool (decide ((k:Int)<(n:Int)))),pv (.bool (decide ((k:Int)<(n:Int)))),pg ((decide ((k:Int)<(n:Int))) == true) (.int .u64 (k:Int)),pg ((decide ((k:Int)<(n:Int))) == true) (.bool (decide ((k:Int)<=16))),pv (.bool ((decide ((k:Int)<(n:Int)))&&(decide ((k:Int)<=16))))] (fun _ _=>_) [6] (by kernel_rfl) Y ⟨?_,?_,?_,?_,?_,?_,?_,trivial⟩ ?_))
 ·exact oi [] fun Y=>Qag (.int .u64 (k:Int)) (Zz Y)
 ·exact oi [] fun Y=>Qag (.int .u64 (n:Int)) (Zz Y)
 ·exact oi [0,1] fun Y=>QbQ rfl rfl (Zz Y)
 ·exact oi [2] fun Y=>Qag (.bool (decide ((k:Int)<(n:Int)))) (Zz Y)
 ·exact ogi [3] fun hG Y=>Qag (.int .u64 (k:Int)) (Zz Y)
 ·exact oyi [3,4] [4] fun hG Y=>QfU rfl rfl (Zz Y)
 ·exact oi [3,5] fun Y=>Qa0 (h':=decide ((k:Int)<=16)) rfl rfl rfl (Zz Y)
 rintro J1 w4 J2 hJ Y
 replace hJ:J2=upd (mix (sq 12 7) J1 _) 18 (.bool ((decide ((k:Int)<(n:Int)))&&(decide ((k:Int)<=16)))):=hJ
 subst hJ
 refine Qaq (t:=(decide ((k:Int)<(n:Int)))&&(decide ((k:Int)<=16))) rfl (fun c5=>?_) (fun c5=>?_)
 ·
  have c5r:=Qhi c5
  replace c5:=Qee c5
  replace c5:=QQ1 c5
  replace c5r:=QQ1 c5r
  refine Qar (Qae (Qay (Qae (Qab (Qaa (Qa1 (cs:=rve z9) QaW Y 0 rfl rfl rfl (Qaa (Qax (vs:=[.agg (rve z9).toArray]) (V:=fun y:(Option Addr × Nat) × Bs × Nat × Rdv=>.tuple #[.agg (rve y.2.2.2).toArray,.slice y.1.1 y.2.1.length y.1.2,I6 ((y.2.2.1:Nat):Int)]) (Lo:=fun _=>[]) Qp6 rfl rfl (Qiw _ z9 (Rdv.own hz9 Y) (by omega)) Y fun y6 w7 Y hB8=>?_))))))))
  obtain ⟨hB8,hB8b,hB8l,hB8m,hB8k⟩:=hB8
  refine Qaa (Qag (.tuple #[.agg (rve y6.2.2.2).toArray,.slice y6.1.1 y6.2.1.length y6.1.2,I6 ((y6.2.2.1:Nat):Int)]) (Qaa (Qaf (V:=.agg (rve y6.2.2.2).toArray) rfl rfl (Qaa (Qaf (V:=.slice y6.1.1 y6.2.1.length y6.1.2) rfl rfl (Qaa (Qaf (V:=I6 ((y6.2.2.1:Nat):Int)) rfl rfl (Qaa (QaX (cs:=rve (⟨none,0,0,[]⟩:Rdv)) Qda rfl Y fun b9 w10 Y=>?_)))))))))
  replace Y:=Ow [blk b1 (rve z9) 174,row (.slice ab9 Q.length cb9) (Q.map oc) 54 23,blk b9 (rve (⟨none,0,0,[]⟩:Rdv)) 174] Y
  refine Qaa (QbN (V:=.agg (rve y6.2.2.2).toArray) (vs:=rve y6.2.2.2) (cs':=rve y6.2.2.2) QaW.1 Y 2 rfl rfl rfl rfl rfl (QQ8 rfl) (Qbn _) (Qao rfl) fun w11 Y=>(Qaa (Qak (.slice y6.1.1 y6.2.1.length y6.1.2) (Qaa (Qak (I6 ((y6.2.2.1:Nat):Int)) (Qad (Qae (Qab (Qaa (Qa1 (cs:=rve y6.2.2.2) QaW Y 2 rfl rfl rfl (Qaa (QbN (V:=.agg (rve y6.2.2.2).toArray) (vs:=rve y6.2.2.2) (cs':=rve y6.2.2.2) QaW.1 Y 0 rfl rfl rfl rfl rfl (QQ8 rfl) (Qbn _) (Qao rfl) fun w12 Y=>?_))))))))))))
  replace Y:=Ow [blk b1 (rve y6.2.2.2) 174,row (.slice ab9 Q.length cb9) (Q.map oc) 54 23,blk b9 (rve y6.2.2.2) 174] Y
  refine Qad (Qae (Qab (Qaa (Qag (.slice y6.1.1 y6.2.1.length y6.1.2) (Qaa (Qax (vs:=[.slice y6.1.1 y6.2.1.length y6.1.2]) (V:=fun x:Opn × Nat=>.tuple #[.agg (oc x.1).toArray,I6 ((x.2:Nat):Int)]) QuM rfl rfl (QoS _ y6.1.1 y6.1.2 y6.2.1 hB8b (by omega) (Rd.own' (hB8k _ hz9).2 Y)) Y fun x13 w14 Y hd15=>(Qaa (Qag (.tuple #[.agg (oc x13.1).toArray,I6 ((x13.2:Nat):Int)]) (Qaa (Qaf (V:=.agg (oc x13.1).toArray) rfl rfl (Qaa (Qaf (V:=I6 ((x13.2:Nat):Int)) rfl rfl (Qaa (QaX (cs:=oc (⟨(⟨0,0⟩:Dot),0,0,0,0,0,vzero⟩:Opn)) QjS rfl Y fun b16 w17 Y=>?_))))))))))))))
  replace Y:=Ow [blk b1 (rve y6.2.2.2) 174,row (.slice ab9 Q.length cb9) (Q.map oc) 54 23,blk b9 (rve y6.2.2.2) 174,blk b16 (oc (⟨(⟨0,0⟩:Dot),0,0,0,0,0,vzero⟩:Opn)) 54] Y
  refine Qaa (QbN (V:=.agg (oc x13.1).toArray) (vs:=oc x13.1) (cs':=oc x13.1) Qbp.1 Y 3 rfl rfl rfl rfl rfl (QQ8 rfl) (QcB _) (Qao rfl) fun w18 Y=>(Qaa (Qak (I6 ((x13.2:Nat):Int)) (Qad (Qab (Qaa (Qag (.slice ab9 Q.length cb9) (Qaa (Qa1 (cs:=oc x13.1) Qbp Y 3 rfl rfl rfl (Qaa (Ql2 (vals:=[.agg (oc x13.1).toArray]) (ls:=List.map oc ([x13.1]:List Opn)) Qqv rfl rfl rfl (Qb3 (enc:=oc) (fun _=>rfl) _) (QaV QcB _) (QQ8 rfl) Y fun b19 w20 Y=>?_)))))))))))
  replace Y:=Ow [blk b1 (rve y6.2.2.2) 174,row (.slice ab9 Q.length cb9) (Q.map oc) 54 23,blk b9 (rve y6.2.2.2) 174,blk b16 (oc x13.1) 54,row (.slice (some ⟨b19,0,none⟩) 1 1) ([x13.1].map oc) 54 23] Y
  refine Qaa (QbH (ls':=(Q++[x13.1]).map oc) (n:=(Q++[x13.1]).length) Qqv Y 1 rfl rfl rfl (Y.rd 4 rfl) (QaV QcB _) (by simp only [QQ6,QQ7,List.length_cons,List.length_nil];omega) (by simp) (by simp) fun a21 c21 w22 Y=>(Qaa (Qak (.slice a21 ((Q++[x13.1]).length) c21) (Qad (Qab (Qaa (Qag (.int .u64 (k:Int)) (Qaa (Qbx (a:=(k:Int)) (b:=1) (c:=(k:Int)+1) rfl rfl (Qbe (by omega) (by omega)) (Qaa (Qak (.int .u64 ((k:Int)+1)) (Qad ?_))))))))))))
  refine ⟨_,?_,_,k+1,y6.2.2.2,a21,c21,Q++[x13.1],Qaw (Qaw (QaN (ds:=(sq 5 32)) (by repeat (first|exact Agr.refl _ _|refine Agr.upd ?_ rfl|refine Agr.mix ?_ rfl))) (congrArg (Value.int .u64) (by omega))) rfl,(by omega),((hB8k _ hz9).1),(by omega),(hof.next hB8 hd15),rfl,Y.take 2⟩
  omega
 refine Qbs (Qae (Qab (Qaa (Qag (.slice ab9 Q.length cb9) (Qaa (Qak (.slice ab9 Q.length cb9) (Qad (Qat ?_))))))))
 refine ⟨_,Qau (V:=.slice ab9 Q.length cb9) results88 rfl,?_⟩
 have hk9:k=min n 17:=by have h9:=c5;simp only [Bool.and_eq_false_iff,decide_eq_false_iff_not] at h9;omega
 rw [hk9] at hof
 exact ⟨((ab9,cb9),Q),rfl,Y.only 1 rfl,hof.hq⟩
end Tt
end Go.Proofs
