/- A part of a proof: what functions of the program compute, and plain facts on that. -/
import Derived.Test.YtbkdlibbcepppaaGreatDoorShipBytesP7
set_option linter.unusedVariables false
set_option linter.unusedSectionVars false
set_option linter.unusedSimpArgs false
set_option maxHeartbeats 4000000
set_option maxRecDepth 100000
namespace Go.Proofs
open Go Go.Vx Go.RowKit
open Tryz
namespace Tt
theorem Qko (w:World) (S:Nat->Prop) (p T:Nat) (e f:Int) (V:Value) (hR:(blk p [.bool true,.int .i64 e,V] T).holds w S) (hlt:∀ x,S x->x<w.heap.size):Calls prog 166 #[.pointer (some ⟨p,0,none⟩),.int .i64 f] w (fun r w'=>∃ x:Unit,r = .returned (.int .i64 (if e=0 then f else e))/\Own w S w' [blk p [.bool true,.int .i64 (if e=0 then f else e),V] T]/\True):=by
 refine Qal (n:=18) func166 rfl ntmps166 rfl ?_
 have Y:=Own.lent hR hlt
 refine Qae (Qab (Qaa (Qak (I6 0) (Qad (Qae (Qae (Qab (Qaa (Qag (Pq p 0) (Qaa (QaA rfl (Qaa (Qac Qcc rfl (Qaa (QaY (I6 e) QgQ Y 0 (Qaa (Qa5 rfl rfl (Qad (Qaq (t:=decide (e=0)) rfl (fun c1=>?_) (fun c1=>?_))))))))))))))))))))
 ·
  replace c1:=QQ1 c1
  refine Qab (Qaa (Qag (Pq p 0) (Qaa (Qag (I6 f) (Qaa (QaA rfl (Qaa (Qac Qcc rfl (Qaa (Qcl (V:=I6 f) (cs':=[.bool true,I6 f,V]) QgQ Y 0 rfl rfl rfl rfl (QQ8 rfl) rfl fun w2 Y=>(Qad (Qae (Qab (Qaa (Qag (Pq p 0) (Qaa (QaA rfl (Qaa (Qac Qcc rfl (Qaa (QaY (I6 f) QgQ Y 0 (Qaa (Qak (I6 f) (Qad (Qat ?_)))))))))))))))))))))))))
  refine ⟨_,Qau (V:=I6 f) results166 rfl,?_⟩
  rw [if_pos c1]
  exact ⟨(),rfl,Y.only 0 rfl,trivial⟩
 replace c1:=QQ2 c1
 refine Qar (Qae (Qab (Qaa (Qag (Pq p 0) (Qaa (QaA rfl (Qaa (Qac Qcc rfl (Qaa (QaY (I6 e) QgQ Y 0 (Qaa (Qak (I6 e) (Qad (Qat ?_))))))))))))))
 refine ⟨_,Qau (V:=I6 e) results166 rfl,?_⟩
 rw [if_neg c1]
 exact ⟨(),rfl,Y.only 0 rfl,trivial⟩
theorem Qrl (w:World) (S:Nat->Prop) (p e:Nat) (l:Bs) (b:Option Addr) (d:Nat) (ls:List Bsl) (hel:∀ x∈ls,RdB w S x) (hll:l.length<=100000) (hcl:(Qcr ls).length<=100000) (hr:Rd w (.slice b ls.length d) 1 (ls.map bse)) (hrS:ls.map bse≠[]->¬S (bkS (.slice b ls.length d))) (hR:(wR 212 5 p e l).holds w S) (hlt:∀ x,S x->x<w.heap.size):Calls prog 116 #[.pointer (some ⟨p,0,none⟩),.slice b ls.length d] w (fun r w'=>∃ x:Unit,r = .returned (.int .i64 (((Qge e l (Qcr ls)).1:Nat):Int))/\Own w S w' [wR 212 5 p ((Qge e l (Qcr ls)).1) ((Qge e l (Qcr ls)).2)]/\True):=by
 refine Qal (n:=53) func116 rfl ntmps116 rfl ?_
 obtain ⟨a,c,Y⟩:=QmX hR hlt
 replace Y:Own w S w [blk p [.bool true,I6 (e:Int),.slice a l.length c] 212,row (.slice a l.length c) (l.map (ic .u8)) 5 1]:=Y
 have hrd:∀ (w1:World) (L1:List Res),Own w S w1 L1->Rd w1 (.slice b ls.length d) 1 (ls.map bse):=fun w1 L1 h=>hr.ownE h hrS
 refine Qae (Qab (Qaa (Qak (I6 0) (Qad (Qae (Qae (Qa2 (so 6 10) [] [0,1,3,7,15,31,63,127,255,511] [pv (Pq p 0),pv (.bool false),pv (.bool false),pv (Pq p 0),pv (Pq p 0),pv (Pq p (0+0)),pv (Pq p (0+0+0)),pv (.bool true),pv (.bool false),pv (.bool false)] (fun _ _=>_) [9] (by kernel_rfl) Y ⟨?_,?_,?_,?_,?_,?_,?_,?_,?_,?_,trivial⟩ ?_)))))))
 ·exact oi [] fun Y=>Qag (.pointer (some ⟨p,0,none⟩)) (Zz Y)
 ·exact oi [0] fun Y=>Qic Qqx rfl rfl (Zz Y)
 ·exact oi [1] fun Y=>Qag (.bool false) (Zz Y)
 ·exact obg [2] [] false rfl (fun _=>rfl) rfl (fun _ _ _ h=>nomatch h) fun D J w _ Y=>Qag (Pq p 0) (Zz Y)
 ·exact obg [2,3] [] false rfl (fun _=>rfl) rfl (fun _ _ _ h=>nomatch h) fun D J w _ Y=>QaA rfl (Zz Y)
 ·exact obg [2,4] [] false rfl (fun _=>rfl) rfl (fun _ _ _ h=>nomatch h) fun D J w _ Y=>Qac Qdv rfl (Zz Y)
 ·exact obg [2,5] [] false rfl (fun _=>rfl) rfl (fun _ _ _ h=>nomatch h) fun D J w _ Y=>Qac Qf2 rfl (Zz Y)
 ·exact obg [2,6] [] false rfl (fun _=>rfl) rfl (fun _ _ _ h=>nomatch h) fun D J w _ Y=>QaY (.bool true) Qtc Y 0 (Zz Y)
 ·exact obg [2,7] [] false rfl (fun _=>rfl) rfl (fun _ _ _ h=>nomatch h) fun D J w _ Y=>Qb6 rfl (Zz Y)
 ·exact oi [2,8] fun Y=>QgY (V:=.bool false) rfl rfl (Zz Y)
 rintro J1 w1 J2 hJ Y
 replace hJ:J2=upd (mix (sq 6 10) J1 _) 15 (.bool false):=hJ
 subst hJ
 refine QcR rfl ?_
 refine Qar (Qae (Qab (Qaa (Qag (.slice b ls.length d) (Qaa (Qax (vs:=[.slice b ls.length d]) (V:=fun x:Option Addr × Nat=>.slice x.1 (Qcr ls).length x.2) QtL rfl rfl (Qoi _ b d ls (fun x hx=>(hel x hx).own Y) (by omega) (hrd _ _ Y)) Y fun x2 w3 Y _=>(Qaa (Qak (.slice x2.1 ((Qcr ls).length) x2.2) (Qad (Qae (Qay (Qae (Qab (Qaa (Qag (Pq p 0) (Qaa (QaA rfl (Qaa (Qac Qdv rfl (Qaa (Qac Qcc rfl (Qaa (QaY (I6 (e:Int)) QgQ Y 0 (Qaa (QbM rfl rfl (Qaa (Qak (.bool (!decide ((e:Int)=0))) (Qad (Qaq (t:=!decide ((e:Int)=0)) rfl (fun c4=>?_) (fun c4=>?_))))))))))))))))))))))))))))))
 ·
  replace c4:=Qcb c4
  replace c4:=QQ2 c4
  refine Qae (Qab (Qaa (Qag (Pq p 0) (Qaa (QaA rfl (Qaa (Qac Qdv rfl (Qaa (Qac Qcc rfl (Qaa (QaY (I6 (e:Int)) QgQ Y 0 (Qaa (Qak (I6 (e:Int)) (Qad (Qat ?_)))))))))))))))
  refine ⟨_,Qau (V:=I6 (e:Int)) results116 rfl,?_⟩
  unfold Qge
  rw [if_pos (by omega)]
  exact ⟨(),rfl,Qiu (Y.take 2),trivial⟩
 replace c4:=Qa3 c4
 replace c4:=QQ1 c4
 refine Qae (Qab (Qaa (Qag (Pq p 0) (Qaa (QaA rfl (Qaa (Qac Qgg rfl (Qaa (QaY (.slice a l.length c) QbD Y 0 (Qaa (QbG (n:=l.length) QbJ (Y.rd 1 rfl) (by simp) rfl (Qaa (Qag (.slice x2.1 ((Qcr ls).length) x2.2) (Qaa (QbG (n:=(Qcr ls).length) QbJ (Y.rd 2 rfl) (by simp) rfl (Qaa (Qbx (a:=((l.length:Nat):Int)) (b:=(((Qcr ls).length:Nat):Int)) (c:=((l.length+((Qcr ls).length):Nat):Int)) rfl rfl (QaS (by omega) (by omega)) (Qaa (Qck rfl rfl (Qaa (Qak (.bool (decide (65536<((l.length+((Qcr ls).length):Nat):Int)))) (Qad (Qaq (t:=decide (65536<((l.length+((Qcr ls).length):Nat):Int))) rfl (fun c5=>?_) (fun c5=>?_))))))))))))))))))))))))
 ·
  replace c5:=QQ1 c5
  refine Qae (Qab (Qaa (Qag (Pq p 0) (Qaa (QaA rfl (Qaa (Qac Qdv rfl (Qaa (Qa7 (vs:=[Pq p (0+0),I6 3]) (V:=fun _:Unit=>I6 (if (e:Int)=0 then 3 else (e:Int))) (R:=blk p [.bool true,I6 (e:Int),.slice a l.length c] 212) (R':=fun _=>blk p [.bool true,I6 (if (e:Int)=0 then 3 else (e:Int)),.slice a l.length c] 212) (Lo:=fun _=>[]) (F:=fun _ _=>True) QoD rfl rfl Y 0 rfl (fun S0 hS0 hl0=>Qko _ S0 p 212 ((e:Int)) 3 (.slice a l.length c) hS0 hl0) fun _ w6 Y _=>(Qaa (Qak (I6 (if (e:Int)=0 then 3 else (e:Int))) (Qad (Qat ?_)))))))))))))
  refine ⟨_,Qau (V:=I6 (if (e:Int)=0 then 3 else (e:Int))) results116 rfl,?_⟩
  unfold Qge
  rw [show (if e≠0 then (e,l) else if 65536<l.length+(Qcr ls).length then (3,l) else (0,l++Qcr ls))=(3,l) by rw [if_neg (by omega),if_pos (by omega)]]
  have he:(if (e:Int)=0 then (3:Int) else (e:Int))=3:=if_pos (by omega)
  rw [he] at Y ⊢
  exact ⟨(),rfl,Qiu (e:=3) (Y.take 2),trivial⟩
 replace c5:=QQ2 c5
 refine Qar (Qae (Qab (Qaa (Qag (Pq p 0) (Qaa (Qag (Pq p 0) (Qaa (QaA rfl (Qaa (Qac Qgg rfl (Qaa (QaY (.slice a l.length c) QbD Y 0 (Qaa (Qag (.slice x2.1 ((Qcr ls).length) x2.2) (Qaa (QbH (ls':=(l++(Qcr ls)).map (ic .u8)) (n:=(l++(Qcr ls)).length) Qca Y 1 rfl rfl rfl (Y.rd 2 rfl) (QaV (Qbj .u8) _) (by simp only [QQ6,QQ7,List.length_cons,List.length_nil];omega) (by simp) (by simp) fun a7 c7 w8 Y=>(Qaa (QaA rfl (Qaa (Qac Qgg rfl (Qaa (Qcl (V:=.slice a7 ((l++(Qcr ls)).length) c7) (cs':=[.bool true,I6 (e:Int),.slice a7 ((l++(Qcr ls)).length) c7]) QbD Y 0 rfl rfl rfl rfl (QQ8 rfl) rfl fun w9 Y=>(Qad (Qae (Qab (Qaa (Qak (I6 0) (Qad (Qat ?_)))))))))))))))))))))))))))))
 refine ⟨_,Qau (V:=I6 0) results116 rfl,?_⟩
 unfold Qge
 rw [if_neg (by omega),if_neg (by omega)]
 have he0:e=0:=by omega
 subst he0
 exact ⟨(),rfl,Qiu (e:=0) (Y.take 2),trivial⟩
theorem Qs1 (w:World) (S:Nat->Prop) (p e:Nat) (l:Bs) (hll:l.length<=100000) (n:Nat) (hn:n<18446744073709551616) (hR:(wR 212 5 p e l).holds w S) (hlt:∀ x,S x->x<w.heap.size):Calls prog 47 #[.pointer (some ⟨p,0,none⟩),.int .u64 (n:Int)] w (fun r w'=>∃ x:Unit,r = .returned (.int .i64 (((Qge e l (Qan n)).1:Nat):Int))/\Own w S w' [wR 212 5 p ((Qge e l (Qan n)).1) ((Qge e l (Qan n)).2)]/\True):=by
 refine Qal (n:=10) func47 rfl ntmps47 rfl ?_
 have Y:=Own.lent hR hlt
 have hpl:=Qbl hn
 refine Qae (Qab (Qaa (Qak (I6 0) (Qad (Qae (Qab (Qaa (Qag (Pq p 0) (Qaa (Qag (.int .u64 (n:Int)) (Qaa (Qax (vs:=[.int .u64 (n:Int)]) (V:=fun x:Option Addr × Nat=>.slice x.1 (Qan n).length x.2) Qnj rfl rfl (QmK _ n (by omega)) Y fun x1 w2 Y _=>(Qaa (Ql2 (vals:=[.slice x1.1 ((Qan n).length) x1.2]) (ls:=List.map bse ([(⟨x1.1,x1.2,Qan n⟩:Bsl)]:List Bsl)) Qrb rfl rfl rfl (Qb3 (enc:=bse) (fun _=>rfl) _) (QaV Qny _) (QQ8 rfl) Y fun b3 w4 Y=>(Qaa (Qfr (α:=Unit) (vs:=[Pq p 0,.slice (some ⟨b3,0,none⟩) 1 1]) (V:=fun _=>I6 (((Qge e l (Qan n)).1:Nat):Int)) (R:=wR 212 5 p e l) (R':=fun _=>wR 212 5 p ((Qge e l (Qan n)).1) ((Qge e l (Qan n)).2)) (Lo:=fun _=>[]) (F:=fun _ _=>True) QqI rfl rfl Y 0 rfl (fun S9 hS9 hl9 hM9 hK9=>by have:=Qrl _ S9 p e l (some ⟨b3,0,none⟩) 1 [(⟨x1.1,x1.2,Qan n⟩:Bsl)] (by intro x hx;simp only [List.mem_cons,List.not_mem_nil,or_false] at hx;subst hx;exact (hK9 1 (by decide) _ rfl).rdB) (by omega) (by rw [show Qcr [(⟨x1.1,x1.2,Qan n⟩:Bsl)]=(Qan n) by simp [Qcr]];first|omega|(simp only [QQ7];omega)) (hK9 2 (by decide) _ rfl).rdN.1 (hK9 2 (by decide) _ rfl).rdN.2 hS9 hl9;rw [show Qcr [(⟨x1.1,x1.2,Qan n⟩:Bsl)]=(Qan n) by simp [Qcr]] at this;exact this) fun _ w5 Y _=>?_))))))))))))))))
 refine Qaa (Qak (I6 (((Qge e l (Qan n)).1:Nat):Int)) (Qad (Qat ?_)))
 refine ⟨_,Qau (V:=I6 (((Qge e l (Qan n)).1:Nat):Int)) results47 rfl,?_⟩
 exact ⟨(),rfl,Y.only 0 rfl,trivial⟩
theorem Qnx (w:World) (S:Nat->Prop) (p e:Nat) (l:Bs) (hll:l.length<=100000) (b:Option Addr) (d:Nat) (y:Bs) (hx:RdB w S ⟨b,d,y⟩) (hxl:y.length<=70000) (hR:(wR 212 5 p e l).holds w S) (hlt:∀ x,S x->x<w.heap.size):Calls prog 48 #[.pointer (some ⟨p,0,none⟩),.slice b y.length d] w (fun r w'=>∃ x:Unit,r = .returned (.int .i64 (((Qge e l (QaM y)).1:Nat):Int))/\Own w S w' [wR 212 5 p ((Qge e l (QaM y)).1) ((Qge e l (QaM y)).2)]/\True):=by
 refine Qal (n:=13) func48 rfl ntmps48 rfl ?_
 have Y:=Own.lent hR hlt
 have hrd:∀ (w1:World) (L1:List Res),Own w S w1 L1->Rd w1 (.slice b y.length d) 1 (y.map (ic .u8)):=fun w1 L1 h=>hx.own h
 have hpl:=Qbl (n:=y.length) (by omega)
 refine Qae (Qab (Qaa (Qak (I6 0) (Qad (Qae (Qab (Qaa (Qag (Pq p 0) (Qaa (Qag (.slice b y.length d) (Qaa (QbG (n:=y.length) QbJ (hrd _ _ Y) (by simp) rfl (Qaa (QaB QfT Qa6 rfl (Qbe (by omega) (by omega)) (Qaa (Qax (vs:=[.int .u64 ((y.length:Nat):Int)]) (V:=fun x:Option Addr × Nat=>.slice x.1 (Qan y.length).length x.2) Qnj rfl rfl (QmK _ y.length (by omega)) Y fun x1 w2 Y _=>(Qaa (Qag (.slice b y.length d) (Qaa (Ql2 (vals:=[.slice x1.1 ((Qan y.length).length) x1.2,.slice b y.length d]) (ls:=List.map bse ([(⟨x1.1,x1.2,Qan y.length⟩:Bsl),(⟨b,d,y⟩:Bsl)]:List Bsl)) Qrb rfl rfl rfl (Qb3 (enc:=bse) (fun _=>rfl) _) (QaV Qny _) (QQ8 rfl) Y fun b3 w4 Y=>(Qaa (Qfr (α:=Unit) (vs:=[Pq p 0,.slice (some ⟨b3,0,none⟩) 2 2]) (V:=fun _=>I6 (((Qge e l ((Qan y.length)++y)).1:Nat):Int)) (R:=wR 212 5 p e l) (R':=fun _=>wR 212 5 p ((Qge e l ((Qan y.length)++y)).1) ((Qge e l ((Qan y.length)++y)).2)) (Lo:=fun _=>[]) (F:=fun _ _=>True) QqI rfl rfl Y 0 rfl (fun S9 hS9 hl9 hM9 hK9=>by have:=Qrl _ S9 p e l (some ⟨b3,0,none⟩) 2 [(⟨x1.1,x1.2,Qan y.length⟩:Bsl),(⟨b,d,y⟩:Bsl)] (by intro x hx;simp only [List.mem_cons,List.not_mem_nil,or_false] at hx;rcases hx with rfl|rfl;exact (hK9 1 (by decide) _ rfl).rdB;exact (RdB.ofM hx Y hM9)) (by omega) (by rw [show Qcr [(⟨x1.1,x1.2,Qan y.length⟩:Bsl),(⟨b,d,y⟩:Bsl)]=(Qan y.length)++y by simp [Qcr]];first|omega|(simp only [QQ7];omega)) (hK9 2 (by decide) _ rfl).rdN.1 (hK9 2 (by decide) _ rfl).rdN.2 hS9 hl9;rw [show Qcr [(⟨x1.1,x1.2,Qan y.length⟩:Bsl),(⟨b,d,y⟩:Bsl)]=(Qan y.length)++y by simp [Qcr]] at this;exact this) fun _ w5 Y _=>?_))))))))))))))))))))))
 refine Qaa (Qak (I6 (((Qge e l ((Qan y.length)++y)).1:Nat):Int)) (Qad (Qat ?_)))
 refine ⟨_,Qau (V:=I6 (((Qge e l ((Qan y.length)++y)).1:Nat):Int)) results48 rfl,?_⟩
 exact ⟨(),rfl,Y.only 0 rfl,trivial⟩
theorem Qkj (w:World):Calls prog 46 #[] w (fun r w'=>∃ p:Nat,r = .returned (.pointer (some ⟨p,0,none⟩))/\Own w no w' [wR 212 5 p 0 []]/\True):=by
 refine Qal (n:=4) func46 rfl ntmps46 rfl ?_
 have Y:=Own.start w
 refine Qae (Qab (Qaa (Qak (.pointer none) (Qad (Qae (Qab (Qaa (Qbz (vs:=[(0,.bool true)]) (cs:=[.bool true,I6 0]) Qre (rfl) rfl (Qaa (Qbz (vs:=[(0,.agg #[.bool true,I6 0])]) (cs:=[.bool true,I6 0,.slice none 0 0]) Qtt (rfl) rfl (Qaa (Qb4 (V:=.agg #[.bool true,I6 0,.slice none 0 0]) (cs:=[.bool true,I6 0,.slice none 0 0]) rfl rfl Y fun b1 w2 Y=>(Qaa (Qak (Pq b1 0) (Qad (Qat ?_))))))))))))))))
 refine ⟨_,Qau (V:=Pq b1 0) results46 rfl,?_⟩
 replace Y:=Y.more (row (.slice none 0 0) (List.map (ic .u8) []) 5 1) (QaK _ _ _ _)
 exact ⟨b1,rfl,Qiu (e:=0) (a:=none) (c:=0) (l:=[]) (Y.take 2),trivial⟩
theorem QrO (w:World) (S:Nat->Prop) (p e:Nat) (l:Bs) (hll:l.length<=100000) (hR:(wR 212 5 p e l).holds w S) (hlt:∀ x,S x->x<w.heap.size):Calls prog 51 #[.pointer (some ⟨p,0,none⟩)] w (fun r w'=>∃ x:Option Addr × Nat,r = .returned (.tuple #[.slice x.1 (if e=0 then l else []).length x.2,.int .i64 (e:Int)])/\Own w S w' [wR 212 5 p e l,row (.slice x.1 (if e=0 then l else []).length x.2) ((if e=0 then l else []).map (ic .u8)) 5 1]/\True):=by
 refine Qal (n:=32) func51 rfl ntmps51 rfl ?_
 obtain ⟨a,c,Y⟩:=QmX hR hlt
 replace Y:Own w S w [blk p [.bool true,I6 (e:Int),.slice a l.length c] 212,row (.slice a l.length c) (l.map (ic .u8)) 5 1]:=Y
 refine Qae (Qab (Qaa (Qak (.slice none 0 0) (Qaa (Qak (I6 0) (Qad (Qae (Qay (Qae (Qa2 (so 5 10++[some 4]) [] [0,1,3,7,15,31,63,127,255,511,1023] [pv (Pq p 0),pv (.bool false),pv (.bool false),pv (Pq p 0),pv (Pq p 0),pv (Pq p (0+0)),pv (Pq p (0+0+0)),pv (.bool true),pv (.bool false),pv (.bool false),pv (.bool false)] (fun _ _=>_) [10] (by kernel_rfl) Y ⟨?_,?_,?_,?_,?_,?_,?_,?_,?_,?_,?_,trivial⟩ ?_))))))))))
 ·exact oi [] fun Y=>Qag (.pointer (some ⟨p,0,none⟩)) (Zz Y)
 ·exact oi [0] fun Y=>Qic Qqx rfl rfl (Zz Y)
 ·exact oi [1] fun Y=>Qag (.bool false) (Zz Y)
 ·exact obg [2] [] false rfl (fun _=>rfl) rfl (fun _ _ _ h=>nomatch h) fun D J w _ Y=>Qag (Pq p 0) (Zz Y)
 ·exact obg [2,3] [] false rfl (fun _=>rfl) rfl (fun _ _ _ h=>nomatch h) fun D J w _ Y=>QaA rfl (Zz Y)
 ·exact obg [2,4] [] false rfl (fun _=>rfl) rfl (fun _ _ _ h=>nomatch h) fun D J w _ Y=>Qac Qdv rfl (Zz Y)
 ·exact obg [2,5] [] false rfl (fun _=>rfl) rfl (fun _ _ _ h=>nomatch h) fun D J w _ Y=>Qac Qf2 rfl (Zz Y)
 ·exact obg [2,6] [] false rfl (fun _=>rfl) rfl (fun _ _ _ h=>nomatch h) fun D J w _ Y=>QaY (.bool true) Qtc Y 0 (Zz Y)
 ·exact obg [2,7] [] false rfl (fun _=>rfl) rfl (fun _ _ _ h=>nomatch h) fun D J w _ Y=>Qb6 rfl (Zz Y)
 ·exact oi [2,8] fun Y=>QgY (V:=.bool false) rfl rfl (Zz Y)
 ·exact oi [9] fun Y=>Qak (.bool false) (Zz Y)
 rintro J1 w1 J2 hJ Y
 replace hJ:J2=upd (mix (sq 5 10++[4]) J1 _) 4 (.bool false):=hJ
 subst hJ
 refine QcR rfl ?_
 refine Qae (Qab (Qaa (Qag (Pq p 0) (Qaa (QaA rfl (Qaa (Qac Qdv rfl (Qaa (Qac Qcc rfl (Qaa (QaY (I6 (e:Int)) QgQ Y 0 (Qaa (QbM rfl rfl (Qaa (Qak (.bool (!decide ((e:Int)=0))) (Qad (Qaq (t:=!decide ((e:Int)=0)) rfl (fun c2=>?_) (fun c2=>?_))))))))))))))))))
 ·
  replace c2:=Qcb c2
  replace c2:=QQ2 c2
  refine Qae (Qcm HM (so 22 5++[some 2,some 3]) [] [0,1,3,7,15,0,63] [pv (Pq p 0),pv (Pq p 0),pv (Pq p (0+0)),pv (Pq p (0+0+1)),pv (I6 (e:Int)),pv (.slice none 0 0),pv (I6 (e:Int))] (fun _ _=>_) [6,5] (by kernel_rfl) Y ⟨?_,?_,?_,?_,?_,?_,?_,trivial⟩ ?_)
  ·exact oi [] fun Y=>Qag (.pointer (some ⟨p,0,none⟩)) (Zz Y)
  ·exact oi [0] fun Y=>QaA rfl (Zz Y)
  ·exact oi [1] fun Y=>Qac Qdv rfl (Zz Y)
  ·exact oi [2] fun Y=>Qac Qcc rfl (Zz Y)
  ·exact oi [3] fun Y=>QaY (.int .i64 (e:Int)) QgQ Y 0 (Zz Y)
  ·exact oi [] fun Y=>Qak (.slice none 0 0) (Zz Y)
  ·exact oi [4] fun Y=>Qak (.int .i64 (e:Int)) (Zz Y)
  rintro J1 w3 J2 hJ Y
  replace hJ:J2=upd (upd (mix [22,23,24,25,26,2,3] J1 _) 2 (.slice none 0 0)) 3 (I6 (e:Int)):=hJ
  subst hJ
  refine Qat ?_
  refine ⟨_,Qbq (U:=.slice none 0 0) (V:=I6 (e:Int)) results51 rfl rfl,?_⟩
  rw [if_neg (by omega)]
  replace Y:=(Y.take 2).more (row (.slice none 0 0) (List.map (ic .u8) []) 5 1) (QaK _ _ _ _)
  exact ⟨(none,0),rfl,QlC (Y.take 3),trivial⟩
 replace c2:=Qa3 c2
 replace c2:=QQ1 c2
 refine Qar (Qae (Qab (Qaa (Qag (Pq p 0) (Qaa (QaA rfl (Qaa (Qac Qgg rfl (Qaa (QaY (.slice a l.length c) QbD Y 0 (Qaa (Qax (vs:=[.slice a l.length c]) (V:=fun x:Option Addr × Nat=>.slice x.1 (l).length x.2) QkG rfl rfl (Qh5 _ a c l (by omega) (Y.rd 1 rfl)) Y fun x4 w5 Y _=>(Qaa (Qak (.slice x4.1 ((l).length) x4.2) (Qaa (Qak (I6 0) (Qad (Qat ?_))))))))))))))))))
 refine ⟨_,Qbq (U:=.slice x4.1 ((l).length) x4.2) (V:=I6 0) results51 rfl rfl,?_⟩
 rw [if_pos (by omega)]
 have he0:e=0:=by omega
 subst he0
 exact ⟨(x4.1,x4.2),rfl,QlC (Y.take 3),trivial⟩
end Tt
end Go.Proofs
namespace Go.Proofs
open Go Go.Vx Go.RowKit
open Tryz
namespace Tt
theorem Qjp (w:World) (S:Nat->Prop) (p:Nat) (l:Bs) (n:Nat) (hn:n<18446744073709551616) (hll:l.length<=60000) (hR:(wR 212 5 p 0 l).holds w S) (hlt:∀ x,S x->x<w.heap.size):Calls prog 47 #[.pointer (some ⟨p,0,none⟩),.int .u64 (n:Int)] w (fun r w'=>∃ x:Unit,r = .returned (.int .i64 0)/\Own w S w' [wR 212 5 p 0 (l++Qan n)]/\True):=by
 have h:=Qs1 w S p 0 l (by omega) n hn hR hlt
 rw [Qm7 (by have:=Qbl hn;omega)] at h
 exact h
theorem Qit (w:World) (S:Nat->Prop) (p:Nat) (l:Bs) (b:Option Addr) (d:Nat) (y:Bs) (hx:RdB w S ⟨b,d,y⟩) (hll:l.length+y.length<=60000) (hR:(wR 212 5 p 0 l).holds w S) (hlt:∀ x,S x->x<w.heap.size):Calls prog 48 #[.pointer (some ⟨p,0,none⟩),.slice b y.length d] w (fun r w'=>∃ x:Unit,r = .returned (.int .i64 0)/\Own w S w' [wR 212 5 p 0 (l++QaM y)]/\True):=by
 have h:=Qnx w S p 0 l (by omega) b d y hx (by omega) hR hlt
 rw [Qm7 (by have:=Qbl (n:=y.length) (by omega);unfold QaM;rw [QQ7];omega)] at h
 exact h
theorem QnS (w:World) (S:Nat->Prop) (p:Nat) (l:Bs) (hll:l.length<=65536) (hR:(wR 212 5 p 0 l).holds w S) (hlt:∀ x,S x->x<w.heap.size):Calls prog 51 #[.pointer (some ⟨p,0,none⟩)] w (fun r w'=>∃ x:Option Addr × Nat,r = .returned (.tuple #[.slice x.1 l.length x.2,.int .i64 0])/\Own w S w' [wR 212 5 p 0 l,row (.slice x.1 l.length x.2) (l.map (ic .u8)) 5 1]/\True):=by
 have h:=QrO w S p 0 l (by omega) hR hlt
 rw [if_pos rfl] at h
 exact h
theorem Qov (w:World) (v:Vec) (hv:Qbw v):Calls prog 49 #[.agg (vc v).toArray] w (fun e w'=>∃ x:Option Addr × Nat,e = .returned (.slice x.1 (QaF v).length x.2)/\Own w no w' [row (.slice x.1 (QaF v).length x.2) ((QaF v).map (ic .u8)) 5 1]/\True):=by
 refine Qal (n:=43) func49 rfl ntmps49 rfl ?_
 have Y:=Own.start w
 refine Qae (Qab (Qaa (Qb4 (V:=.agg (vc v).toArray) (cs:=vc v) rfl rfl Y fun b1 w2 Y=>(Qaa (Qak (.slice none 0 0) (Qad (Qae (Qab (Qaa (Qak (I6 16) (Qad (Qae (Qay (Qbb (fun J μ J' w'=>∃ (Jo:Env) (n:Nat),J'=upd (mix ([3]++sq 9 11) Jo J) 3 (I6 (n:Int))/\(n<=16)/\(vlen v=Qde v n)/\μ=2*n/\Own w no w' [blk b1 (vc v) 36]) ?_ ?_))))))))))))))
 ·exact ⟨_,_,16,Qaw (QaN (ds:=([3]++sq 9 11)) (Agr.refl _ _)) rfl,(by omega),rfl,rfl,Y⟩
 rintro μ J' w3 ⟨Jo,n,rfl,hn,hv0,rfl,Y⟩
 refine Qae (Qae (Qa2 (so 9 9) [] [0,1,3,7,15,31,63,127,255] [pv (I6 (n:Int)),pv (.bool (decide (0<(n:Int)))),pv (.bool (decide (0<(n:Int)))),pg ((decide (0<(n:Int))) == true) (I6 (n:Int)),pg ((decide (0<(n:Int))) == true) (I6 ((n-1:Nat):Int)),pg ((decide (0<(n:Int))) == true) (.pointer (some ⟨b1,0+((n-1:Nat):Int).toNat,none⟩)),pg ((decide (0<(n:Int))) == true) (.int .u32 (vat v (n-1))),pg ((decide (0<(n:Int))) == true) (.bool (decide (vat v (n-1)=0))),pv (.bool ((decide (0<(n:Int)))&&(decide (vat v (n-1)=0))))] (fun _ _=>_) [8] (by kernel_rfl) Y ⟨?_,?_,?_,?_,?_,?_,?_,?_,?_,trivial⟩ ?_))
 ·exact oi [] fun Y=>Qag (.int .i64 (n:Int)) (Zz Y)
 ·exact oi [0] fun Y=>Qck rfl rfl (Zz Y)
 ·exact oi [1] fun Y=>Qag (.bool (decide (0<(n:Int)))) (Zz Y)
 ·exact ogi [2] fun hG Y=>Qag (.int .i64 (n:Int)) (Zz Y)
 ·refine oyi [2,3] [3] fun hG Y=>?_
  have hgd:=QQ1 (eq_of_beq (hG))
  exact Qh2 (a:=(n:Int)) (b:=1) (c:=((n-1:Nat):Int)) rfl rfl (QaS (by omega) (by omega)) (Zz Y)
 ·refine oyi [2,4] [4] fun hG Y=>?_
  have hgd:=QQ1 (eq_of_beq (hG))
  exact Qb2 Qgx Qbv.1 rfl rfl (by omega) (by omega) (Zz Y)
 ·refine oyi [2,5] [5] fun hG Y=>?_
  have hgd:=QQ1 (eq_of_beq (hG))
  exact QpP (V:=.int .u32 (vat v (n-1))) Qbv Y 0 rfl rfl (Qhq (by omega) (by omega)) (Zz Y)
 ·exact oyi [2,6] [6] fun hG Y=>Qa5 rfl rfl (Zz Y)
 ·exact oi [2,7] fun Y=>Qa0 (h':=decide (vat v (n-1)=0)) rfl rfl rfl (Zz Y)
 rintro J1 w4 J2 hJ Y
 replace hJ:J2=upd (mix (sq 9 9) J1 _) 17 (.bool ((decide (0<(n:Int)))&&(decide (vat v (n-1)=0)))):=hJ
 subst hJ
 refine Qaq (t:=(decide (0<(n:Int)))&&(decide (vat v (n-1)=0))) rfl (fun c5=>?_) (fun c5=>?_)
 ·
  have c5r:=Qhi c5
  replace c5:=Qee c5
  replace c5:=QQ1 c5
  replace c5r:=QQ1 c5r
  refine Qar (Qay (Qab (Qaa (Qag (I6 (n:Int)) (Qaa (Qh2 (a:=(n:Int)) (b:=1) (c:=((n-1:Nat):Int)) rfl rfl (QaS (by omega) (by omega)) (Qaa (Qak (I6 ((n-1:Nat):Int)) (Qad ?_)))))))))
  refine ⟨_,?_,_,n-1,Qaw (QaN (ds:=([3]++sq 9 11)) (by repeat (first|exact Agr.refl _ _|refine Agr.upd ?_ rfl|refine Agr.mix ?_ rfl))) rfl,(by omega),(by rw [hv0,QlZ (by omega) (by assumption)]),rfl,Y.take 1⟩
  omega
 refine Qbs (Qae ?_)
 have hvn:vlen v=n:=by
  rw [hv0]
  refine QmL ?_
  have h9:=c5
  simp only [Bool.and_eq_false_iff,decide_eq_false_iff_not] at h9
  rcases h9 with h9|h9
  ·exact .inl (by omega)
  exact .inr h9
 refine Qab (Qaa (Qax (vs:=[]) (V:=fun x:Nat=>Pq x 0) QsS rfl rfl (Qkj _) Y fun p6 w7 Y _=>(Qaa (Qak (Pq p6 0) (Qad (Qae (Qab (Qaa (Qag (Pq p6 0) (Qaa (Qag (I6 (n:Int)) (Qaa (QaB QfT Qa6 rfl (Qbe (by omega) (by omega)) (Qaa (Qa7 (α:=Unit) (vs:=[Pq p6 0,.int .u64 (n:Int)]) (V:=fun _=>I6 0) (R:=wR 212 5 p6 0 []) (R':=fun _=>wR 212 5 p6 0 ([]++Qan n)) (Lo:=fun _=>[]) (F:=fun _ _=>True) Qjq rfl rfl Y 1 rfl (fun S0 hS0 hl0=>Qjp _ S0 p6 [] n (by omega) (Nat.zero_le _) hS0 hl0) fun _ w8 Y _=>(Qad (Qae (Qae (Qab (Qaa (Qag (I6 (n:Int)) (Qaa (Qmj (h:=n) QqM Qbv.1 rfl rfl (by omega) (Qaa (QkW Qrv rfl (Qaa (Qag (I6 0) (Qad (Qay (Qbb (fun J μ J' w'=>∃ (Jo:Env) (k:Nat) (L:Bs),J'=upd (mix ([6]++sq 28 9) Jo J) 28 (I6 (k:Int))/\(k<=n)/\(L=Qan n++QbA (vnums v k))/\(L.length<=10+10*k)/\μ=n-k/\Own w no w' [blk b1 (vc v) 36,wR 212 5 p6 0 L]) ?_ ?_))))))))))))))))))))))))))))))
 ·exact ⟨_,_,0,[]++Qan n,Qaw (QaN (ds:=([6]++sq 28 9)) (Agr.refl _ _)) rfl,(by omega),(by simp [vnums,QbA]),(by have:=Qbl (n:=n) (by omega);rw [List.nil_append];omega),rfl,Y⟩
 rintro μ J' w9 ⟨Jo,k,L,rfl,hk,hL,hLl,rfl,Y⟩
 refine Qae (Qab (Qaa (QbQ rfl rfl (Qad (Qae (Qaq (t:=decide ((k:Int)<(n:Int))) rfl (fun c10=>?_) (fun c10=>?_)))))))
 ·
  replace c10:=QQ1 c10
  refine Qar (Qae (Qay (Qae ?_)))
  have hvk:=QfI hv k
  refine Qab (Qaa (QcJ Qrv Qbv.1 (Qa8.rdV (Y.cellsf 0 rfl) (by omega)) rfl rfl (by omega) (by rw [QQ6,Qir];omega) (Qaa (Qas (V:=.int .u32 (gd (Qqj v n) k)) (V':=.int .u32 (vat v k)) (QdX (j:=0) (V:=.int .u32 (gd (Qqj v n) k)) k Qbv (Qa8.rdV (Y.cellsf 0 rfl) (by omega)) (QcN (by rw [Qir];omega)) rfl rfl (by omega) ⟨rfl,rfl⟩) (congrArg (Value.int .u32) (Qsc (by omega))) (Qaa (Qak (.int .u32 (vat v k)) (Qad (Qab (Qaa (Qag (Pq p6 0) (Qaa (Qag (.int .u32 (vat v k)) (Qaa (Qas (V:=.int .u64 (vat v k)) (V':=.int .u64 (((vat v k).toNat:Nat):Int)) (QaB Qdx Qa6 rfl (Qbe (by omega) (by omega)) ⟨rfl,rfl⟩) (congrArg (Value.int .u64) (by omega)) (Qaa (Qa7 (α:=Unit) (vs:=[Pq p6 0,.int .u64 (((vat v k).toNat:Nat):Int)]) (V:=fun _=>I6 0) (R:=wR 212 5 p6 0 L) (R':=fun _=>wR 212 5 p6 0 (L++Qan ((vat v k).toNat))) (Lo:=fun _=>[]) (F:=fun _ _=>True) Qjq rfl rfl Y 1 rfl (fun S0 hS0 hl0=>Qjp _ S0 p6 L ((vat v k).toNat) (by omega) (by first|omega|(simp only [QQ7,List.length_nil];omega)) hS0 hl0) fun _ w11 Y _=>(Qad (Qab (Qaa (Qbx (a:=(k:Int)) (b:=1) (c:=((k+1:Nat):Int)) rfl rfl (QaS (by omega) (by omega)) (Qaa (Qag (I6 ((k+1:Nat):Int)) (Qad ?_)))))))))))))))))))))))
  refine ⟨_,?_,_,k+1,L++Qan ((vat v k).toNat),Qaw (QaN (ds:=([6]++sq 28 9)) (by repeat (first|exact Agr.refl _ _|refine Agr.upd ?_ rfl|refine Agr.mix ?_ rfl))) rfl,(by omega),(by rw [hL,Qho,Qed,List.append_assoc]),(by rw [QQ7];have:=Qbl (n:=(vat v k).toNat) (by omega);omega),rfl,Y.take 2⟩
  omega
 replace c10:=QQ2 c10
 refine Qbs (Qae (Qab (Qaa (Qag (Pq p6 0) (Qaa (Qa7 (vs:=[Pq p6 0]) (V:=fun x:Option Addr × Nat=>.tuple #[.slice x.1 L.length x.2,I6 0]) (R:=wR 212 5 p6 0 L) (R':=fun _=>wR 212 5 p6 0 L) (Lo:=fun x=>[row (.slice x.1 L.length x.2) (L.map (ic .u8)) 5 1]) (F:=fun _ _=>True) QoJ rfl rfl Y 1 rfl (fun S0 hS0 hl0=>QnS _ S0 p6 L (by omega) hS0 hl0) fun x12 w13 Y _=>(Qaa (Qag (.tuple #[.slice x12.1 L.length x12.2,I6 0]) (Qaa (Qaf (V:=.slice x12.1 L.length x12.2) rfl rfl (Qaa (Qaf (V:=I6 0) rfl rfl (Qaa (Qak (.slice x12.1 L.length x12.2) (Qaa (Qak (I6 0) (Qad (Qae (Qab (Qaa (Qag (.slice x12.1 L.length x12.2) (Qaa (Qak (.slice x12.1 L.length x12.2) (Qad (Qat ?_)))))))))))))))))))))))))
 refine ⟨_,Qau (V:=.slice x12.1 L.length x12.2) results49 rfl,?_⟩
 have hX:L=QaF v:=by rw [hL,show k=n by omega];unfold QaF;rw [hvn]
 subst hX
 exact ⟨(x12.1,x12.2),rfl,Y.only 2 rfl,trivial⟩
end Tt
end Go.Proofs
namespace Go.Proofs
open Go Go.Vx Go.RowKit
open Tryz
namespace Tt
theorem Qrq (w:World) (a:Option Addr) (c:Nat) (l:List Int) (a2:Option Addr) (c2:Nat) (l2:List Int) (hl:l.length<=1000000) (hl2:l2.length<=1000000) (hr:Rd w (.slice a l.length c) 1 (l.map (ic .u8))) (hr2:Rd w (.slice a2 l2.length c2) 1 (l2.map (ic .u8))):Calls prog 231 #[.slice a l.length c,.slice a2 l2.length c2] w (fun e w'=>∃ x:Option Addr × Nat,e = .returned (.slice x.1 (l++l2).length x.2)/\Own w no w' [row (.slice x.1 (l++l2).length x.2) ((l++l2).map (ic .u8)) 5 1]/\True):=by
 refine Qal (n:=12) func231 rfl ntmps231 rfl ?_
 have Y:=Own.start w
 have hn:=hr.sml
 have hn2:=hr2.sml
 refine Qae (Qab (Qaa (Qak (.slice none 0 0) (Qad (Qae (Qab (Qaa (Ql2 (vals:=[]) (ls:=List.map (ic .u8) ([]:List Int)) Qca rfl rfl rfl (Qb3 (enc:=(ic .u8)) (fun _=>rfl) _) (QaV (Qbj .u8) _) (QQ8 rfl) Y fun b1 w2 Y=>(Qaa (Qag (.slice a l.length c) (Qaa (QbH (ls':=l.map (ic .u8)) (n:=l.length) Qca Y 0 rfl rfl rfl (Rd.own' hr Y) (QaV (Qbj .u8) _) (by simp only [QQ6,QQ7,List.length_cons,List.length_nil];omega) (by simp) (by simp) fun a3 c3 w4 Y=>(Qaa (Qak (.slice a3 l.length c3) (Qad (Qae (Qab (Qaa (Qag (.slice a3 l.length c3) (Qaa (Qag (.slice a2 l2.length c2) (Qaa (QbH (ls':=(l++l2).map (ic .u8)) (n:=(l++l2).length) Qca Y 0 rfl rfl rfl (Rd.own' hr2 Y) (QaV (Qbj .u8) _) (by simp only [QQ6,QQ7,List.length_cons,List.length_nil];omega) (by simp) (by simp) fun a5 c5 w6 Y=>(Qaa (Qak (.slice a5 ((l++l2).length) c5) (Qad (Qat ?_)))))))))))))))))))))))))))
 refine ⟨_,Qau (V:=.slice a5 ((l++l2).length) c5) results231 rfl,?_⟩
 exact ⟨(a5,c5),rfl,Y.only 0 rfl,trivial⟩
theorem Qf9 (w:World) (a:Option Addr) (c:Nat) (l:List Int) (hl:l.length<=4096) (hr:Rd w (.slice a l.length c) 1 (l.map (ic .u8))):Calls prog 160 #[.slice a l.length c] w (fun e w'=>∃ x:Option Addr × Nat,e = .returned (.slice x.1 (Qan l.length++l).length x.2)/\Own w no w' [row (.slice x.1 (Qan l.length++l).length x.2) ((Qan l.length++l).map (ic .u8)) 5 1]/\True):=by
 refine Qal (n:=9) func160 rfl ntmps160 rfl ?_
 have Y:=Own.start w
 have hn:=hr.sml
 have hp2:=Qk2 (n:=l.length) (by omega)
 refine Qae (Qab (Qaa (Qak (.slice none 0 0) (Qad (Qae (Qab (Qaa (Qag (.slice a l.length c) (Qaa (QbG (n:=l.length) QbJ (Rd.own' hr Y) (by simp) rfl (Qaa (QaB QfT Qa6 rfl (Qbe (by omega) (by omega)) (Qaa (Qax (vs:=[.int .u64 ((l.length:Nat):Int)]) (V:=fun x:Option Addr × Nat=>.slice x.1 (Qan l.length).length x.2) Qel rfl rfl (Qc5 _ l.length (by omega)) Y fun x1 w2 Y _=>(Qaa (Qag (.slice a l.length c) (Qaa (Qax (vs:=[.slice x1.1 ((Qan l.length).length) x1.2,.slice a l.length c]) (V:=fun x:Option Addr × Nat=>.slice x.1 ((Qan l.length)++l).length x.2) QuB rfl rfl (Qrq _ x1.1 x1.2 (Qan l.length) a c l (by omega) (by omega) (Y.rd 0 rfl) (Rd.own' hr Y)) Y fun x3 w4 Y _=>(Qaa (Qak (.slice x3.1 (((Qan l.length)++l).length) x3.2) (Qad (Qat ?_))))))))))))))))))))))
 refine ⟨_,Qau (V:=.slice x3.1 (((Qan l.length)++l).length) x3.2) results160 rfl,?_⟩
 exact ⟨(x3.1,x3.2),rfl,Y.only 1 rfl,trivial⟩
end Tt
end Go.Proofs
namespace Go.Proofs
open Go Go.Vx Go.RowKit
open Tryz
namespace Tt
def Qsb (w:Nat):Nat->Nat
 | 0=>w
 | k+1=>Qe2 (Qsb w k)
theorem Qus (w:Nat):Qsb w 8=QuY w:=rfl
theorem Qn7 {w k x:Nat} (h:x=Qsb w k) (hx:¬x%2=1):x/2=Qsb w (k+1):=by
 subst h;show _=Qe2 _;unfold Qe2;rw [if_neg hx]
theorem QoZ {w k x:Nat} (h:x=Qsb w k) (hx:x%2=1):(x/2) ^^^ 3988292384=Qsb w (k+1):=by
 subst h;show _=Qe2 _;unfold Qe2;rw [if_pos hx];rfl
theorem QsD (w:World) (s:Nat) (hs32:s<4294967296) (c:Int) (hc:0<=c/\c<256):Calls prog 337 #[.int .u32 (s:Int),.int .u8 c] w (fun e w'=>e = .returned (.int .u32 ((Qmh s c:Nat):Int))/\Own w no w' []):=by
 refine Qal (n:=24) func337 rfl ntmps337 rfl ?_
 have Y:=Own.start w
 refine Qae (Qab (Qaa (Qak (.int .u32 0) (Qad (Qae (Qab (Qaa (Qag (.int .u32 (s:Int)) (Qaa (Qag (.int .u8 c) (Qaa (Qas (V:=.int .u32 c) (V':=.int .u32 ((c.toNat:Nat):Int)) (QaB Qfe Qdx rfl (Qjf (by omega) (by omega)) ⟨rfl,rfl⟩) (congrArg (Value.int .u32) (by omega)) (Qaa (Qas (V:=.int .u32 (bits .xor .u32 (s:Int) ((c.toNat:Nat):Int))) (V':=.int .u32 ((s ^^^ c.toNat:Nat):Int)) (Qg8 rfl rfl ⟨rfl,rfl⟩) (congrArg (Value.int .u32) (Qj7 hs32 (by omega))) (Qaa (Qak (.int .u32 ((s ^^^ c.toNat:Nat):Int)) (Qad (Qae (Qae (Qab (Qaa (Qak (I6 0) (Qad (Qay (Qbb (fun J μ J' w'=>∃ (Jo:Env) (k:Nat) (x:Nat),J'=upd (upd (mix ([0,5,6]++sq 11 12) Jo J) 5 (I6 (k:Int))) 0 (.int .u32 (x:Int))/\(k<=8)/\(x=Qsb (s ^^^ c.toNat) k)/\(x<4294967296)/\μ=8-k/\Own w no w' []) ?_ ?_)))))))))))))))))))))))))
 ·exact ⟨_,_,0,s ^^^ c.toNat,Qaw (Qaw (QaN (ds:=([0,5,6]++sq 11 12)) (Agr.refl _ _)) rfl) rfl,(by omega),rfl,(Nat.xor_lt_two_pow (n:=32) hs32 (by omega)),rfl,Y⟩
 rintro μ J' w1 ⟨Jo,k,x,rfl,hk,hx,hx32,rfl,Y⟩
 refine Qae (Qae (Qab (Qaa (Qag (I6 (k:Int)) (Qaa (QbQ rfl rfl (Qad (Qaq (t:=decide ((k:Int)<8)) rfl (fun c2=>?_) (fun c2=>?_)))))))))
 ·
  replace c2:=QQ1 c2
  refine Qar (Qae (Qay (Qae (Qab (Qaa (Qag (.int .u32 (x:Int)) (Qaa (Qas (V:=.int .u32 ((x:Int).tmod 2)) (V':=.int .u32 ((x%2:Nat):Int)) (Qps rfl rfl (by omega) rfl ⟨rfl,rfl⟩) (congrArg (Value.int .u32) (by rw [Int.tmod_eq_emod_of_nonneg (by omega)];omega)) (Qaa (Qak (.int .u32 ((x%2:Nat):Int)) (Qad (Qae ?_))))))))))))
  have hxx:=hx32
  refine Qab (Qaa (Qag (.int .u32 (x:Int)) (Qaa (Qas (V:=.int .u32 (IntKind.u32.wrap ((x:Int).tdiv 2))) (V':=.int .u32 ((x/2:Nat):Int)) (Qst rfl rfl (by omega) rfl ⟨rfl,rfl⟩) (congrArg (Value.int .u32) (by rw [Int.tdiv_eq_ediv_of_nonneg (by omega),IntKind.wrap_u32];omega)) (Qaa (Qak (.int .u32 ((x/2:Nat):Int)) (Qad (Qae (Qab (Qaa (Qag (.int .u32 ((x%2:Nat):Int)) (Qaa (Qas (V:=.bool (decide (((x%2:Nat):Int)=1))) (V':=.bool (decide (x%2=1))) (Qa5 rfl rfl ⟨rfl,rfl⟩) (congrArg Value.bool (decide_eq_decide.2 (by omega))) (Qad (Qaq (t:=decide (x%2=1)) rfl (fun c3=>?_) (fun c3=>?_))))))))))))))))
  ·
   replace c3:=QQ1 c3
   refine Qab (Qaa (Qag (.int .u32 ((x/2:Nat):Int)) (Qaa (Qas (V:=.int .u32 (bits .xor .u32 ((x/2:Nat):Int) 3988292384)) (V':=.int .u32 ((x/2 ^^^ 3988292384:Nat):Int)) (Qg8 rfl rfl ⟨rfl,rfl⟩) (congrArg (Value.int .u32) (Qj7 (y:=3988292384) (by omega) (by decide))) (Qaa (Qak (.int .u32 ((x/2 ^^^ 3988292384:Nat):Int)) (Qad (Qab (Qaa (Qag (I6 (k:Int)) (Qaa (Qbx (a:=(k:Int)) (b:=1) (c:=((k+1:Nat):Int)) rfl rfl (QaS (by omega) (by omega)) (Qaa (Qak (I6 ((k+1:Nat):Int)) (Qad ?_)))))))))))))))
   refine ⟨_,?_,_,k+1,x/2 ^^^ 3988292384,Qaw (Qaw (QaN (ds:=([0,5,6]++sq 11 12)) (by repeat (first|exact Agr.refl _ _|refine Agr.upd ?_ rfl|refine Agr.mix ?_ rfl))) rfl) rfl,(by omega),(QoZ hx (by omega)),(by first|exact Nat.xor_lt_two_pow (n:=32) (by omega) (by omega)|omega),rfl,Y.take 0⟩
   omega
  replace c3:=QQ2 c3
  refine Qar (Qab (Qaa (Qag (I6 (k:Int)) (Qaa (Qbx (a:=(k:Int)) (b:=1) (c:=((k+1:Nat):Int)) rfl rfl (QaS (by omega) (by omega)) (Qaa (Qak (I6 ((k+1:Nat):Int)) (Qad ?_))))))))
  refine ⟨_,?_,_,k+1,x/2,Qaw (Qaw (QaN (ds:=([0,5,6]++sq 11 12)) (by repeat (first|exact Agr.refl _ _|refine Agr.upd ?_ rfl|refine Agr.mix ?_ rfl))) rfl) rfl,(by omega),(Qn7 hx (by omega)),(by first|exact Nat.xor_lt_two_pow (n:=32) (by omega) (by omega)|omega),rfl,Y.take 0⟩
  omega
 replace c2:=QQ2 c2
 refine Qbs (Qae (Qab (Qaa (Qag (.int .u32 (x:Int)) (Qaa (Qak (.int .u32 (x:Int)) (Qad (Qat ?_))))))))
 refine ⟨_,Qau (V:=.int .u32 (x:Int)) results337 rfl,(Zr Y ?_)⟩
 rw [hx,show k=8 by omega,Qus];rfl
theorem QmR (w:World) (s:Nat) (hs32:s<4294967296) (a:Option Addr) (c:Nat) (l:List Int) (hby:QaZ l) (hr:Rd w (.slice a l.length c) 1 (l.map (ic .u8))):Calls prog 286 #[.int .u32 (s:Int),.slice a l.length c] w (fun e w'=>e = .returned (.int .u32 ((Qj9 (s ^^^ 4294967295) l ^^^ 4294967295:Nat):Int))/\Own w no w' []):=by
 refine Qal (n:=23) func286 rfl ntmps286 rfl ?_
 have Y:=Own.start w
 have hn:=hr.sml
 have hx0:s ^^^ 4294967295<4294967296:=Nat.xor_lt_two_pow (n:=32) hs32 (by omega)
 refine Qae (Qab (Qaa (Qak (.int .u32 0) (Qad (Qae (Qab (Qaa (Qag (.int .u32 (s:Int)) (Qaa (Qas (V:=.int .u32 (bits .xor .u32 (s:Int) 4294967295)) (V':=.int .u32 ((s ^^^ 4294967295:Nat):Int)) (Qg8 rfl rfl ⟨rfl,rfl⟩) (congrArg (Value.int .u32) (Qj7 (y:=4294967295) hs32 (by decide))) (Qaa (Qak (.int .u32 ((s ^^^ 4294967295:Nat):Int)) (Qad (Qae (Qae (Qab (Qaa (Qak (I6 0) (Qad (Qay (Qbb (fun J μ J' w'=>∃ (Jo:Env) (k:Nat) (x:Nat),J'=upd (upd (mix ([5,6]++sq 9 12) Jo J) 6 (I6 (k:Int))) 5 (.int .u32 (x:Int))/\(k<=l.length)/\(x=Qj9 (s ^^^ 4294967295) (l.take k))/\(x<4294967296)/\μ=l.length-k/\Own w no w' []) ?_ ?_)))))))))))))))))))))
 ·exact ⟨_,_,0,s ^^^ 4294967295,Qaw (Qaw (QaN (ds:=([5,6]++sq 9 12)) (Agr.refl _ _)) rfl) rfl,(by omega),rfl,(Nat.xor_lt_two_pow (n:=32) hs32 (by omega)),rfl,Y⟩
 rintro μ J' w1 ⟨Jo,k,x,rfl,hk,hx,hx32,rfl,Y⟩
 refine Qae (Qae (Qab (Qaa (Qag (I6 (k:Int)) (Qaa (Qag (.slice a l.length c) (Qaa (QbG (n:=l.length) QbJ (Rd.own' hr Y) (by simp) rfl (Qaa (QbQ rfl rfl (Qad (Qaq (t:=decide ((k:Int)<((l.length:Nat):Int))) rfl (fun c2=>?_) (fun c2=>?_)))))))))))))
 ·
  replace c2:=QQ1 c2
  refine Qar (Qae (Qay ?_))
  have hb:0<=gd l k/\gd l k<256:=hby _ (Qcw (by omega))
  refine Qab (Qaa (Qag (.int .u32 (x:Int)) (Qaa (Qag (.slice a l.length c) (Qaa (Qag (I6 (k:Int)) (Qaa (QcJ QbJ QcG.1 (Rd.own' hr Y) rfl rfl (by omega) (by rw [QQ6];omega) (Qaa (QdX (j:=0) (V:=.int .u8 (gd l k)) k QcG (Rd.own' hr Y) (QcN (by omega)) rfl rfl (by omega) (Qaa (QaH (vs:=[.int .u32 (x:Int),.int .u8 (gd l k)]) (V:=.int .u32 ((Qmh x (gd l k):Nat):Int)) QuI rfl rfl ?hc Y fun w3 Y=>?_))))))))))))
  case hc=>exact (QsD _ x hx32 (gd l k) hb)
  refine Qaa (Qak (.int .u32 ((Qmh x (gd l k):Nat):Int)) (Qad (Qab (Qaa (Qag (I6 (k:Int)) (Qaa (Qbx (a:=(k:Int)) (b:=1) (c:=((k+1:Nat):Int)) rfl rfl (QaS (by omega) (by omega)) (Qaa (Qak (I6 ((k+1:Nat):Int)) (Qad ?_))))))))))
  refine ⟨_,?_,_,k+1,Qmh x (gd l k),Qaw (Qaw (QaN (ds:=([5,6]++sq 9 12)) (by repeat (first|exact Agr.refl _ _|refine Agr.upd ?_ rfl|refine Agr.mix ?_ rfl))) rfl) rfl,(by omega),(by rw [QdY (by omega),Qju,← hx]),(QjV hx32 hb.2),rfl,Y.take 0⟩
  omega
 replace c2:=QQ2 c2
 refine Qbs (Qae (Qab (Qaa (Qag (.int .u32 (x:Int)) (Qaa (Qas (V:=.int .u32 (bits .xor .u32 (x:Int) 4294967295)) (V':=.int .u32 ((x ^^^ 4294967295:Nat):Int)) (Qg8 rfl rfl ⟨rfl,rfl⟩) (congrArg (Value.int .u32) (Qj7 (y:=4294967295) hx32 (by decide))) (Qaa (Qak (.int .u32 ((x ^^^ 4294967295:Nat):Int)) (Qad (Qat ?_))))))))))
 refine ⟨_,Qau (V:=.int .u32 ((x ^^^ 4294967295:Nat):Int)) results286 rfl,(Zr Y ?_)⟩
 rw [hx,List.take_of_length_le (by omega)]
theorem Qo6 (w:World) (a:Option Addr) (c:Nat) (l:List Int) (hby:QaZ l) (hr:Rd w (.slice a l.length c) 1 (l.map (ic .u8))):Calls prog 233 #[.slice a l.length c] w (fun e w'=>e = .returned (.int .u32 ((QbF l:Nat):Int))/\Own w no w' []):=by
 refine Qal (n:=5) func233 rfl ntmps233 rfl ?_
 have Y:=Own.start w
 have hn:=hr.sml
 refine Qae (Qab (Qaa (Qak (.int .u32 0) (Qad (Qae (Qab (Qaa (Qag (.slice a l.length c) (Qaa (QaH (vs:=[.int .u32 0,.slice a l.length c]) (V:=.int .u32 ((Qj9 (0 ^^^ 4294967295) l ^^^ 4294967295:Nat):Int)) Qtm rfl rfl ?hc Y fun w1 Y=>?_))))))))))
 case hc=>exact (QmR _ 0 (by omega) a c l hby (Rd.own' hr Y))
 refine Qaa (Qak (.int .u32 ((Qj9 (0 ^^^ 4294967295) l ^^^ 4294967295:Nat):Int)) (Qad (Qat ?_)))
 refine ⟨_,Qau (V:=.int .u32 ((Qj9 (0 ^^^ 4294967295) l ^^^ 4294967295:Nat):Int)) results233 rfl,(Zr Y ?_)⟩
 rfl
end Tt
end Go.Proofs
namespace Go.Proofs
open Go Go.Vx Go.RowKit
open Tryz
namespace Tt
theorem Qbk {b l:Bs} {k x:Nat} (h:k<l.length):Qd9 b k x (l.drop k)=if 10<=k∨(k=9/\1<gd l k) then (0,0,5) else if gd l k<128 then (if Qan (x+(gd l k).toNat%128*128 ^ k)=b.take (k+1) then (x+(gd l k).toNat%128*128 ^ k,k+1,0) else (0,0,5)) else Qd9 b (k+1) (x+(gd l k).toNat%128*128 ^ k) (l.drop (k+1)):=by
 have e:gd l k=l[k]:=by simp [gd,List.getD_eq_getElem?_getD,h]
 rw [List.drop_eq_getElem_cons h,← e]
 rfl
theorem Qo8 {k:Nat} (h:k<=8):IntKind.u64.wrap (((128 ^ k:Nat):Int)*128)=((128 ^ (k+1):Nat):Int):=by
 have h2:128 ^ (k+1)<=128 ^ 9:=Nat.pow_le_pow_right (by omega) (by omega)
 rw [show ((128 ^ k:Nat):Int)*128=((128 ^ (k+1):Nat):Int) by rw [Nat.pow_succ];push_cast;rfl]
 exact Qj2 rfl (by show _<2 ^ 64;omega)
theorem Qr3 {c k:Nat} (h:c%128*128 ^ k<18446744073709551616):IntKind.u64.wrap (((c%128:Nat):Int)*((128 ^ k:Nat):Int))=((c%128*128 ^ k:Nat):Int):=by
 rw [← Int.natCast_mul];exact Qj2 rfl h
theorem QrV {x y:Nat} (h:x+y<18446744073709551616):IntKind.u64.wrap ((x:Int)+(y:Int))=((x+y:Nat):Int):=by
 rw [← Int.natCast_add];exact Qj2 rfl h
theorem Qrw {x c k:Nat} (hx:x<128 ^ k) (h:k<9∨(k=9/\c<=1)):x+c%128*128 ^ k<18446744073709551616:=by
 rcases h with h|⟨rfl,h⟩
 ·have h2:128 ^ k<=128 ^ 8:=Nat.pow_le_pow_right (by omega) (by omega)
  have h3:c%128*128 ^ k<=127*128 ^ 8:=Nat.mul_le_mul (by omega) h2
  omega
 omega
theorem QmW (w:World) (a:Option Addr) (c:Nat) (l:List Int) (hby:QaZ l) (hr:Rd w (.slice a l.length c) 1 (l.map (ic .u8))):Calls prog 168 #[.slice a l.length c] w (fun e w'=>e = .returned (.tuple #[.int .u64 ((Qai 0 0 l).1:Int),.int .i64 ((Qai 0 0 l).2.1:Int),.int .i64 ((Qai 0 0 l).2.2:Int)])/\Own w no w' []):=by
 refine Qal (n:=54) func168 rfl ntmps168 rfl ?_
 have Y:=Own.start w
 have hn:=hr.sml
 refine Qae (Qab (Qaa (Qak (.int .u64 0) (Qaa (Qak (I6 0) (Qaa (Qak (I6 0) (Qad (Qae (Qab (Qaa (Qak (.int .u64 0) (Qaa (Qak (.int .u64 1) (Qad (Qae (Qae (Qab (Qaa (Qak (I6 0) (Qad (Qay (Qbb (fun J μ J' w'=>∃ (Jo:Env) (k:Nat) (y:Nat),J'=upd (upd (upd (mix (sq 2 52) Jo J) 7 (I6 (k:Int))) 5 (.int .u64 (y:Int))) 6 (.int .u64 ((128 ^ k:Nat):Int))/\(k<=l.length)/\(k<=9)/\(y<128 ^ k)/\(Qd9 l 0 0 l=Qd9 l k y (l.drop k))/\μ=10-k/\Own w no w' []) ?_ ?_)))))))))))))))))))))))
 ·exact ⟨_,_,0,0,Qaw (Qaw (Qaw (QaN (ds:=(sq 2 52)) (Agr.refl _ _)) rfl) rfl) rfl,(Nat.zero_le _),(Nat.zero_le _),Nat.one_pos,rfl,rfl,Y⟩
 rintro μ J' w1 ⟨Jo,k,y,rfl,hk,hk9,hx,hg,rfl,Y⟩
 refine Qae (Qae (Qab (Qaa (Qag (I6 (k:Int)) (Qaa (QbQ rfl rfl (Qad (Qaq (t:=decide ((k:Int)<10)) rfl (fun c2=>?_) (fun c2=>?_)))))))))
 ·
  replace c2:=QQ1 c2
  refine Qar (Qae (Qay (Qae (Qae (Qab (Qaa (Qag (I6 (k:Int)) (Qaa (Qag (.slice a l.length c) (Qaa (QbG (n:=l.length) QbJ (Rd.own' hr Y) (by simp) rfl (Qaa (Qa5 rfl rfl (Qad (Qaq (t:=decide ((k:Int)=((l.length:Nat):Int))) rfl (fun c3=>?_) (fun c3=>?_))))))))))))))))
  ·
   replace c3:=QQ1 c3
   refine Qae (Qab (Qaa (Qak (.int .u64 0) (Qaa (Qak (I6 0) (Qaa (Qak (I6 4) (Qad (Qat ?_)))))))))
   refine ⟨_,Qa9 (U:=.int .u64 0) (V:=I6 0) (Z:=I6 4) results168 rfl rfl rfl,?_⟩
   rw [← QdW hby]
   first
    | exact ⟨by rw [show Qd9 l 0 0 l=(0,0,4) by rw [hg,List.drop_eq_nil_of_le (by omega)];unfold Qd9;rw [if_pos (by omega)]];rfl,Y.take 0⟩
    | exact ⟨by rw [show Qd9 l 0 0 l=(0,0,5) by rw [hg,Qbk (by omega),if_pos (by omega)]];rfl,Y.take 0⟩
    | exact ⟨by rw [show Qd9 l 0 0 l=(0,0,5) by rw [hg,Qbk (by omega),if_neg (by omega),if_pos (by omega),if_neg (by assumption)]];rfl,Y.take 0⟩
    | exact ⟨by rw [show Qd9 l 0 0 l=(y+(gd l k).toNat%128*128 ^ k,k+1,0) by rw [hg,Qbk (by omega),if_neg (by omega),if_pos (by omega),if_pos (by assumption)]];rfl,Y.take 0⟩
  replace c3:=QQ2 c3
  refine Qar (Qae (Qae ?_))
  have hb:0<=gd l k/\gd l k<256:=hby _ (Qcw (by omega))
  refine Qa2 (so 16 9) [] [0,1,3,7,7,31,63,127,255] [pv (I6 (k:Int)),pv (.bool (decide ((k:Int)=9))),pv (.bool (decide ((k:Int)=9))),pg ((decide ((k:Int)=9)) == true) (.slice a l.length c),pg ((decide ((k:Int)=9)) == true) (I6 (k:Int)),pg ((decide ((k:Int)=9)) == true) (.pointer (some ⟨bkS (.slice a l.length c),ofS (.slice a l.length c)+(k:Int).toNat*1,none⟩)),pg ((decide ((k:Int)=9)) == true) (.int .u8 (gd l k)),pg ((decide ((k:Int)=9)) == true) (.bool (decide (1<gd l k))),pv (.bool ((decide ((k:Int)=9))&&(decide (1<gd l k))))] (fun _ _=>_) [8] (by kernel_rfl) Y ⟨?_,?_,?_,?_,?_,?_,?_,?_,?_,trivial⟩ ?_
  ·exact oi [] fun Y=>Qag (.int .i64 (k:Int)) (Zz Y)
  ·exact oi [0] fun Y=>Qa5 rfl rfl (Zz Y)
  ·exact oi [1] fun Y=>Qag (.bool (decide ((k:Int)=9))) (Zz Y)
  ·exact ogi [2] fun hG Y=>Qag (.slice a l.length c) (Zz Y)
  ·exact ogi [2] fun hG Y=>Qag (.int .i64 (k:Int)) (Zz Y)
  ·refine oyi [2,3,4] [3,4] fun hG Y=>?_
   have hgd:=QQ1 (eq_of_beq (hG))
   exact QcJ QbJ QcG.1 (Rd.own' hr Y) rfl rfl (by omega) (by rw [QQ6];omega) (Zz Y)
  ·refine oyi [2,5] [5] fun hG Y=>?_
   have hgd:=QQ1 (eq_of_beq (hG))
   exact QdX (j:=0) (V:=.int .u8 (gd l k)) k QcG (Rd.own' hr Y) (QcN (by omega)) rfl rfl (by omega) (Zz Y)
  ·exact oyi [2,6] [6] fun hG Y=>Qck rfl rfl (Zz Y)
  ·exact oi [2,7] fun Y=>Qa0 (h':=decide (1<gd l k)) rfl rfl rfl (Zz Y)
  rintro J1 w4 J2 hJ Y
  replace hJ:J2=upd (mix (sq 16 9) J1 _) 24 (.bool ((decide ((k:Int)=9))&&(decide (1<gd l k)))):=hJ
  subst hJ
  refine Qaq (t:=(decide ((k:Int)=9))&&(decide (1<gd l k))) rfl (fun c5=>?_) (fun c5=>?_)
  ·
   have c5r:=Qhi c5
   replace c5:=Qee c5
   replace c5:=QQ1 c5
   replace c5r:=QQ1 c5r
   refine Qae (Qab (Qaa (Qak (.int .u64 0) (Qaa (Qak (I6 0) (Qaa (Qak (I6 5) (Qad (Qat ?_)))))))))
   refine ⟨_,Qa9 (U:=.int .u64 0) (V:=I6 0) (Z:=I6 5) results168 rfl rfl rfl,?_⟩
   rw [← QdW hby]
   first
    | exact ⟨by rw [show Qd9 l 0 0 l=(0,0,4) by rw [hg,List.drop_eq_nil_of_le (by omega)];unfold Qd9;rw [if_pos (by omega)]];rfl,Y.take 0⟩
    | exact ⟨by rw [show Qd9 l 0 0 l=(0,0,5) by rw [hg,Qbk (by omega),if_pos (by omega)]];rfl,Y.take 0⟩
    | exact ⟨by rw [show Qd9 l 0 0 l=(0,0,5) by rw [hg,Qbk (by omega),if_neg (by omega),if_pos (by omega),if_neg (by assumption)]];rfl,Y.take 0⟩
    | exact ⟨by rw [show Qd9 l 0 0 l=(y+(gd l k).toNat%128*128 ^ k,k+1,0) by rw [hg,Qbk (by omega),if_neg (by omega),if_pos (by omega),if_pos (by assumption)]];rfl,Y.take 0⟩
  refine Qar (Qae ?_)
  have h9:¬(k=9/\1<gd l k):=by have:=c5;simp only [Bool.and_eq_false_iff,decide_eq_false_iff_not] at this;omega
  have hq:(gd l k).toNat%128*128 ^ k<18446744073709551616:=Quj (by omega)
  have hq2:y+(gd l k).toNat%128*128 ^ k<18446744073709551616:=Qrw hx (by omega)
  refine Qab (Qaa (Qag (.int .u64 (y:Int)) (Qaa (Qag (.slice a l.length c) (Qaa (Qag (I6 (k:Int)) (Qaa (QcJ QbJ QcG.1 (Rd.own' hr Y) rfl rfl (by omega) (by rw [QQ6];omega) (Qaa (QdX (j:=0) (V:=.int .u8 (gd l k)) k QcG (Rd.own' hr Y) (QcN (by omega)) rfl rfl (by omega) (Qaa (Qas (V:=.int .u8 ((gd l k).tmod 128)) (V':=.int .u8 (((gd l k).toNat%128:Nat):Int)) (Qps rfl rfl (by omega) rfl ⟨rfl,rfl⟩) (congrArg (Value.int .u8) (by rw [Int.tmod_eq_emod_of_nonneg (by omega)];omega)) (Qaa (QaB Qfe Qa6 rfl (Qbe (by omega) (by omega)) (Qaa (Qag (.int .u64 ((128 ^ k:Nat):Int)) (Qaa (Qas (V:=.int .u64 (IntKind.u64.wrap ((((gd l k).toNat%128:Nat):Int)*((128 ^ k:Nat):Int)))) (V':=.int .u64 (((gd l k).toNat%128*128 ^ k:Nat):Int)) (QrN (a:=(((gd l k).toNat%128:Nat):Int)) (b:=((128 ^ k:Nat):Int)) (c:=IntKind.u64.wrap ((((gd l k).toNat%128:Nat):Int)*((128 ^ k:Nat):Int))) rfl rfl rfl ⟨rfl,rfl⟩) (congrArg (Value.int .u64) (Qr3 hq)) (Qaa (Qas (V:=.int .u64 (IntKind.u64.wrap ((y:Int)+(((gd l k).toNat%128*128 ^ k:Nat):Int)))) (V':=.int .u64 ((y+(gd l k).toNat%128*128 ^ k:Nat):Int)) (Qbx (a:=(y:Int)) (b:=(((gd l k).toNat%128*128 ^ k:Nat):Int)) (c:=IntKind.u64.wrap ((y:Int)+(((gd l k).toNat%128*128 ^ k:Nat):Int))) rfl rfl rfl ⟨rfl,rfl⟩) (congrArg (Value.int .u64) (QrV hq2)) (Qaa (Qak (.int .u64 ((y+(gd l k).toNat%128*128 ^ k:Nat):Int)) (Qad (Qae (Qab (Qaa (Qag (.int .u64 ((128 ^ k:Nat):Int)) (Qaa (QrN (a:=((128 ^ k:Nat):Int)) (b:=128) (c:=IntKind.u64.wrap (((128 ^ k:Nat):Int)*128)) rfl rfl rfl (Qaa (Qak (.int .u64 (IntKind.u64.wrap (((128 ^ k:Nat):Int)*128))) (Qad (Qae (Qab (Qaa (Qag (.slice a l.length c) (Qaa (Qag (I6 (k:Int)) (Qaa (QcJ QbJ QcG.1 (Rd.own' hr Y) rfl rfl (by omega) (by rw [QQ6];omega) (Qaa (QdX (j:=0) (V:=.int .u8 (gd l k)) k QcG (Rd.own' hr Y) (QcN (by omega)) rfl rfl (by omega) (Qaa (QbQ rfl rfl (Qad (Qaq (t:=decide (gd l k<128)) rfl (fun c6=>?_) (fun c6=>?_)))))))))))))))))))))))))))))))))))))))))))))))
  ·
   replace c6:=QQ1 c6
   refine Qae (Qae ?_)
   replace Y:=Y.more emp trivial
   refine Qcm HM (so 42 9) [[],[43]] [0,1,3,0,0,16,56,120,255] [pv (.int .u64 ((y+(gd l k).toNat%128*128 ^ k:Nat):Int)),(true,fun J=>.slice (aOf (J 43)) ((Qan (y+(gd l k).toNat%128*128 ^ k)).length) (cOf (J 43))),pv (sv (sOf (Qan (y+(gd l k).toNat%128*128 ^ k)))),pv (.slice a l.length c),pv (I6 (k:Int)),pv (I6 ((k+1:Nat):Int)),pv (.slice (sla a 0 c 1) ((l.take (k+1)).length) (c-0)),pv (sv (sOf (l.take (k+1)))),pv (.bool (!decide (Qan (y+(gd l k).toNat%128*128 ^ k)=l.take (k+1))))] (fun D J=>[cond (D 1) (row (.slice (aOf (J 43)) ((Qan (y+(gd l k).toNat%128*128 ^ k)).length) (cOf (J 43))) ((Qan (y+(gd l k).toNat%128*128 ^ k)).map (ic .u8)) 5 1) (emp)]) [8] (by kernel_rfl) Y ⟨?_,?_,?_,?_,?_,?_,?_,?_,?_,trivial⟩ ?_
   ·exact oi [] fun Y=>Qag (.int .u64 ((y+(gd l k).toNat%128*128 ^ k:Nat):Int)) (Zz Y)
   ·exact oi [0] fun Y=>Qax (vs:=[.int .u64 ((y+(gd l k).toNat%128*128 ^ k:Nat):Int)]) (V:=fun x:Option Addr × Nat=>.slice x.1 (Qan (y+(gd l k).toNat%128*128 ^ k)).length x.2) Qel rfl rfl (Qc5 _ (y+(gd l k).toNat%128*128 ^ k) (by omega)) Y fun _ _ Y _=>⟨rfl,Y.put 0 (QQ8 rfl)⟩
   ·exact oi [1] fun Y=>QbS Qbh QdG QdF (Y.rd 0 rfl) rfl (Zz Y)
   ·exact oi [] fun Y=>Qag (.slice a l.length c) (Zz Y)
   ·exact oi [] fun Y=>Qag (.int .i64 (k:Int)) (Zz Y)
   ·exact oi [4] fun Y=>Qbx (a:=(k:Int)) (b:=1) (c:=((k+1:Nat):Int)) rfl rfl (QaS (by omega) (by omega)) (Zz Y)
   ·exact oi [3,5] fun Y=>Qkk (l:=0) (h:=k+1) (m:=c) (n':=(l.take (k+1)).length) Qbh QcG.1 (Rd.own' hr Y) rfl (.inl ⟨rfl,rfl⟩) (.inr ⟨_,_,rfl,rfl⟩) (.inl ⟨rfl,rfl⟩) (by omega) (by omega) (Nat.le_trans (show (k+1)<=l.length by omega) (Rd.roomM (Rd.own' hr Y))) (Nat.le_refl _) (by simp only [List.length_take,List.length_drop]<;>omega) (Zz Y)
   ·exact oi [6] fun Y=>QbS Qbh QdG QdF (Rd.subM (Rd.own' hr Y) 0 (k+1) c (by omega) (by omega) (Nat.le_trans (show (k+1)<=l.length by omega) (Rd.roomM (Rd.own' hr Y))) (Nat.le_refl _) _ (by simp only [List.length_take,List.length_drop]<;>omega)) rfl (Zz Y)
   ·exact oi [2,7] fun Y=>Qas (V:=.bool (!decide (sOf (Qan (y+(gd l k).toNat%128*128 ^ k))=sOf (l.take (k+1))))) (V':=.bool (!decide (Qan (y+(gd l k).toNat%128*128 ^ k)=l.take (k+1)))) (QiP rfl rfl ⟨rfl,rfl⟩) (congrArg (fun b:Bool=>Value.bool (!b)) (QfF (Qc6 _) (hby.take _))) (Zz Y)
   rintro J1 w8 J2 hJ Y
   replace hJ:J2=upd (mix (sq 42 9) J1 _) 50 (.bool (!decide (Qan (y+(gd l k).toNat%128*128 ^ k)=l.take (k+1)))):=hJ
   replace Y:Own w no w8 [row (.slice (aOf (J1 43)) ((Qan (y+(gd l k).toNat%128*128 ^ k)).length) (cOf (J1 43))) ((Qan (y+(gd l k).toNat%128*128 ^ k)).map (ic .u8)) 5 1]:=Y
   generalize (aOf (J1 43))=a9 at Y
   generalize (cOf (J1 43))=c10 at Y
   subst hJ
   refine Qaq (t:=!decide (Qan (y+(gd l k).toNat%128*128 ^ k)=l.take (k+1))) rfl (fun c11=>?_) (fun c11=>?_)
   ·
    replace c11:=Qcb c11
    replace c11:=QQ2 c11
    refine Qae (Qab (Qaa (Qak (.int .u64 0) (Qaa (Qak (I6 0) (Qaa (Qak (I6 5) (Qad (Qat ?_)))))))))
    refine ⟨_,Qa9 (U:=.int .u64 0) (V:=I6 0) (Z:=I6 5) results168 rfl rfl rfl,?_⟩
    rw [← QdW hby]
    first
     | exact ⟨by rw [show Qd9 l 0 0 l=(0,0,4) by rw [hg,List.drop_eq_nil_of_le (by omega)];unfold Qd9;rw [if_pos (by omega)]];rfl,Y.take 0⟩
     | exact ⟨by rw [show Qd9 l 0 0 l=(0,0,5) by rw [hg,Qbk (by omega),if_pos (by omega)]];rfl,Y.take 0⟩
     | exact ⟨by rw [show Qd9 l 0 0 l=(0,0,5) by rw [hg,Qbk (by omega),if_neg (by omega),if_pos (by omega),if_neg (by assumption)]];rfl,Y.take 0⟩
     | exact ⟨by rw [show Qd9 l 0 0 l=(y+(gd l k).toNat%128*128 ^ k,k+1,0) by rw [hg,Qbk (by omega),if_neg (by omega),if_pos (by omega),if_pos (by assumption)]];rfl,Y.take 0⟩
   replace c11:=Qa3 c11
   replace c11:=QQ1 c11
   refine Qar (Qae (Qab (Qaa (Qag (.int .u64 ((y+(gd l k).toNat%128*128 ^ k:Nat):Int)) (Qaa (Qag (I6 (k:Int)) (Qaa (Qbx (a:=(k:Int)) (b:=1) (c:=((k+1:Nat):Int)) rfl rfl (QaS (by omega) (by omega)) (Qaa (Qak (.int .u64 ((y+(gd l k).toNat%128*128 ^ k:Nat):Int)) (Qaa (Qak (I6 ((k+1:Nat):Int)) (Qaa (Qak (I6 0) (Qad (Qat ?_))))))))))))))))
   refine ⟨_,Qa9 (U:=.int .u64 ((y+(gd l k).toNat%128*128 ^ k:Nat):Int)) (V:=I6 ((k+1:Nat):Int)) (Z:=I6 0) results168 rfl rfl rfl,?_⟩
   rw [← QdW hby]
   first
    | exact ⟨by rw [show Qd9 l 0 0 l=(0,0,4) by rw [hg,List.drop_eq_nil_of_le (by omega)];unfold Qd9;rw [if_pos (by omega)]];rfl,Y.take 0⟩
    | exact ⟨by rw [show Qd9 l 0 0 l=(0,0,5) by rw [hg,Qbk (by omega),if_pos (by omega)]];rfl,Y.take 0⟩
    | exact ⟨by rw [show Qd9 l 0 0 l=(0,0,5) by rw [hg,Qbk (by omega),if_neg (by omega),if_pos (by omega),if_neg (by assumption)]];rfl,Y.take 0⟩
    | exact ⟨by rw [show Qd9 l 0 0 l=(y+(gd l k).toNat%128*128 ^ k,k+1,0) by rw [hg,Qbk (by omega),if_neg (by omega),if_pos (by omega),if_pos (by assumption)]];rfl,Y.take 0⟩
  replace c6:=QQ2 c6
  refine Qar (Qab (Qaa (Qag (I6 (k:Int)) (Qaa (Qbx (a:=(k:Int)) (b:=1) (c:=((k+1:Nat):Int)) rfl rfl (QaS (by omega) (by omega)) (Qaa (Qak (I6 ((k+1:Nat):Int)) (Qad ?_))))))))
  refine ⟨_,?_,_,k+1,y+(gd l k).toNat%128*128 ^ k,Qaw (Qaw (Qaw (QaN (ds:=(sq 2 52)) (by repeat (first|exact Agr.refl _ _|refine Agr.upd ?_ rfl|refine Agr.mix ?_ rfl))) rfl) rfl) (congrArg (Value.int .u64) (Qo8 (by omega))),(by omega),(by omega),(QqV hx),(by rw [hg,Qbk (by omega),if_neg (by omega),if_neg (by omega)]),rfl,Y.take 0⟩
  omega
 replace c2:=QQ2 c2
 refine Qbs (Qae (Qab (Qaa (Qak (.int .u64 0) (Qaa (Qak (I6 0) (Qaa (Qak (I6 5) (Qad (Qat ?_))))))))))
 refine ⟨_,Qa9 (U:=.int .u64 0) (V:=I6 0) (Z:=I6 5) results168 rfl rfl rfl,?_⟩
 rw [← QdW hby]
 first
  | exact ⟨by rw [show Qd9 l 0 0 l=(0,0,4) by rw [hg,List.drop_eq_nil_of_le (by omega)];unfold Qd9;rw [if_pos (by omega)]];rfl,Y.take 0⟩
  | exact ⟨by rw [show Qd9 l 0 0 l=(0,0,5) by rw [hg,Qbk (by omega),if_pos (by omega)]];rfl,Y.take 0⟩
  | exact ⟨by rw [show Qd9 l 0 0 l=(0,0,5) by rw [hg,Qbk (by omega),if_neg (by omega),if_pos (by omega),if_neg (by assumption)]];rfl,Y.take 0⟩
  | exact ⟨by rw [show Qd9 l 0 0 l=(y+(gd l k).toNat%128*128 ^ k,k+1,0) by rw [hg,Qbk (by omega),if_neg (by omega),if_pos (by omega),if_pos (by assumption)]];rfl,Y.take 0⟩
end Tt
end Go.Proofs
namespace Go.Proofs
open Go Go.Vx Go.RowKit
open Tryz
namespace Tt
theorem Qgq (w:World) (a:Option Addr) (c:Nat) (l:List Int) (hl:l.length<=4096) (hr:Rd w (.slice a l.length c) 1 (l.map (ic .u8))):Calls prog 160 #[.slice a l.length c] w (fun e w'=>∃ x:Option Addr × Nat,e = .returned (.slice x.1 (QaM l).length x.2)/\Own w no w' [row (.slice x.1 (QaM l).length x.2) ((QaM l).map (ic .u8)) 5 1]/\True):=Qf9 w a c l hl hr
theorem Qf5 (w:World) (a:Option Addr) (c:Nat) (l:List Int) (hby:QaZ l) (hl:l.length<=4096) (hr:Rd w (.slice a l.length c) 1 (l.map (ic .u8))):Calls prog 163 #[.slice a l.length c] w (fun e w'=>∃ x:Option Addr × Nat,e = .returned (.tuple #[.slice x.1 (Qaz l).length x.2,.int .i64 0])/\Own w no w' [row (.slice x.1 (Qaz l).length x.2) ((Qaz l).map (ic .u8)) 5 1]/\True):=by
 refine Qal (n:=27) func163 rfl ntmps163 rfl ?_
 have Y:=Own.start w
 have hn:=hr.sml
 have hp2:=QbV (l:=l) (by omega)
 have hs32:QbF (QaM l)<4294967296:=Qof (Qdo hby)
 refine Qae (Qab (Qaa (Qak (.slice none 0 0) (Qaa (Qak (I6 0) (Qad (Qae (Qae (Qab (Qaa (Qag (.slice a l.length c) (Qaa (QbG (n:=l.length) QbJ (Rd.own' hr Y) (by simp) rfl (Qaa (Qck rfl rfl (Qad (Qaq (t:=decide (4096<((l.length:Nat):Int))) rfl (fun c1=>?_) (fun c1=>?_))))))))))))))))))
 ·
  replace c1:=QQ1 c1
  refine Qae (Qab (Qaa (Qak (.slice none 0 0) (Qaa (Qak (I6 3) (Qad (Qat ?_)))))))
  refine ⟨_,Qbq (U:=.slice none 0 0) (V:=I6 3) results163 rfl rfl,?_⟩
  exact absurd c1 (by omega)
 replace c1:=QQ2 c1
 refine Qar (Qae (Qab (Qaa (Qag (.slice a l.length c) (Qaa (Qax (vs:=[.slice a l.length c]) (V:=fun x:Option Addr × Nat=>.slice x.1 (QaM l).length x.2) QjI rfl rfl (Qgq _ a c l (by omega) (Rd.own' hr Y)) Y fun x2 w3 Y _=>(Qaa (Qak (.slice x2.1 ((QaM l).length) x2.2) (Qad (Qae (Qab (Qaa (Qag (.slice x2.1 ((QaM l).length) x2.2) (Qaa (QaH (vs:=[.slice x2.1 ((QaM l).length) x2.2]) (V:=.int .u32 ((QbF (QaM l):Nat):Int)) QuF rfl rfl ?hc Y fun w4 Y=>?_)))))))))))))))
 case hc=>exact (Qo6 _ x2.1 x2.2 (QaM l) (Qdo hby) (Y.rd 0 rfl))
 refine Qaa (Qak (.int .u32 ((QbF (QaM l):Nat):Int)) (Qad (Qae (Qae (Qab (Qaa (Qak (I6 0) (Qad (Qay (Qbb (fun J μ J' w'=>∃ (Jo:Env) (k:Nat) (a9:Option Addr) (c9:Nat) (L:List Int) (y:Nat),J'=upd (upd (upd (mix ([4,5,6]++sq 14 12) Jo J) 6 (I6 (k:Int))) 4 (.slice a9 L.length c9)) 5 (.int .u32 (y:Int))/\(k<=4)/\(y=QbF (QaM l)/256 ^ k)/\(y<4294967296)/\(L=QaM l++(Qek (QbF (QaM l))).take k)/\μ=4-k/\Own w no w' [row (.slice a9 L.length c9) (L.map (ic .u8)) 5 1]) ?_ ?_))))))))))
 ·exact ⟨_,_,0,x2.1,x2.2,QaM l,QbF (QaM l),Qaw (Qaw (Qaw (QaN (ds:=([4,5,6]++sq 14 12)) (Agr.refl _ _)) rfl) rfl) rfl,(by omega),((Nat.div_one _).symm),hs32,((List.append_nil _).symm),rfl,Y⟩
 rintro μ J' w5 ⟨Jo,k,a9,c9,L,y,rfl,hk,hy,hy32,hL,rfl,Y⟩
 refine Qae (Qae (Qab (Qaa (Qag (I6 (k:Int)) (Qaa (QbQ rfl rfl (Qad (Qaq (t:=decide ((k:Int)<4)) rfl (fun c6=>?_) (fun c6=>?_)))))))))
 ·
  replace c6:=QQ1 c6
  refine Qar (Qae (Qay (Qae ?_)))
  have hLl:L.length<=4200:=by rw [hL,QQ7,List.length_take];omega
  refine Qab (Qaa (Qag (.slice a9 L.length c9) (Qaa (Qag (.int .u32 (y:Int)) (Qaa (Qas (V:=.int .u32 ((y:Int).tmod 256)) (V':=.int .u32 ((y%256:Nat):Int)) (Qps rfl rfl (by omega) rfl ⟨rfl,rfl⟩) (congrArg (Value.int .u32) (by rw [Int.tmod_eq_emod_of_nonneg (by omega)];omega)) (Qaa (QaB Qdx Qfe rfl (Qki (by omega) (by omega)) (Qaa (Ql2 (vals:=[.int .u8 ((y%256:Nat):Int)]) (ls:=List.map (ic .u8) ([((y%256:Nat):Int)]:List Int)) Qca rfl rfl rfl (Qb3 (enc:=(ic .u8)) (fun _=>rfl) _) (QaV (Qbj .u8) _) (QQ8 rfl) Y fun b7 w8 Y=>(Qaa (QbH (ls':=(L++[((y%256:Nat):Int)]).map (ic .u8)) (n:=(L++[((y%256:Nat):Int)]).length) Qca Y 0 rfl rfl rfl (Y.rd 1 rfl) (QaV (Qbj .u8) _) (by simp only [QQ6,QQ7,List.length_cons,List.length_nil];omega) (by simp) (by simp) fun a9 c9 w10 Y=>(Qaa (Qak (.slice a9 ((L++[((y%256:Nat):Int)]).length) c9) (Qad (Qab (Qaa (Qag (.int .u32 (y:Int)) (Qaa (Qas (V:=.int .u32 (IntKind.u32.wrap ((y:Int).tdiv 256))) (V':=.int .u32 ((y/256:Nat):Int)) (Qst rfl rfl (by omega) rfl ⟨rfl,rfl⟩) (congrArg (Value.int .u32) (by rw [Int.tdiv_eq_ediv_of_nonneg (by omega),IntKind.wrap_u32];omega)) (Qaa (Qak (.int .u32 ((y/256:Nat):Int)) (Qad (Qab (Qaa (Qag (I6 (k:Int)) (Qaa (Qbx (a:=(k:Int)) (b:=1) (c:=((k+1:Nat):Int)) rfl rfl (QaS (by omega) (by omega)) (Qaa (Qak (I6 ((k+1:Nat):Int)) (Qad ?_)))))))))))))))))))))))))))))))
  refine ⟨_,?_,_,k+1,a9,c9,L++[((y%256:Nat):Int)],y/256,Qaw (Qaw (Qaw (QaN (ds:=([4,5,6]++sq 14 12)) (by repeat (first|exact Agr.refl _ _|refine Agr.upd ?_ rfl|refine Agr.mix ?_ rfl))) rfl) rfl) rfl,(by omega),(by rw [hy,QpU]),(by omega),(by rw [hL,Qog (by omega),List.append_assoc,← hy]),rfl,Y.take 1⟩
  omega
 replace c6:=QQ2 c6
 refine Qbs (Qae (Qab (Qaa (Qag (.slice a9 L.length c9) (Qaa (Qak (.slice a9 L.length c9) (Qaa (Qak (I6 0) (Qad (Qat ?_))))))))))
 refine ⟨_,Qbq (U:=.slice a9 L.length c9) (V:=I6 0) results163 rfl rfl,?_⟩
 have hX:L=Qaz l:=by rw [hL,show k=4 by omega,Qpk];rfl
 subst hX
 exact ⟨(a9,c9),rfl,Y.only 0 rfl,trivial⟩
theorem QmF (w:World) (a:Option Addr) (c:Nat) (l:List Int) (hby:QaZ l) (hl:l.length<=1000000) (hr:Rd w (.slice a l.length c) 1 (l.map (ic .u8))):Calls prog 84 #[.slice a l.length c] w (fun e w'=>e = .returned (.tuple #[.slice (fA a c l) (QaP l).1.length (fC c l),.int .i64 ((QaP l).2.1:Int),.int .i64 ((QaP l).2.2:Int)])/\Own w no w' []):=by
 refine Qal (n:=53) func84 rfl ntmps84 rfl ?_
 have Y:=Own.start w
 have hn:=hr.sml
 refine Qae (Qab (Qaa (Qak (.slice none 0 0) (Qaa (Qak (I6 0) (Qaa (Qak (I6 0) (Qad (Qae (Qab (Qaa (Qag (.slice a l.length c) (Qaa (QaH (vs:=[.slice a l.length c]) (V:=.tuple #[.int .u64 (((Qai 0 0 l).1:Nat):Int),I6 (((Qai 0 0 l).2.1:Nat):Int),I6 (((Qai 0 0 l).2.2:Nat):Int)]) QqO rfl rfl ?hc Y fun w1 Y=>?_))))))))))))))
 case hc=>exact (QmW _ a c l hby (Rd.own' hr Y))
 refine Qaa (Qag (.tuple #[.int .u64 (((Qai 0 0 l).1:Nat):Int),I6 (((Qai 0 0 l).2.1:Nat):Int),I6 (((Qai 0 0 l).2.2:Nat):Int)]) (Qaa (Qaf (V:=.int .u64 (((Qai 0 0 l).1:Nat):Int)) rfl rfl (Qaa (Qaf (V:=I6 (((Qai 0 0 l).2.1:Nat):Int)) rfl rfl (Qaa (Qaf (V:=I6 (((Qai 0 0 l).2.2:Nat):Int)) rfl rfl (Qaa (Qak (.int .u64 (((Qai 0 0 l).1:Nat):Int)) (Qaa (Qak (I6 (((Qai 0 0 l).2.1:Nat):Int)) (Qaa (Qak (I6 (((Qai 0 0 l).2.2:Nat):Int)) (Qad (Qae (Qae (Qab (Qaa (Qag (I6 (((Qai 0 0 l).2.2:Nat):Int)) (Qaa (QbM rfl rfl (Qad (Qaq (t:=!decide ((((Qai 0 0 l).2.2:Nat):Int)=0)) rfl (fun c2=>?_) (fun c2=>?_))))))))))))))))))))))))
 ·
  replace c2:=Qcb c2
  replace c2:=QQ2 c2
  refine Qae (Qab (Qaa (Qag (I6 (((Qai 0 0 l).2.2:Nat):Int)) (Qaa (Qak (.slice none 0 0) (Qaa (Qak (I6 0) (Qaa (Qak (I6 (((Qai 0 0 l).2.2:Nat):Int)) (Qad (Qat ?_)))))))))))
  refine ⟨_,Qa9 (U:=.slice none 0 0) (V:=I6 0) (Z:=I6 (((Qai 0 0 l).2.2:Nat):Int)) results84 rfl rfl rfl,?_⟩
  unfold fA fC
  rw [Qmz (l:=l) (by omega)]
  simp only
  rw [if_neg (by omega),if_neg (by omega)]
  exact ⟨rfl,Y.take 0⟩
 replace c2:=Qa3 c2
 replace c2:=QQ1 c2
 refine Qar (Qae (Qae (Qab (Qaa (Qag (.int .u64 (((Qai 0 0 l).1:Nat):Int)) (Qaa (Qck rfl rfl (Qad (Qaq (t:=decide (4096<(((Qai 0 0 l).1:Nat):Int))) rfl (fun c3=>?_) (fun c3=>?_))))))))))
 ·
  replace c3:=QQ1 c3
  refine Qae (Qab (Qaa (Qak (.slice none 0 0) (Qaa (Qak (I6 0) (Qaa (Qak (I6 5) (Qad (Qat ?_)))))))))
  refine ⟨_,Qa9 (U:=.slice none 0 0) (V:=I6 0) (Z:=I6 5) results84 rfl rfl rfl,?_⟩
  unfold fA fC
  rw [QiJ (l:=l) (by omega) (by omega)]
  exact ⟨rfl,Y.take 0⟩
 replace c3:=QQ2 c3
 refine Qar (Qae ?_)
 have hgk:=Qub hby (by omega)
 refine Qab (Qaa (Qag (I6 (((Qai 0 0 l).2.1:Nat):Int)) (Qaa (Qag (.int .u64 (((Qai 0 0 l).1:Nat):Int)) (Qaa (QaB Qa6 QfT rfl (Qc1 (by omega) (by omega)) (Qaa (Qbx (a:=(((Qai 0 0 l).2.1:Nat):Int)) (b:=(((Qai 0 0 l).1:Nat):Int)) (c:=((((Qai 0 0 l).2.1)+((Qai 0 0 l).1):Nat):Int)) rfl rfl (QaS (by omega) (by omega)) (Qaa (Qak (I6 ((((Qai 0 0 l).2.1)+((Qai 0 0 l).1):Nat):Int)) (Qad (Qae (Qae (Qab (Qaa (Qag (.slice a l.length c) (Qaa (QbG (n:=l.length) QbJ (Rd.own' hr Y) (by simp) rfl (Qaa (Qag (I6 ((((Qai 0 0 l).2.1)+((Qai 0 0 l).1):Nat):Int)) (Qaa (Qbx (a:=((((Qai 0 0 l).2.1)+((Qai 0 0 l).1):Nat):Int)) (b:=4) (c:=(((((Qai 0 0 l).2.1)+((Qai 0 0 l).1))+4:Nat):Int)) rfl rfl (QaS (by omega) (by omega)) (Qaa (QbQ rfl rfl (Qad (Qaq (t:=decide (((l.length:Nat):Int)<(((((Qai 0 0 l).2.1)+((Qai 0 0 l).1))+4:Nat):Int))) rfl (fun c4=>?_) (fun c4=>?_)))))))))))))))))))))))))))
 ·
  replace c4:=QQ1 c4
  refine Qae (Qab (Qaa (Qak (.slice none 0 0) (Qaa (Qak (I6 0) (Qaa (Qak (I6 4) (Qad (Qat ?_)))))))))
  refine ⟨_,Qa9 (U:=.slice none 0 0) (V:=I6 0) (Z:=I6 4) results84 rfl rfl rfl,?_⟩
  unfold fA fC
  rw [Qg2 (l:=l) (by omega) (by omega) (by omega)]
  exact ⟨rfl,Y.take 0⟩
 replace c4:=QQ2 c4
 refine Qar (Qae (Qab (Qaa (Qag (.slice a l.length c) (Qaa (Qag (I6 (((Qai 0 0 l).2.1:Nat):Int)) (Qaa (Qag (I6 ((((Qai 0 0 l).2.1)+((Qai 0 0 l).1):Nat):Int)) (Qaa (Qkk (l:=(Qai 0 0 l).2.1) (h:=((Qai 0 0 l).2.1)+((Qai 0 0 l).1)) (m:=c) (n':=((l.drop ((Qai 0 0 l).2.1)).take (((Qai 0 0 l).2.1)+((Qai 0 0 l).1)-(Qai 0 0 l).2.1)).length) Qbh QcG.1 (Rd.own' hr Y) rfl (.inr ⟨_,_,rfl,rfl⟩) (.inr ⟨_,_,rfl,rfl⟩) (.inl ⟨rfl,rfl⟩) (by omega) (by omega) (Nat.le_trans (show (((Qai 0 0 l).2.1)+((Qai 0 0 l).1))<=l.length by omega) (Rd.roomM (Rd.own' hr Y))) (Nat.le_refl _) (by simp only [List.length_take,List.length_drop]<;>omega) ?_))))))))))
 refine Qaa (Qax (vs:=[.slice (sla a ((Qai 0 0 l).2.1) c 1) (((l.drop ((Qai 0 0 l).2.1)).take (((Qai 0 0 l).2.1)+((Qai 0 0 l).1)-(Qai 0 0 l).2.1)).length) (c-((Qai 0 0 l).2.1))]) (V:=fun x:Option Addr × Nat=>.tuple #[.slice x.1 (Qaz ((l.drop ((Qai 0 0 l).2.1)).take (((Qai 0 0 l).2.1)+((Qai 0 0 l).1)-(Qai 0 0 l).2.1))).length x.2,I6 0]) QlI rfl rfl (Qf5 _ (sla a ((Qai 0 0 l).2.1) c 1) (c-((Qai 0 0 l).2.1)) ((l.drop ((Qai 0 0 l).2.1)).take (((Qai 0 0 l).2.1)+((Qai 0 0 l).1)-(Qai 0 0 l).2.1)) ((hby.drop _).take _) (by simp only [List.length_take,List.length_drop];omega) (Rd.subM (Rd.own' hr Y) ((Qai 0 0 l).2.1) (((Qai 0 0 l).2.1)+((Qai 0 0 l).1)) c (by omega) (by omega) (Nat.le_trans (show (((Qai 0 0 l).2.1)+((Qai 0 0 l).1))<=l.length by omega) (Rd.roomM (Rd.own' hr Y))) (Nat.le_refl _) _ (by simp only [List.length_take,List.length_drop]<;>omega))) Y fun x5 w6 Y _=>?_)
 refine Qaa (Qag (.tuple #[.slice x5.1 ((Qaz ((l.drop ((Qai 0 0 l).2.1)).take (((Qai 0 0 l).2.1)+((Qai 0 0 l).1)-(Qai 0 0 l).2.1))).length) x5.2,I6 0]) (Qaa (Qaf (V:=.slice x5.1 ((Qaz ((l.drop ((Qai 0 0 l).2.1)).take (((Qai 0 0 l).2.1)+((Qai 0 0 l).1)-(Qai 0 0 l).2.1))).length) x5.2) rfl rfl (Qaa (Qaf (V:=I6 0) rfl rfl (Qaa (Qak (.slice x5.1 ((Qaz ((l.drop ((Qai 0 0 l).2.1)).take (((Qai 0 0 l).2.1)+((Qai 0 0 l).1)-(Qai 0 0 l).2.1))).length) x5.2) (Qaa (Qak (I6 0) (Qad (Qae (Qae (Qcm HM (so 39 8) [] [0,1,0,0,8,28,60,127] [pv (.slice x5.1 ((Qaz ((l.drop ((Qai 0 0 l).2.1)).take (((Qai 0 0 l).2.1)+((Qai 0 0 l).1)-(Qai 0 0 l).2.1))).length) x5.2),pv (sv (sOf (Qaz ((l.drop ((Qai 0 0 l).2.1)).take (((Qai 0 0 l).2.1)+((Qai 0 0 l).1)-(Qai 0 0 l).2.1))))),pv (.slice a l.length c),pv (I6 ((((Qai 0 0 l).2.1)+((Qai 0 0 l).1):Nat):Int)),pv (I6 (((((Qai 0 0 l).2.1)+((Qai 0 0 l).1))+4:Nat):Int)),pv (.slice (sla a 0 c 1) ((l.take ((((Qai 0 0 l).2.1)+((Qai 0 0 l).1))+4)).length) (c-0)),pv (sv (sOf (l.take ((((Qai 0 0 l).2.1)+((Qai 0 0 l).1))+4)))),pv (.bool (!decide (Qaz ((l.drop (Qai 0 0 l).2.1).take (Qai 0 0 l).1)=l.take ((Qai 0 0 l).2.1+(Qai 0 0 l).1+4))))] (fun _ _=>_) [7] (by kernel_rfl) Y ⟨?_,?_,?_,?_,?_,?_,?_,?_,trivial⟩ ?_)))))))))))))
 ·exact oi [] fun Y=>Qag (.slice x5.1 ((Qaz ((l.drop ((Qai 0 0 l).2.1)).take (((Qai 0 0 l).2.1)+((Qai 0 0 l).1)-(Qai 0 0 l).2.1))).length) x5.2) (Zz Y)
 ·exact oi [0] fun Y=>QbS Qbh QdG QdF (Y.rd 0 rfl) rfl (Zz Y)
 ·exact oi [] fun Y=>Qag (.slice a l.length c) (Zz Y)
 ·exact oi [] fun Y=>Qag (.int .i64 ((((Qai 0 0 l).2.1)+((Qai 0 0 l).1):Nat):Int)) (Zz Y)
 ·exact oi [3] fun Y=>Qbx (a:=((((Qai 0 0 l).2.1)+((Qai 0 0 l).1):Nat):Int)) (b:=4) (c:=(((((Qai 0 0 l).2.1)+((Qai 0 0 l).1))+4:Nat):Int)) rfl rfl (QaS (by omega) (by omega)) (Zz Y)
 ·exact oi [2,4] fun Y=>Qkk (l:=0) (h:=(((Qai 0 0 l).2.1)+((Qai 0 0 l).1))+4) (m:=c) (n':=(l.take ((((Qai 0 0 l).2.1)+((Qai 0 0 l).1))+4)).length) Qbh QcG.1 (Rd.own' hr Y) rfl (.inl ⟨rfl,rfl⟩) (.inr ⟨_,_,rfl,rfl⟩) (.inl ⟨rfl,rfl⟩) (by omega) (by omega) (Nat.le_trans (show ((((Qai 0 0 l).2.1)+((Qai 0 0 l).1))+4)<=l.length by omega) (Rd.roomM (Rd.own' hr Y))) (Nat.le_refl _) (by simp only [List.length_take,List.length_drop]<;>omega) (Zz Y)
 ·exact oi [5] fun Y=>QbS Qbh QdG QdF (Rd.subM (Rd.own' hr Y) 0 ((((Qai 0 0 l).2.1)+((Qai 0 0 l).1))+4) c (by omega) (by omega) (Nat.le_trans (show ((((Qai 0 0 l).2.1)+((Qai 0 0 l).1))+4)<=l.length by omega) (Rd.roomM (Rd.own' hr Y))) (Nat.le_refl _) _ (by simp only [List.length_take,List.length_drop]<;>omega)) rfl (Zz Y)
 ·exact oi [1,6] fun Y=>Qas (V:=.bool (!decide (sOf (Qaz ((l.drop ((Qai 0 0 l).2.1)).take (((Qai 0 0 l).2.1)+((Qai 0 0 l).1)-(Qai 0 0 l).2.1)))=sOf (l.take ((((Qai 0 0 l).2.1)+((Qai 0 0 l).1))+4))))) (V':=.bool (!decide (Qaz ((l.drop (Qai 0 0 l).2.1).take (Qai 0 0 l).1)=l.take ((Qai 0 0 l).2.1+(Qai 0 0 l).1+4)))) (QiP rfl rfl ⟨rfl,rfl⟩) (congrArg (fun b:Bool=>Value.bool (!b)) (by rw [Nat.add_sub_cancel_left];exact QfF (Qf0 ((hby.drop _).take _)) (hby.take _))) (Zz Y)
 rintro J1 w7 J2 hJ Y
 replace hJ:J2=upd (mix (sq 39 8) J1 _) 46 (.bool (!decide (Qaz ((l.drop (Qai 0 0 l).2.1).take (Qai 0 0 l).1)=l.take ((Qai 0 0 l).2.1+(Qai 0 0 l).1+4)))):=hJ
 subst hJ
 refine Qaq (t:=!decide (Qaz ((l.drop (Qai 0 0 l).2.1).take (Qai 0 0 l).1)=l.take ((Qai 0 0 l).2.1+(Qai 0 0 l).1+4))) rfl (fun c8=>?_) (fun c8=>?_)
 ·
  replace c8:=Qcb c8
  replace c8:=QQ2 c8
  refine Qae (Qab (Qaa (Qak (.slice none 0 0) (Qaa (Qak (I6 0) (Qaa (Qak (I6 6) (Qad (Qat ?_)))))))))
  refine ⟨_,Qa9 (U:=.slice none 0 0) (V:=I6 0) (Z:=I6 6) results84 rfl rfl rfl,?_⟩
  unfold fA fC
  rw [QiN (l:=l) (by omega) (by omega) (by omega) (fun hh=>c8 ((QjP hby (by omega) (by omega)).2 hh))]
  exact ⟨rfl,Y.take 0⟩
 replace c8:=Qa3 c8
 replace c8:=QQ1 c8
 refine Qar (Qae (Qab (Qaa (Qag (.slice a l.length c) (Qaa (Qag (I6 (((Qai 0 0 l).2.1:Nat):Int)) (Qaa (Qag (I6 ((((Qai 0 0 l).2.1)+((Qai 0 0 l).1):Nat):Int)) (Qaa (Qkk (l:=(Qai 0 0 l).2.1) (h:=((Qai 0 0 l).2.1)+((Qai 0 0 l).1)) (m:=c) (n':=((l.drop ((Qai 0 0 l).2.1)).take (((Qai 0 0 l).2.1)+((Qai 0 0 l).1)-(Qai 0 0 l).2.1)).length) Qbh QcG.1 (Rd.own' hr Y) rfl (.inr ⟨_,_,rfl,rfl⟩) (.inr ⟨_,_,rfl,rfl⟩) (.inl ⟨rfl,rfl⟩) (by omega) (by omega) (Nat.le_trans (show (((Qai 0 0 l).2.1)+((Qai 0 0 l).1))<=l.length by omega) (Rd.roomM (Rd.own' hr Y))) (Nat.le_refl _) (by simp only [List.length_take,List.length_drop]<;>omega) ?_))))))))))
 refine Qaa (Qag (I6 ((((Qai 0 0 l).2.1)+((Qai 0 0 l).1):Nat):Int)) (Qaa (Qbx (a:=((((Qai 0 0 l).2.1)+((Qai 0 0 l).1):Nat):Int)) (b:=4) (c:=(((((Qai 0 0 l).2.1)+((Qai 0 0 l).1))+4:Nat):Int)) rfl rfl (QaS (by omega) (by omega)) (Qaa (Qak (.slice (sla a ((Qai 0 0 l).2.1) c 1) (((l.drop ((Qai 0 0 l).2.1)).take (((Qai 0 0 l).2.1)+((Qai 0 0 l).1)-(Qai 0 0 l).2.1)).length) (c-((Qai 0 0 l).2.1))) (Qaa (Qak (I6 (((((Qai 0 0 l).2.1)+((Qai 0 0 l).1))+4:Nat):Int)) (Qaa (Qak (I6 0) (Qad (Qat ?_)))))))))))
 refine ⟨_,Qa9 (U:=.slice (sla a ((Qai 0 0 l).2.1) c 1) (((l.drop ((Qai 0 0 l).2.1)).take (((Qai 0 0 l).2.1)+((Qai 0 0 l).1)-(Qai 0 0 l).2.1)).length) (c-((Qai 0 0 l).2.1))) (V:=I6 (((((Qai 0 0 l).2.1)+((Qai 0 0 l).1))+4:Nat):Int)) (Z:=I6 0) results84 rfl rfl rfl,?_⟩
 unfold fA fC
 rw [Qja (l:=l) (by omega) (by omega) (by omega) ((QjP hby (by omega) (by omega)).1 c8)]
 exact ⟨by rw [if_pos rfl,if_pos rfl,Nat.add_sub_cancel_left];rfl,Y.take 0⟩
end Tt
end Go.Proofs
namespace Go.Proofs
open Go Go.Vx Go.RowKit
open Tryz
namespace Tt
theorem Qhd (w:World) (x:Rdv) (hx:x.ok w) (hl:x.l.length<=1000000):Calls prog 85 #[.agg (rve x).toArray] w (fun e w'=>e = .returned (.tuple #[.agg (rve x.num).toArray,.int .u64 ((Qaj x.r).1:Int),.int .i64 ((Qaj x.r).2.1:Int)])/\Own w no w' []):=by
 refine Qal (n:=34) func85 rfl ntmps85 rfl ?_
 have Y:=Own.start w
 refine Qae (Qab (Qaa (Qb4 (V:=.agg (rve x).toArray) (cs:=rve x) rfl rfl Y fun b1 w2 Y=>(Qaa (QaX (cs:=rve (⟨none,0,0,[]⟩:Rdv)) Qda rfl Y fun b3 w4 Y=>(Qaa (Qak (.int .u64 0) (Qaa (Qak (I6 0) (Qad (Qae (Qae (Qab (Qaa (Qac Qf1 rfl (Qaa (QaY (I6 x.e) QcS Y 0 (Qaa (QbM rfl rfl (Qad (Qaq (t:=!decide (x.e=0)) rfl (fun c5=>?_) (fun c5=>?_))))))))))))))))))))))
 ·
  replace c5:=Qcb c5
  replace c5:=QQ2 c5
  refine Qae (Qcm HM [some 11,some 12,some 13,none,some 3,some 4] [] [0,0,2,1,9,31] [pv (.agg (rve x).toArray),pv (Pq b1 (0+1)),pv (I6 x.e),pn,pv (.int .u64 0),pv (I6 x.e)] (fun D J=>[blk b1 (rve x) 174,cond (D 3) (blk b3 (rve x) 174) (blk b3 (rve (⟨none,0,0,[]⟩:Rdv)) 174)]) [5,4] (by kernel_rfl) Y ⟨?_,?_,?_,?_,?_,?_,trivial⟩ ?_)
  ·exact oi [] fun Y=>Qa1 (cs:=rve x) QaW Y 0 rfl rfl rfl (Zz Y)
  ·exact oi [] fun Y=>Qac Qf1 rfl (Zz Y)
  ·exact oi [1] fun Y=>QaY (.int .i64 x.e) QcS Y 0 (Zz Y)
  ·exact oi [0] fun Y=>QbN (V:=.agg (rve x).toArray) (vs:=rve x) (cs':=rve x) QaW.1 Y 1 rfl rfl rfl rfl rfl (QQ8 rfl) (Qbn _) (Qao rfl) fun _ Y=>⟨trivial,Y⟩
  ·exact oi [] fun Y=>Qak (.int .u64 0) (Zz Y)
  ·exact oi [2] fun Y=>Qak (.int .i64 x.e) (Zz Y)
  rintro J1 w7 J2 hJ Y
  replace hJ:J2=upd (upd (mix [11,12,13,3,4] J1 _) 3 (.int .u64 0)) 4 (I6 x.e):=hJ
  replace Y:Own w no w7 [blk b1 (rve x) 174,blk b3 (rve x) 174]:=Y
  subst hJ
  refine Qat ?_
  refine ⟨_,Qdg (cs:=rve x) (U:=.int .u64 0) (V:=I6 x.e) results85 QaW Y 1 rfl rfl rfl rfl rfl,?_⟩
  obtain ⟨hA,hB,hE⟩:=Rdv.num_bad c5 hx.2.2
  rw [hA,hB]
  exact ⟨by simp only [hE];rfl,Y.take 0⟩
 replace c5:=Qa3 c5
 replace c5:=QQ1 c5
 refine Qar (Qae (Qab (Qaa (Qac Qdw rfl (Qaa (QaY (.slice x.a x.l.length x.c) QbD Y 0 (Qaa (QaH (vs:=[.slice x.a x.l.length x.c]) (V:=.tuple #[.int .u64 (((Qai 0 0 x.l).1:Nat):Int),I6 (((Qai 0 0 x.l).2.1:Nat):Int),I6 (((Qai 0 0 x.l).2.2:Nat):Int)]) QqO rfl rfl ?hc Y fun w8 Y=>?_))))))))
 case hc=>exact (QmW _ x.a x.c x.l hx.2.1 (Rd.own' hx.1 Y))
 refine Qaa (Qag (.tuple #[.int .u64 (((Qai 0 0 x.l).1:Nat):Int),I6 (((Qai 0 0 x.l).2.1:Nat):Int),I6 (((Qai 0 0 x.l).2.2:Nat):Int)]) (Qaa (Qaf (V:=.int .u64 (((Qai 0 0 x.l).1:Nat):Int)) rfl rfl (Qaa (Qaf (V:=I6 (((Qai 0 0 x.l).2.1:Nat):Int)) rfl rfl (Qaa (Qaf (V:=I6 (((Qai 0 0 x.l).2.2:Nat):Int)) rfl rfl (Qaa (Qak (.int .u64 (((Qai 0 0 x.l).1:Nat):Int)) (Qaa (Qak (I6 (((Qai 0 0 x.l).2.1:Nat):Int)) (Qaa (Qak (I6 (((Qai 0 0 x.l).2.2:Nat):Int)) (Qad (Qae (Qae (Qab (Qaa (Qag (I6 (((Qai 0 0 x.l).2.2:Nat):Int)) (Qaa (QbM rfl rfl (Qad (Qaq (t:=!decide ((((Qai 0 0 x.l).2.2:Nat):Int)=0)) rfl (fun c9=>?_) (fun c9=>?_))))))))))))))))))))))))
 ·
  replace c9:=Qcb c9
  replace c9:=QQ2 c9
  refine Qae (Qab (Qaa (Qag (I6 (((Qai 0 0 x.l).2.2:Nat):Int)) (Qaa (Qac Qf1 rfl (Qaa (Qcl (V:=I6 (((Qai 0 0 x.l).2.2:Nat):Int)) (cs':=rve (⟨x.a,x.c,(((Qai 0 0 x.l).2.2:Nat):Int),x.l⟩:Rdv)) QcS Y 0 rfl rfl rfl rfl (QQ8 rfl) rfl fun w10 Y=>(Qad (Qae (Qab (Qaa (Qa1 (cs:=rve (⟨x.a,x.c,(((Qai 0 0 x.l).2.2:Nat):Int),x.l⟩:Rdv)) QaW Y 0 rfl rfl rfl (Qaa (Qag (I6 (((Qai 0 0 x.l).2.2:Nat):Int)) (Qaa (QbN (V:=.agg (rve (⟨x.a,x.c,(((Qai 0 0 x.l).2.2:Nat):Int),x.l⟩:Rdv)).toArray) (vs:=rve (⟨x.a,x.c,(((Qai 0 0 x.l).2.2:Nat):Int),x.l⟩:Rdv)) (cs':=rve (⟨x.a,x.c,(((Qai 0 0 x.l).2.2:Nat):Int),x.l⟩:Rdv)) QaW.1 Y 1 rfl rfl rfl rfl rfl (QQ8 rfl) (Qbn _) (Qao rfl) fun w11 Y=>(Qaa (Qak (.int .u64 0) (Qaa (Qak (I6 (((Qai 0 0 x.l).2.2:Nat):Int)) (Qad (Qat ?_))))))))))))))))))))))
  refine ⟨_,Qdg (cs:=rve (⟨x.a,x.c,(((Qai 0 0 x.l).2.2:Nat):Int),x.l⟩:Rdv)) (U:=.int .u64 0) (V:=I6 (((Qai 0 0 x.l).2.2:Nat):Int)) results85 QaW Y 1 rfl rfl rfl rfl rfl,?_⟩
  obtain ⟨hA,hB⟩:=Rdv.num_err (x:=x) (by omega) (by omega)
  rw [hA,hB]
  exact ⟨rfl,Y.take 0⟩
 replace c9:=Qa3 c9
 replace c9:=QQ1 c9
 refine Qar (Qae ?_)
 have hgk:=Qj6 hx.2.1 (by omega)
 refine Qab (Qaa (Qac Qdw rfl (Qaa (QaY (.slice x.a x.l.length x.c) QbD Y 0 (Qaa (Qag (I6 (((Qai 0 0 x.l).2.1:Nat):Int)) (Qaa (Qkk (l:=(Qai 0 0 x.l).2.1) (h:=x.l.length) (m:=x.c) (n':=(x.l.drop ((Qai 0 0 x.l).2.1)).length) Qbh QcG.1 (Rd.own' hx.1 Y) rfl (.inr ⟨_,_,rfl,rfl⟩) (.inl ⟨rfl,rfl⟩) (.inl ⟨rfl,rfl⟩) (by omega) (by omega) (Nat.le_trans (show x.l.length<=x.l.length by omega) (Rd.roomM (Rd.own' hx.1 Y))) (Nat.le_refl _) (by simp only [List.length_take,List.length_drop]<;>omega) ?_))))))))
 refine Qaa (Qac Qdw rfl (Qaa (Qcl (V:=.slice (sla x.a ((Qai 0 0 x.l).2.1) x.c 1) ((x.l.drop ((Qai 0 0 x.l).2.1)).length) (x.c-((Qai 0 0 x.l).2.1))) (cs':=rve (⟨(sla x.a ((Qai 0 0 x.l).2.1) x.c 1),x.c-((Qai 0 0 x.l).2.1),x.e,(x.l.drop ((Qai 0 0 x.l).2.1))⟩:Rdv)) QbD Y 0 rfl rfl rfl rfl (QQ8 rfl) rfl fun w12 Y=>(Qad (Qae (Qab (Qaa (Qa1 (cs:=rve (⟨(sla x.a ((Qai 0 0 x.l).2.1) x.c 1),x.c-((Qai 0 0 x.l).2.1),x.e,(x.l.drop ((Qai 0 0 x.l).2.1))⟩:Rdv)) QaW Y 0 rfl rfl rfl (Qaa (Qag (.int .u64 (((Qai 0 0 x.l).1:Nat):Int)) (Qaa (QbN (V:=.agg (rve (⟨(sla x.a ((Qai 0 0 x.l).2.1) x.c 1),x.c-((Qai 0 0 x.l).2.1),x.e,(x.l.drop ((Qai 0 0 x.l).2.1))⟩:Rdv)).toArray) (vs:=rve (⟨(sla x.a ((Qai 0 0 x.l).2.1) x.c 1),x.c-((Qai 0 0 x.l).2.1),x.e,(x.l.drop ((Qai 0 0 x.l).2.1))⟩:Rdv)) (cs':=rve (⟨(sla x.a ((Qai 0 0 x.l).2.1) x.c 1),x.c-((Qai 0 0 x.l).2.1),x.e,(x.l.drop ((Qai 0 0 x.l).2.1))⟩:Rdv)) QaW.1 Y 1 rfl rfl rfl rfl rfl (QQ8 rfl) (Qbn _) (Qao rfl) fun w13 Y=>(Qaa (Qak (.int .u64 (((Qai 0 0 x.l).1:Nat):Int)) (Qaa (Qak (I6 0) (Qad (Qat ?_))))))))))))))))))
 refine ⟨_,Qdg (cs:=rve (⟨(sla x.a ((Qai 0 0 x.l).2.1) x.c 1),x.c-((Qai 0 0 x.l).2.1),x.e,(x.l.drop ((Qai 0 0 x.l).2.1))⟩:Rdv)) (U:=.int .u64 (((Qai 0 0 x.l).1:Nat):Int)) (V:=I6 0) results85 QaW Y 1 rfl rfl rfl rfl rfl,?_⟩
 obtain ⟨hA,hB⟩:=Rdv.num_good (x:=x) (by omega) (by omega)
 rw [hA,hB]
 exact ⟨rfl,Y.take 0⟩
theorem QiK (w:World) (x:Rdv) (hx:x.ok w) (hl:x.l.length<=1000000):Calls prog 86 #[.agg (rve x).toArray] w (fun e w'=>e = .returned (.tuple #[.agg (rve x.byt).toArray,.slice x.ba (QaT x.r).1.length x.bc,.int .i64 ((QaT x.r).2.1:Int)])/\Own w no w' []):=by
 refine Qal (n:=38) func86 rfl ntmps86 rfl ?_
 have Y:=Own.start w
 have hnl:=(Rdv.num_ok hx).1.sml
 refine Qae (Qab (Qaa (Qb4 (V:=.agg (rve x).toArray) (cs:=rve x) rfl rfl Y fun b1 w2 Y=>(Qaa (QaX (cs:=rve (⟨none,0,0,[]⟩:Rdv)) Qda rfl Y fun b3 w4 Y=>(Qaa (Qak (.slice none 0 0) (Qaa (Qak (I6 0) (Qad (Qae (Qab (Qaa (Qa1 (cs:=rve x) QaW Y 0 rfl rfl rfl (Qaa (QaH (vs:=[.agg (rve x).toArray]) (V:=.tuple #[.agg (rve x.num).toArray,.int .u64 (((Qaj x.r).1:Nat):Int),I6 (((Qaj x.r).2.1:Nat):Int)]) QhR rfl rfl ?hc Y fun w5 Y=>?_))))))))))))))))
 case hc=>exact (Qhd _ x (Rdv.own hx Y) (by omega))
 refine Qaa (Qag (.tuple #[.agg (rve x.num).toArray,.int .u64 (((Qaj x.r).1:Nat):Int),I6 (((Qaj x.r).2.1:Nat):Int)]) (Qaa (Qaf (V:=.agg (rve x.num).toArray) rfl rfl (Qaa (Qaf (V:=.int .u64 (((Qaj x.r).1:Nat):Int)) rfl rfl (Qaa (Qaf (V:=I6 (((Qaj x.r).2.1:Nat):Int)) rfl rfl (Qaa (QaX (cs:=rve (⟨none,0,0,[]⟩:Rdv)) Qda rfl Y fun b6 w7 Y=>(Qaa (QbN (V:=.agg (rve x.num).toArray) (vs:=rve x.num) (cs':=rve x.num) QaW.1 Y 2 rfl rfl rfl rfl rfl (QQ8 rfl) (Qbn _) (Qao rfl) fun w8 Y=>(Qaa (Qak (.int .u64 (((Qaj x.r).1:Nat):Int)) (Qaa (Qak (I6 (((Qaj x.r).2.1:Nat):Int)) (Qad (Qae (Qae (Qab (Qaa (Qag (I6 (((Qaj x.r).2.1:Nat):Int)) (Qaa (QbM rfl rfl (Qad (Qaq (t:=!decide ((((Qaj x.r).2.1:Nat):Int)=0)) rfl (fun c9=>?_) (fun c9=>?_))))))))))))))))))))))))))
 ·
  replace c9:=Qcb c9
  replace c9:=QQ2 c9
  refine Qae (Qab (Qaa (Qa1 (cs:=rve x.num) QaW Y 2 rfl rfl rfl (Qaa (Qag (I6 (((Qaj x.r).2.1:Nat):Int)) (Qaa (QbN (V:=.agg (rve x.num).toArray) (vs:=rve x.num) (cs':=rve x.num) QaW.1 Y 1 rfl rfl rfl rfl rfl (QQ8 rfl) (Qbn _) (Qao rfl) fun w10 Y=>(Qaa (Qak (.slice none 0 0) (Qaa (Qak (I6 (((Qaj x.r).2.1:Nat):Int)) (Qad (Qat ?_)))))))))))))
  refine ⟨_,Qdg (cs:=rve x.num) (U:=.slice none 0 0) (V:=I6 (((Qaj x.r).2.1:Nat):Int)) results86 QaW Y 1 rfl rfl rfl rfl rfl,?_⟩
  obtain ⟨hA,hB,hC⟩:=Rdv.bytR_no hx (by omega)
  unfold Rdv.ba Rdv.bc
  rw [hA,hB]
  rw [if_neg hC,if_neg hC]
  exact ⟨rfl,Y.take 0⟩
 replace c9:=Qa3 c9
 replace c9:=QQ1 c9
 refine Qar (Qae (Qae (Qab (Qaa (Qag (.int .u64 (((Qaj x.r).1:Nat):Int)) (Qaa (Qac Qdw rfl (Qaa (QaY (.slice x.num.a x.num.l.length x.num.c) QbD Y 2 (Qaa (QbG (n:=x.num.l.length) QbJ (Rd.own' (Rdv.num_ok hx).1 Y) (by simp) rfl (Qaa (QaB QfT Qa6 rfl (Qbe (by omega) (by omega)) (Qaa (Qck rfl rfl (Qad (Qaq (t:=decide (((x.num.l.length:Nat):Int)<(((Qaj x.r).1:Nat):Int))) rfl (fun c11=>?_) (fun c11=>?_))))))))))))))))))
 ·
  replace c11:=QQ1 c11
  refine Qae (Qab (Qaa (Qac Qf1 rfl (Qaa (Qcl (V:=I6 4) (cs':=rve (⟨x.num.a,x.num.c,4,x.num.l⟩:Rdv)) QcS Y 2 rfl rfl rfl rfl (QQ8 rfl) rfl fun w12 Y=>(Qad (Qae (Qab (Qaa (Qa1 (cs:=rve (⟨x.num.a,x.num.c,4,x.num.l⟩:Rdv)) QaW Y 2 rfl rfl rfl (Qaa (QbN (V:=.agg (rve (⟨x.num.a,x.num.c,4,x.num.l⟩:Rdv)).toArray) (vs:=rve (⟨x.num.a,x.num.c,4,x.num.l⟩:Rdv)) (cs':=rve (⟨x.num.a,x.num.c,4,x.num.l⟩:Rdv)) QaW.1 Y 1 rfl rfl rfl rfl rfl (QQ8 rfl) (Qbn _) (Qao rfl) fun w13 Y=>(Qaa (Qak (.slice none 0 0) (Qaa (Qak (I6 4) (Qad (Qat ?_))))))))))))))))))
  refine ⟨_,Qdg (cs:=rve (⟨x.num.a,x.num.c,4,x.num.l⟩:Rdv)) (U:=.slice none 0 0) (V:=I6 4) results86 QaW Y 1 rfl rfl rfl rfl rfl,?_⟩
  obtain ⟨hA,hB,hC⟩:=Rdv.bytR_short hx (by omega) (by show _<(Qaj x.r).1;omega)
  unfold Rdv.ba Rdv.bc
  rw [hA,hB]
  rw [if_neg hC,if_neg hC]
  exact ⟨rfl,Y.take 0⟩
 replace c11:=QQ2 c11
 refine Qar (Qae (Qab (Qaa (Qac Qdw rfl (Qaa (QaY (.slice x.num.a x.num.l.length x.num.c) QbD Y 2 (Qaa (Qag (.int .u64 (((Qaj x.r).1:Nat):Int)) (Qaa (Qkk (l:=0) (h:=(Qaj x.r).1) (m:=x.num.c) (n':=(x.num.l.take ((Qaj x.r).1)).length) Qbh QcG.1 (Rd.own' (Rdv.num_ok hx).1 Y) rfl (.inl ⟨rfl,rfl⟩) (.inr ⟨_,_,rfl,rfl⟩) (.inl ⟨rfl,rfl⟩) (by omega) (by omega) (Nat.le_trans (show ((Qaj x.r).1)<=x.num.l.length by omega) (Rd.roomM (Rd.own' (Rdv.num_ok hx).1 Y))) (Nat.le_refl _) (by simp only [List.length_take,List.length_drop]<;>omega) ?_))))))))))
 refine Qaa (Qak (.slice (sla x.num.a 0 x.num.c 1) ((x.num.l.take ((Qaj x.r).1)).length) (x.num.c-0)) (Qad (Qae (Qab (Qaa (Qac Qdw rfl (Qaa (QaY (.slice x.num.a x.num.l.length x.num.c) QbD Y 2 (Qaa (Qag (.int .u64 (((Qaj x.r).1:Nat):Int)) (Qaa (Qkk (l:=(Qaj x.r).1) (h:=x.num.l.length) (m:=x.num.c) (n':=(x.num.l.drop ((Qaj x.r).1)).length) Qbh QcG.1 (Rd.own' (Rdv.num_ok hx).1 Y) rfl (.inr ⟨_,_,rfl,rfl⟩) (.inl ⟨rfl,rfl⟩) (.inl ⟨rfl,rfl⟩) (by omega) (by omega) (Nat.le_trans (show x.num.l.length<=x.num.l.length by omega) (Rd.roomM (Rd.own' (Rdv.num_ok hx).1 Y))) (Nat.le_refl _) (by simp only [List.length_take,List.length_drop]<;>omega) ?_))))))))))))
 refine Qaa (Qac Qdw rfl (Qaa (Qcl (V:=.slice (sla x.num.a ((Qaj x.r).1) x.num.c 1) ((x.num.l.drop ((Qaj x.r).1)).length) (x.num.c-((Qaj x.r).1))) (cs':=rve (⟨(sla x.num.a ((Qaj x.r).1) x.num.c 1),x.num.c-((Qaj x.r).1),x.num.e,(x.num.l.drop ((Qaj x.r).1))⟩:Rdv)) QbD Y 2 rfl rfl rfl rfl (QQ8 rfl) rfl fun w14 Y=>(Qad (Qae (Qab (Qaa (Qa1 (cs:=rve (⟨(sla x.num.a ((Qaj x.r).1) x.num.c 1),x.num.c-((Qaj x.r).1),x.num.e,(x.num.l.drop ((Qaj x.r).1))⟩:Rdv)) QaW Y 2 rfl rfl rfl (Qaa (Qag (.slice (sla x.num.a 0 x.num.c 1) ((x.num.l.take ((Qaj x.r).1)).length) (x.num.c-0)) (Qaa (QbN (V:=.agg (rve (⟨(sla x.num.a ((Qaj x.r).1) x.num.c 1),x.num.c-((Qaj x.r).1),x.num.e,(x.num.l.drop ((Qaj x.r).1))⟩:Rdv)).toArray) (vs:=rve (⟨(sla x.num.a ((Qaj x.r).1) x.num.c 1),x.num.c-((Qaj x.r).1),x.num.e,(x.num.l.drop ((Qaj x.r).1))⟩:Rdv)) (cs':=rve (⟨(sla x.num.a ((Qaj x.r).1) x.num.c 1),x.num.c-((Qaj x.r).1),x.num.e,(x.num.l.drop ((Qaj x.r).1))⟩:Rdv)) QaW.1 Y 1 rfl rfl rfl rfl rfl (QQ8 rfl) (Qbn _) (Qao rfl) fun w15 Y=>(Qaa (Qak (.slice (sla x.num.a 0 x.num.c 1) ((x.num.l.take ((Qaj x.r).1)).length) (x.num.c-0)) (Qaa (Qak (I6 0) (Qad (Qat ?_))))))))))))))))))
 refine ⟨_,Qdg (cs:=rve (⟨(sla x.num.a ((Qaj x.r).1) x.num.c 1),x.num.c-((Qaj x.r).1),x.num.e,(x.num.l.drop ((Qaj x.r).1))⟩:Rdv)) (U:=.slice (sla x.num.a 0 x.num.c 1) ((x.num.l.take ((Qaj x.r).1)).length) (x.num.c-0)) (V:=I6 0) results86 QaW Y 1 rfl rfl rfl rfl rfl,?_⟩
 obtain ⟨hA,hB,hC⟩:=Rdv.bytR_yes hx (by omega) (by show ¬_<(Qaj x.r).1;omega)
 unfold Rdv.ba Rdv.bc
 rw [hA,hB]
 rw [if_pos hC,if_pos hC]
 exact ⟨rfl,Y.take 0⟩
end Tt
end Go.Proofs
namespace Go.Proofs
open Go Go.Vx Go.RowKit
open Tryz
namespace Tt
theorem QuL {r:Rdr} (h:¬r.e=0):Qaj r=(0,r.e,r):=by unfold Qaj;rw [if_pos h]
theorem Qui {r:Rdr} (h:r.e=0) (h1:¬(Qai 0 0 r.l).2.2=0):Qaj r=(0,(Qai 0 0 r.l).2.2,⟨(Qai 0 0 r.l).2.2,r.l⟩):=by unfold Qaj;rw [if_neg (by omega),if_pos h1]
theorem Qtj {r:Rdr} (h:r.e=0) (h1:(Qai 0 0 r.l).2.2=0):Qaj r=((Qai 0 0 r.l).1,0,⟨0,r.l.drop (Qai 0 0 r.l).2.1⟩):=by unfold Qaj;rw [if_neg (by omega),if_neg (by omega)]
theorem QeR {r:Rdr}:(Qaj r).2.2.l.length<=r.l.length:=by
 unfold Qaj
 split
 ·exact Nat.le_refl _
 split
 ·exact Nat.le_refl _
 rw [List.length_drop];omega
theorem Que {r:Rdr} (h:¬(Qaj r).2.1=0):QaT r=([],(Qaj r).2.1,(Qaj r).2.2):=by unfold QaT;rw [if_pos h]
theorem QtZ {r:Rdr} (h:(Qaj r).2.1=0) (h1:(Qaj r).2.2.l.length<(Qaj r).1):QaT r=([],4,⟨4,(Qaj r).2.2.l⟩):=by unfold QaT;rw [if_neg (by omega),if_pos h1]
theorem Qt9 {r:Rdr} (h:(Qaj r).2.1=0) (h1:¬(Qaj r).2.2.l.length<(Qaj r).1):QaT r=((Qaj r).2.2.l.take (Qaj r).1,0,⟨0,(Qaj r).2.2.l.drop (Qaj r).1⟩):=by unfold QaT;rw [if_neg (by omega),if_neg h1]
theorem QlP {r:Rdr}:(QaT r).2.2.l.length<=r.l.length/\(QaT r).1.length<=r.l.length:=by
 have h:=QeR (r:=r)
 unfold QaT
 split
 ·exact ⟨h,by simp⟩
 split
 ·exact ⟨h,by simp⟩
 refine ⟨?_,?_⟩
 ·rw [List.length_drop];omega
 rw [List.length_take];omega
theorem Qgt (w:World) (S:Nat->Prop) (p:Nat) (r:Rdr) (hby:QaZ r.l) (hl:r.l.length<=1000000) (hR:(rR 281 p r).holds w S) (hlt:∀ x,S x->x<w.heap.size):Calls prog 165 #[.pointer (some ⟨p,0,none⟩)] w (fun q w'=>∃ x:Unit,q = .returned (.tuple #[.int .u64 (((Qaj r).1:Nat):Int),.int .i64 (((Qaj r).2.1:Nat):Int)])/\Own w S w' [rR 281 p ((Qaj r).2.2)]/\True):=by
 refine Qal (n:=56) func165 rfl ntmps165 rfl ?_
 obtain ⟨a,c,Y⟩:=Qnz hR hlt
 replace Y:Own w S w [blk p [.bool true,I6 ((r.e:Nat):Int),.slice a r.l.length c] 281,rdR (byv a r.l c) 1 (r.l.map (ic .u8))]:=Y
 refine Qae (Qab (Qaa (Qak (.int .u64 0) (Qaa (Qak (I6 0) (Qad (Qae (Qay (Qae (Qa2 (so 8 10++[some 7]) [] [0,1,3,7,15,31,63,127,255,511,1023] [pv (Pq p 0),pv (.bool false),pv (.bool false),pv (Pq p 0),pv (Pq p 0),pv (Pq p (0+0)),pv (Pq p (0+0+0)),pv (.bool true),pv (.bool false),pv (.bool false),pv (.bool false)] (fun _ _=>_) [10] (by kernel_rfl) Y ⟨?_,?_,?_,?_,?_,?_,?_,?_,?_,?_,?_,trivial⟩ ?_))))))))))
 ·exact oi [] fun Y=>Qag (.pointer (some ⟨p,0,none⟩)) (Zz Y)
 ·exact oi [0] fun Y=>Qic QqD rfl rfl (Zz Y)
 ·exact oi [1] fun Y=>Qag (.bool false) (Zz Y)
 ·exact obg [2] [] false rfl (fun _=>rfl) rfl (fun _ _ _ h=>nomatch h) fun D J w _ Y=>Qag (Pq p 0) (Zz Y)
 ·exact obg [2,3] [] false rfl (fun _=>rfl) rfl (fun _ _ _ h=>nomatch h) fun D J w _ Y=>QaA rfl (Zz Y)
 ·exact obg [2,4] [] false rfl (fun _=>rfl) rfl (fun _ _ _ h=>nomatch h) fun D J w _ Y=>Qac Qdp rfl (Zz Y)
 ·exact obg [2,5] [] false rfl (fun _=>rfl) rfl (fun _ _ _ h=>nomatch h) fun D J w _ Y=>Qac Qf2 rfl (Zz Y)
 ·exact obg [2,6] [] false rfl (fun _=>rfl) rfl (fun _ _ _ h=>nomatch h) fun D J w _ Y=>QaY (.bool true) Qtc Y 0 (Zz Y)
 ·exact obg [2,7] [] false rfl (fun _=>rfl) rfl (fun _ _ _ h=>nomatch h) fun D J w _ Y=>Qb6 rfl (Zz Y)
 ·exact oi [2,8] fun Y=>QgY (V:=.bool false) rfl rfl (Zz Y)
 ·exact oi [9] fun Y=>Qak (.bool false) (Zz Y)
 rintro J1 w1 J2 hJ Y
 replace hJ:J2=upd (mix (sq 8 10++[7]) J1 _) 7 (.bool false):=hJ
 subst hJ
 refine QcR rfl ?_
 refine Qae (Qab (Qaa (Qag (Pq p 0) (Qaa (QaA rfl (Qaa (Qac Qdp rfl (Qaa (Qac Qcc rfl (Qaa (QaY (I6 ((r.e:Nat):Int)) QgQ Y 0 (Qaa (QbM rfl rfl (Qaa (Qak (.bool (!decide (((r.e:Nat):Int)=0))) (Qad (Qaq (t:=!decide (((r.e:Nat):Int)=0)) rfl (fun c2=>?_) (fun c2=>?_))))))))))))))))))
 ·
  replace c2:=Qcb c2
  replace c2:=QQ2 c2
  refine Qae (Qcm HM (so 25 5++[some 2,some 3]) [] [0,1,3,7,15,0,63] [pv (Pq p 0),pv (Pq p 0),pv (Pq p (0+0)),pv (Pq p (0+0+1)),pv (I6 ((r.e:Nat):Int)),pv (.int .u64 0),pv (I6 ((r.e:Nat):Int))] (fun _ _=>_) [6,5] (by kernel_rfl) Y ⟨?_,?_,?_,?_,?_,?_,?_,trivial⟩ ?_)
  ·exact oi [] fun Y=>Qag (.pointer (some ⟨p,0,none⟩)) (Zz Y)
  ·exact oi [0] fun Y=>QaA rfl (Zz Y)
  ·exact oi [1] fun Y=>Qac Qdp rfl (Zz Y)
  ·exact oi [2] fun Y=>Qac Qcc rfl (Zz Y)
  ·exact oi [3] fun Y=>QaY (.int .i64 ((r.e:Nat):Int)) QgQ Y 0 (Zz Y)
  ·exact oi [] fun Y=>Qak (.int .u64 0) (Zz Y)
  ·exact oi [4] fun Y=>Qak (.int .i64 ((r.e:Nat):Int)) (Zz Y)
  rintro J1 w3 J2 hJ Y
  replace hJ:J2=upd (upd (mix [25,26,27,28,29,2,3] J1 _) 2 (.int .u64 0)) 3 (I6 ((r.e:Nat):Int)):=hJ
  subst hJ
  refine Qat ?_
  refine ⟨_,Qbq (U:=.int .u64 0) (V:=I6 ((r.e:Nat):Int)) results165 rfl rfl,?_⟩
  rw [QuL (r:=r) (by omega)]
  exact ⟨(),rfl,Qev (Y.take 2),trivial⟩
 replace c2:=Qa3 c2
 replace c2:=QQ1 c2
 refine Qar (Qae (Qab (Qaa (Qag (Pq p 0) (Qaa (QaA rfl (Qaa (Qac QcU rfl (Qaa (QaY (.slice a r.l.length c) QbD Y 0 (Qaa (QaH (vs:=[.slice a r.l.length c]) (V:=.tuple #[.int .u64 (((Qai 0 0 r.l).1:Nat):Int),I6 (((Qai 0 0 r.l).2.1:Nat):Int),I6 (((Qai 0 0 r.l).2.2:Nat):Int)]) QqZ rfl rfl ?hc Y fun w4 Y=>?_))))))))))))
 case hc=>exact (QqT _ a c r.l hby (Own.rdr Y 1 rfl))
 refine Qaa (Qag (.tuple #[.int .u64 (((Qai 0 0 r.l).1:Nat):Int),I6 (((Qai 0 0 r.l).2.1:Nat):Int),I6 (((Qai 0 0 r.l).2.2:Nat):Int)]) (Qaa (Qaf (V:=.int .u64 (((Qai 0 0 r.l).1:Nat):Int)) rfl rfl (Qaa (Qaf (V:=I6 (((Qai 0 0 r.l).2.1:Nat):Int)) rfl rfl (Qaa (Qaf (V:=I6 (((Qai 0 0 r.l).2.2:Nat):Int)) rfl rfl (Qaa (Qak (.int .u64 (((Qai 0 0 r.l).1:Nat):Int)) (Qaa (Qak (I6 (((Qai 0 0 r.l).2.1:Nat):Int)) (Qaa (Qak (I6 (((Qai 0 0 r.l).2.2:Nat):Int)) (Qad (Qae (Qae (Qab (Qaa (Qag (I6 (((Qai 0 0 r.l).2.2:Nat):Int)) (Qaa (QbM rfl rfl (Qad (Qaq (t:=!decide ((((Qai 0 0 r.l).2.2:Nat):Int)=0)) rfl (fun c5=>?_) (fun c5=>?_))))))))))))))))))))))))
 ·
  replace c5:=Qcb c5
  replace c5:=QQ2 c5
  refine Qae (Qab (Qaa (Qag (Pq p 0) (Qaa (QaA rfl (Qaa (Qac Qdp rfl (Qaa (Qag (I6 (((Qai 0 0 r.l).2.2:Nat):Int)) (Qaa (Qa7 (vs:=[Pq p (0+0),I6 (((Qai 0 0 r.l).2.2:Nat):Int)]) (V:=fun _:Unit=>I6 (if ((r.e:Nat):Int)=0 then (((Qai 0 0 r.l).2.2:Nat):Int) else ((r.e:Nat):Int))) (R:=blk p [.bool true,I6 ((r.e:Nat):Int),.slice a r.l.length c] 281) (R':=fun _=>blk p [.bool true,I6 (if ((r.e:Nat):Int)=0 then (((Qai 0 0 r.l).2.2:Nat):Int) else ((r.e:Nat):Int)),.slice a r.l.length c] 281) (Lo:=fun _=>[]) (F:=fun _ _=>True) QoD rfl rfl Y 0 rfl (fun S0 hS0 hl0=>Qko _ S0 p 281 (((r.e:Nat):Int)) (((Qai 0 0 r.l).2.2:Nat):Int) (.slice a r.l.length c) hS0 hl0) fun _ w6 Y _=>(Qaa (Qak (.int .u64 0) (Qaa (Qak (I6 (if ((r.e:Nat):Int)=0 then (((Qai 0 0 r.l).2.2:Nat):Int) else ((r.e:Nat):Int))) (Qad (Qat ?_)))))))))))))))))
  refine ⟨_,Qbq (U:=.int .u64 0) (V:=I6 (if ((r.e:Nat):Int)=0 then (((Qai 0 0 r.l).2.2:Nat):Int) else ((r.e:Nat):Int))) results165 rfl rfl,?_⟩
  rw [Qui (r:=r) (by omega) (by omega)]
  have he:(if ((r.e:Nat):Int)=0 then (((Qai 0 0 r.l).2.2:Nat):Int) else ((r.e:Nat):Int))=(((Qai 0 0 r.l).2.2:Nat):Int):=if_pos (by omega)
  rw [he] at Y ⊢
  exact ⟨(),rfl,Qev (Y.take 2),trivial⟩
 replace c5:=Qa3 c5
 replace c5:=QQ1 c5
 refine Qar (Qae ?_)
 have hgk:=Qj6 hby (by omega)
 refine Qab (Qaa (Qag (Pq p 0) (Qaa (Qag (Pq p 0) (Qaa (QaA rfl (Qaa (Qac QcU rfl (Qaa (QaY (.slice a r.l.length c) QbD Y 0 (Qaa (Qag (I6 (((Qai 0 0 r.l).2.1:Nat):Int)) (Qaa (Qkk (l:=(Qai 0 0 r.l).2.1) (h:=r.l.length) (m:=c) (n':=(r.l.drop ((Qai 0 0 r.l).2.1)).length) Qbh QcG.1 (Own.rdr Y 1 rfl) rfl (.inr ⟨_,_,rfl,rfl⟩) (.inl ⟨rfl,rfl⟩) (.inl ⟨rfl,rfl⟩) (by omega) (by omega) (Nat.le_trans (show r.l.length<=r.l.length by omega) (Rd.roomM (Own.rdr Y 1 rfl))) (Nat.le_refl _) (by simp only [List.length_take,List.length_drop]<;>omega) ?_))))))))))))))
 refine Qaa (QaA rfl (Qaa (Qac QcU rfl (Qaa (Qcl (V:=.slice (sla a ((Qai 0 0 r.l).2.1) c 1) ((r.l.drop ((Qai 0 0 r.l).2.1)).length) (c-((Qai 0 0 r.l).2.1))) (cs':=[.bool true,I6 ((r.e:Nat):Int),.slice (sla a ((Qai 0 0 r.l).2.1) c 1) ((r.l.drop ((Qai 0 0 r.l).2.1)).length) (c-((Qai 0 0 r.l).2.1))]) QbD Y 0 rfl rfl rfl rfl (QQ8 rfl) rfl fun w7 Y=>(Qad (Qae (Qab (Qaa (Qag (.int .u64 (((Qai 0 0 r.l).1:Nat):Int)) (Qaa (Qak (.int .u64 (((Qai 0 0 r.l).1:Nat):Int)) (Qaa (Qak (I6 0) (Qad (Qat ?_))))))))))))))))
 refine ⟨_,Qbq (U:=.int .u64 (((Qai 0 0 r.l).1:Nat):Int)) (V:=I6 0) results165 rfl rfl,?_⟩
 rw [Qtj (r:=r) (by omega) (by omega)]
 have he0:r.e=0:=by omega
 rw [he0] at Y
 exact ⟨(),rfl,Qqd (e:=0) (Y.take 2) (by omega) rfl,trivial⟩
theorem Qje (w:World) (S:Nat->Prop) (p:Nat) (r:Rdr) (hby:QaZ r.l) (hl:r.l.length<=1000000) (hR:(rR 281 p r).holds w S) (hlt:∀ x,S x->x<w.heap.size):Calls prog 80 #[.pointer (some ⟨p,0,none⟩)] w (fun q w'=>∃ x:Option Addr × Nat,q = .returned (.tuple #[.slice x.1 (QaT r).1.length x.2,.int .i64 (((QaT r).2.1:Nat):Int)])/\Own w S w' [rR 281 p ((QaT r).2.2),row (.slice x.1 (QaT r).1.length x.2) ((QaT r).1.map (ic .u8)) 5 1]/\True):=by
 refine Qal (n:=46) func80 rfl ntmps80 rfl ?_
 have Y:=Own.lent hR hlt
 have hnl:=QeR (r:=r)
 have hne:=Qc2 (r:=r)
 refine Qae (Qab (Qaa (Qak (.slice none 0 0) (Qaa (Qak (I6 0) (Qad (Qae (Qab (Qaa (Qag (Pq p 0) (Qaa (Qa7 (α:=Unit) (vs:=[Pq p 0]) (V:=fun _=>.tuple #[.int .u64 (((Qaj r).1:Nat):Int),I6 (((Qaj r).2.1:Nat):Int)]) (R:=rR 281 p r) (R':=fun _=>rR 281 p ((Qaj r).2.2)) (Lo:=fun _=>[]) (F:=fun _ _=>True) Qjy rfl rfl Y 0 rfl (fun S0 hS0 hl0=>Qgt _ S0 p r hby (by omega) hS0 hl0) fun _ w1 Y _=>(Qaa (Qag (.tuple #[.int .u64 (((Qaj r).1:Nat):Int),I6 (((Qaj r).2.1:Nat):Int)]) (Qaa (Qaf (V:=.int .u64 (((Qaj r).1:Nat):Int)) rfl rfl (Qaa (Qaf (V:=I6 (((Qaj r).2.1:Nat):Int)) rfl rfl (Qaa (Qak (.int .u64 (((Qaj r).1:Nat):Int)) (Qaa (Qak (I6 (((Qaj r).2.1:Nat):Int)) (Qad ?_)))))))))))))))))))))))
 obtain ⟨x2,Y⟩:=Y.unex 0 rfl
 replace Y:=Y.split 0 rfl
 replace Y:Own w S _ [blk p [.bool true,I6 ((((Qaj r).2.2).e:Nat):Int),.slice x2.1 (((Qaj r).2.2).l.length) x2.2] 281,rdR (byv x2.1 ((Qaj r).2.2).l x2.2) 1 (((Qaj r).2.2).l.map (ic .u8))]:=Y
 refine Qae (Qay (Qae (Qab (Qaa (Qag (I6 (((Qaj r).2.1:Nat):Int)) (Qaa (QbM rfl rfl (Qaa (Qak (.bool (!decide ((((Qaj r).2.1:Nat):Int)=0))) (Qad (Qaq (t:=!decide ((((Qaj r).2.1:Nat):Int)=0)) rfl (fun c3=>?_) (fun c3=>?_))))))))))))
 ·
  replace c3:=Qcb c3
  replace c3:=QQ2 c3
  refine Qae (Qab (Qaa (Qag (I6 (((Qaj r).2.1:Nat):Int)) (Qaa (Qak (.slice none 0 0) (Qaa (Qak (I6 (((Qaj r).2.1:Nat):Int)) (Qad (Qat ?_)))))))))
  refine ⟨_,Qbq (U:=.slice none 0 0) (V:=I6 (((Qaj r).2.1:Nat):Int)) results80 rfl rfl,?_⟩
  rw [Que (r:=r) (by omega)]
  exact ⟨(none,0),rfl,(Qev (Y.take 2)).more _ (QaK _ _ _ _),trivial⟩
 replace c3:=Qa3 c3
 replace c3:=QQ1 c3
 refine Qae (Qab (Qaa (Qag (.int .u64 (((Qaj r).1:Nat):Int)) (Qaa (Qag (Pq p 0) (Qaa (QaA rfl (Qaa (Qac QcU rfl (Qaa (QaY (.slice x2.1 (((Qaj r).2.2).l.length) x2.2) QbD Y 0 (Qaa (QbG (n:=((Qaj r).2.2).l.length) QbJ (Own.rdr Y 1 rfl) (by simp) rfl (Qaa (QaB QfT Qa6 rfl (Qbe (by omega) (by omega)) (Qaa (Qck rfl rfl (Qaa (Qak (.bool (decide (((((Qaj r).2.2).l.length:Nat):Int)<(((Qaj r).1:Nat):Int)))) (Qad (Qaq (t:=decide (((((Qaj r).2.2).l.length:Nat):Int)<(((Qaj r).1:Nat):Int))) rfl (fun c4=>?_) (fun c4=>?_))))))))))))))))))))))
 ·
  replace c4:=QQ1 c4
  refine Qae (Qab (Qaa (Qag (Pq p 0) (Qaa (QaA rfl (Qaa (Qac Qdp rfl (Qaa (Qa7 (vs:=[Pq p (0+0),I6 4]) (V:=fun _:Unit=>I6 (if ((((Qaj r).2.2).e:Nat):Int)=0 then 4 else ((((Qaj r).2.2).e:Nat):Int))) (R:=blk p [.bool true,I6 ((((Qaj r).2.2).e:Nat):Int),.slice x2.1 (((Qaj r).2.2).l.length) x2.2] 281) (R':=fun _=>blk p [.bool true,I6 (if ((((Qaj r).2.2).e:Nat):Int)=0 then 4 else ((((Qaj r).2.2).e:Nat):Int)),.slice x2.1 (((Qaj r).2.2).l.length) x2.2] 281) (Lo:=fun _=>[]) (F:=fun _ _=>True) QoD rfl rfl Y 0 rfl (fun S0 hS0 hl0=>Qko _ S0 p 281 (((((Qaj r).2.2).e:Nat):Int)) 4 (.slice x2.1 (((Qaj r).2.2).l.length) x2.2) hS0 hl0) fun _ w5 Y _=>(Qaa (Qak (.slice none 0 0) (Qaa (Qak (I6 (if ((((Qaj r).2.2).e:Nat):Int)=0 then 4 else ((((Qaj r).2.2).e:Nat):Int))) (Qad (Qat ?_)))))))))))))))
  refine ⟨_,Qbq (U:=.slice none 0 0) (V:=I6 (if ((((Qaj r).2.2).e:Nat):Int)=0 then 4 else ((((Qaj r).2.2).e:Nat):Int))) results80 rfl rfl,?_⟩
  rw [QtZ (r:=r) (by omega) (by omega)]
  have he:(if (((Qaj r).2.2.e:Nat):Int)=0 then (4:Int) else (((Qaj r).2.2.e:Nat):Int))=4:=if_pos (by omega)
  rw [he] at Y ⊢
  exact ⟨(none,0),rfl,(Qev (e:=4) (Y.take 2)).more _ (QaK _ _ _ _),trivial⟩
 replace c4:=QQ2 c4
 refine Qar (Qae (Qab (Qaa (Qag (Pq p 0) (Qaa (QaA rfl (Qaa (Qac QcU rfl (Qaa (QaY (.slice x2.1 (((Qaj r).2.2).l.length) x2.2) QbD Y 0 (Qaa (Qag (.int .u64 (((Qaj r).1:Nat):Int)) (Qaa (Qkk (l:=0) (h:=(Qaj r).1) (m:=x2.2) (n':=((((Qaj r).2.2).l).take ((Qaj r).1)).length) Qbh QcG.1 (Own.rdr Y 1 rfl) rfl (.inl ⟨rfl,rfl⟩) (.inr ⟨_,_,rfl,rfl⟩) (.inl ⟨rfl,rfl⟩) (by omega) (by omega) (Nat.le_trans (show ((Qaj r).1)<=(((Qaj r).2.2).l).length by omega) (Rd.roomM (Own.rdr Y 1 rfl))) (Nat.le_refl _) (by simp only [List.length_take,List.length_drop]<;>omega) ?_))))))))))))))
 refine Qaa (Qax (vs:=[.slice (sla x2.1 0 x2.2 1) (((((Qaj r).2.2).l).take ((Qaj r).1)).length) (x2.2-0)]) (V:=fun x:Option Addr × Nat=>.slice x.1 (((((Qaj r).2.2).l).take ((Qaj r).1))).length x.2) QkG rfl rfl (Qh5 _ (sla x2.1 0 x2.2 1) (x2.2-0) ((((Qaj r).2.2).l).take ((Qaj r).1)) (by simp only [List.length_take,List.length_drop];omega) (Rd.subM (Own.rdr Y 1 rfl) 0 ((Qaj r).1) x2.2 (by omega) (by omega) (Nat.le_trans (show ((Qaj r).1)<=(((Qaj r).2.2).l).length by omega) (Rd.roomM (Own.rdr Y 1 rfl))) (Nat.le_refl _) _ (by simp only [List.length_take,List.length_drop]<;>omega))) Y fun x6 w7 Y _=>?_)
 refine Qaa (Qak (.slice x6.1 ((((((Qaj r).2.2).l).take ((Qaj r).1))).length) x6.2) (Qad (Qae (Qab (Qaa (Qag (Pq p 0) (Qaa (Qag (Pq p 0) (Qaa (QaA rfl (Qaa (Qac QcU rfl (Qaa (QaY (.slice x2.1 (((Qaj r).2.2).l.length) x2.2) QbD Y 0 (Qaa (Qag (.int .u64 (((Qaj r).1:Nat):Int)) (Qaa (Qkk (l:=(Qaj r).1) (h:=((Qaj r).2.2).l.length) (m:=x2.2) (n':=((((Qaj r).2.2).l).drop ((Qaj r).1)).length) Qbh QcG.1 (Own.rdr Y 1 rfl) rfl (.inr ⟨_,_,rfl,rfl⟩) (.inl ⟨rfl,rfl⟩) (.inl ⟨rfl,rfl⟩) (by omega) (by omega) (Nat.le_trans (show (((Qaj r).2.2).l.length)<=(((Qaj r).2.2).l).length by omega) (Rd.roomM (Own.rdr Y 1 rfl))) (Nat.le_refl _) (by simp only [List.length_take,List.length_drop]<;>omega) ?_))))))))))))))))))
 refine Qaa (QaA rfl (Qaa (Qac QcU rfl (Qaa (Qcl (V:=.slice (sla x2.1 ((Qaj r).1) x2.2 1) (((((Qaj r).2.2).l).drop ((Qaj r).1)).length) (x2.2-((Qaj r).1))) (cs':=[.bool true,I6 ((((Qaj r).2.2).e:Nat):Int),.slice (sla x2.1 ((Qaj r).1) x2.2 1) (((((Qaj r).2.2).l).drop ((Qaj r).1)).length) (x2.2-((Qaj r).1))]) QbD Y 0 rfl rfl rfl rfl (QQ8 rfl) rfl fun w8 Y=>(Qad (Qae (Qab (Qaa (Qag (.slice x6.1 ((((((Qaj r).2.2).l).take ((Qaj r).1))).length) x6.2) (Qaa (Qak (.slice x6.1 ((((((Qaj r).2.2).l).take ((Qaj r).1))).length) x6.2) (Qaa (Qak (I6 0) (Qad (Qat ?_))))))))))))))))
 refine ⟨_,Qbq (U:=.slice x6.1 ((((((Qaj r).2.2).l).take ((Qaj r).1))).length) x6.2) (V:=I6 0) results80 rfl rfl,?_⟩
 rw [Qt9 (r:=r) (by omega) (by omega)]
 have he0:(Qaj r).2.2.e=0:=by omega
 rw [he0] at Y
 exact ⟨(x6.1,x6.2),rfl,Qnl (e:=0) (Y.take 3) (by omega) rfl,trivial⟩
theorem QeG (w:World) (S:Nat->Prop) (p:Nat) (r:Rdr) (hR:(rR 281 p r).holds w S) (hlt:∀ x,S x->x<w.heap.size):Calls prog 83 #[.pointer (some ⟨p,0,none⟩)] w (fun q w'=>∃ x:Unit,q = .returned (.bool (QaU r))/\Own w S w' [rR 281 p r]/\True):=by
 refine Qal (n:=28) func83 rfl ntmps83 rfl ?_
 obtain ⟨a,c,Y⟩:=Qnz hR hlt
 replace Y:Own w S w [blk p [.bool true,I6 ((r.e:Nat):Int),.slice a r.l.length c] 281,rdR (byv a r.l c) 1 (r.l.map (ic .u8))]:=Y
 refine Qae (Qab (Qaa (Qak (.bool false) (Qad (Qae (Qa2 (so 3 25++[some 2]) [] [0,1,3,7,15,31,63,127,255,511,1023,2047,4095,8191,16383,32767,65535,131071,262143,524287,1048575,2097151,4194303,8388607,16777215,33554431] [pv (Pq p 0),pv (.bool true),pv (.bool true),pv (Pq p 0),pv (Pq p 0),pv (Pq p (0+0)),pv (Pq p (0+0+0)),pv (.bool true),pv (.bool true),pv (.bool true),pv (Pq p 0),pv (Pq p 0),pv (Pq p (0+0)),pv (Pq p (0+0+1)),pv (I6 ((r.e:Nat):Int)),pv (.bool (decide (((r.e:Nat):Int)=0))),pv (.bool (decide (((r.e:Nat):Int)=0))),pv (.bool (decide (((r.e:Nat):Int)=0))),pg ((decide (((r.e:Nat):Int)=0)) == true) (Pq p 0),pg ((decide (((r.e:Nat):Int)=0)) == true) (Pq p 0),pg ((decide (((r.e:Nat):Int)=0)) == true) (Pq p (0+2)),pg ((decide (((r.e:Nat):Int)=0)) == true) (.slice a r.l.length c),pg ((decide (((r.e:Nat):Int)=0)) == true) (I6 ((r.l.length:Nat):Int)),pg ((decide (((r.e:Nat):Int)=0)) == true) (.bool (decide (((r.l.length:Nat):Int)=0))),pv (.bool ((decide (((r.e:Nat):Int)=0))&&(decide (((r.l.length:Nat):Int)=0)))),pv (.bool ((decide (((r.e:Nat):Int)=0))&&(decide (((r.l.length:Nat):Int)=0))))] (fun _ _=>_) [25] (by kernel_rfl) Y ⟨?_,?_,?_,?_,?_,?_,?_,?_,?_,?_,?_,?_,?_,?_,?_,?_,?_,?_,?_,?_,?_,?_,?_,?_,?_,?_,trivial⟩ ?_))))))
 ·exact oi [] fun Y=>Qag (.pointer (some ⟨p,0,none⟩)) (Zz Y)
 ·exact oi [0] fun Y=>Qsj QqD rfl rfl (Zz Y)
 ·exact oi [1] fun Y=>Qag (.bool true) (Zz Y)
 ·exact obg [2] [] true rfl (fun _=>rfl) rfl (fun _ _ _ h=>nomatch h) fun D J w _ Y=>Qag (Pq p 0) (Zz Y)
 ·exact obg [2,3] [] true rfl (fun _=>rfl) rfl (fun _ _ _ h=>nomatch h) fun D J w _ Y=>QaA rfl (Zz Y)
 ·exact obg [2,4] [] true rfl (fun _=>rfl) rfl (fun _ _ _ h=>nomatch h) fun D J w _ Y=>Qac Qdp rfl (Zz Y)
 ·exact obg [2,5] [] true rfl (fun _=>rfl) rfl (fun _ _ _ h=>nomatch h) fun D J w _ Y=>Qac Qf2 rfl (Zz Y)
 ·exact obg [2,6] [] true rfl (fun _=>rfl) rfl (fun _ _ _ h=>nomatch h) fun D J w _ Y=>QaY (.bool true) Qtc Y 0 (Zz Y)
 ·exact oi [2,7] fun Y=>QgY (V:=.bool true) rfl rfl (Zz Y)
 ·exact oi [8] fun Y=>Qag (.bool true) (Zz Y)
 ·exact obg [9] [] true rfl (fun _=>rfl) rfl (fun _ _ _ h=>nomatch h) fun D J w _ Y=>Qag (Pq p 0) (Zz Y)
 ·exact obg [9,10] [] true rfl (fun _=>rfl) rfl (fun _ _ _ h=>nomatch h) fun D J w _ Y=>QaA rfl (Zz Y)
 ·exact obg [9,11] [] true rfl (fun _=>rfl) rfl (fun _ _ _ h=>nomatch h) fun D J w _ Y=>Qac Qdp rfl (Zz Y)
 ·exact obg [9,12] [] true rfl (fun _=>rfl) rfl (fun _ _ _ h=>nomatch h) fun D J w _ Y=>Qac Qcc rfl (Zz Y)
 ·exact obg [9,13] [] true rfl (fun _=>rfl) rfl (fun _ _ _ h=>nomatch h) fun D J w _ Y=>QaY (I6 ((r.e:Nat):Int)) QgQ Y 0 (Zz Y)
 ·exact obg [9,14] [] true rfl (fun _=>rfl) rfl (fun _ _ _ h=>nomatch h) fun D J w _ Y=>Qa5 rfl rfl (Zz Y)
 ·exact oi [9,15] fun Y=>QgY (V:=.bool (decide (((r.e:Nat):Int)=0))) rfl rfl (Zz Y)
 ·exact oi [16] fun Y=>Qag (.bool (decide (((r.e:Nat):Int)=0))) (Zz Y)
 ·exact ogi [17] fun hG Y=>Qag (.pointer (some ⟨p,0,none⟩)) (Zz Y)
 ·exact oyi [17,18] [18] fun hG Y=>QaA rfl (Zz Y)
 ·exact oyi [17,19] [19] fun hG Y=>Qac QcU rfl (Zz Y)
 ·exact oyi [17,20] [20] fun hG Y=>QaY (.slice a r.l.length c) QbD Y 0 (Zz Y)
 ·exact oyi [17,21] [21] fun hG Y=>QbG (n:=r.l.length) QbJ (Own.rdr Y 1 rfl) (by simp) rfl (Zz Y)
 ·exact oyi [17,22] [22] fun hG Y=>Qa5 rfl rfl (Zz Y)
 ·exact oi [17,23] fun Y=>Qa0 (h':=decide (((r.l.length:Nat):Int)=0)) rfl rfl rfl (Zz Y)
 ·exact oi [24] fun Y=>Qak (.bool ((decide (((r.e:Nat):Int)=0))&&(decide (((r.l.length:Nat):Int)=0)))) (Zz Y)
 rintro J1 w1 J2 hJ Y
 replace hJ:J2=upd (mix (sq 3 25++[2]) J1 _) 2 (.bool ((decide (((r.e:Nat):Int)=0))&&(decide (((r.l.length:Nat):Int)=0)))):=hJ
 subst hJ
 refine Qat ?_
 refine ⟨_,Qau (V:=.bool ((decide (((r.e:Nat):Int)=0))&&(decide (((r.l.length:Nat):Int)=0)))) results83 rfl,?_⟩
 exact ⟨(),by refine congrArg (fun b:Bool=>Ending.returned (.bool b)) ?_;unfold QaU;rw [Bool.eq_iff_iff];simp,Qev (Y.take 2),trivial⟩
theorem Qif (w:World) (a:Option Addr) (c:Nat) (l:Bs) (hl:l.length<=1000000) (hr:Rd w (.slice a l.length c) 1 (l.map (ic .u8))):Calls prog 78 #[.slice a l.length c] w (fun q w'=>∃ p:Nat,q = .returned (.pointer (some ⟨p,0,none⟩))/\Own w no w' [rR 281 p (⟨0,l⟩:Rdr)]/\True):=by
 refine Qal (n:=8) func78 rfl ntmps78 rfl ?_
 have Y:=Own.start w
 have hn:=hr.sml
 refine Qae (Qab (Qaa (Qak (.pointer none) (Qad (Qae (Qab (Qaa (Qbz (vs:=[(0,.bool true)]) (cs:=[.bool true,I6 0]) Qre (rfl) rfl (Qaa (Qag (.slice a l.length c) (Qaa (Qax (vs:=[.slice a l.length c]) (V:=fun x:Option Addr × Nat=>.slice x.1 (l).length x.2) QkG rfl rfl (Qh5 _ a c l (by omega) (Rd.own' hr Y)) Y fun x1 w2 Y _=>(Qaa (Qbz (vs:=[(0,.agg #[.bool true,I6 0]),(1,.slice x1.1 ((l).length) x1.2)]) (cs:=[.bool true,I6 0,.slice x1.1 ((l).length) x1.2]) Qto (rfl) rfl (Qaa (Qb4 (V:=.agg #[.bool true,I6 0,.slice x1.1 ((l).length) x1.2]) (cs:=[.bool true,I6 0,.slice x1.1 ((l).length) x1.2]) rfl rfl Y fun b3 w4 Y=>(Qaa (Qak (Pq b3 0) (Qad (Qat ?_))))))))))))))))))))
 refine ⟨_,Qau (V:=Pq b3 0) results78 rfl,?_⟩
 replace Y:Own w no _ [blk b3 [.bool true,I6 0,.slice x1.1 ((l).length) x1.2] 281,row (.slice x1.1 ((l).length) x1.2) (l.map (ic .u8)) 5 1]:=Y.sel [1,0] (by decide) rfl
 exact ⟨b3,rfl,Qev (e:=0) (Y.conv 1 rfl fun _ h=>QlW h),trivial⟩
theorem Qpr (w:World) (S:Nat->Prop) (p:Nat) (r:Rdr) (hby:QaZ r.l) (hl:r.l.length<=1000000) (hR:(rR 281 p r).holds w S) (hlt:∀ x,S x->x<w.heap.size):Calls prog 79 #[.pointer (some ⟨p,0,none⟩)] w (fun q w'=>∃ x:Unit,q = .returned (.int .i64 ((min (Qaj r).1 100:Nat):Int))/\Own w S w' [rR 281 p ((Qaj r).2.2)]/\True):=by
 refine Qal (n:=13) func79 rfl ntmps79 rfl ?_
 have Y:=Own.lent hR hlt
 refine Qae (Qab (Qaa (Qak (I6 0) (Qad (Qae (Qab (Qaa (Qag (Pq p 0) (Qaa (Qa7 (α:=Unit) (vs:=[Pq p 0]) (V:=fun _=>.tuple #[.int .u64 (((Qaj r).1:Nat):Int),I6 (((Qaj r).2.1:Nat):Int)]) (R:=rR 281 p r) (R':=fun _=>rR 281 p ((Qaj r).2.2)) (Lo:=fun _=>[]) (F:=fun _ _=>True) Qjy rfl rfl Y 0 rfl (fun S0 hS0 hl0=>Qgt _ S0 p r hby (by omega) hS0 hl0) fun _ w1 Y _=>(Qaa (Qag (.tuple #[.int .u64 (((Qaj r).1:Nat):Int),I6 (((Qaj r).2.1:Nat):Int)]) (Qaa (Qaf (V:=.int .u64 (((Qaj r).1:Nat):Int)) rfl rfl (Qaa (Qaf (V:=I6 (((Qaj r).2.1:Nat):Int)) rfl rfl (Qaa (Qak (.int .u64 (((Qaj r).1:Nat):Int)) (Qaa (Qak (I6 (((Qaj r).2.1:Nat):Int)) (Qad (Qae (Qab (Qaa (Qag (.int .u64 (((Qaj r).1:Nat):Int)) (Qaa (Qas (V:=.int .u64 (min (((Qaj r).1:Nat):Int) 100)) (V':=.int .u64 ((min (Qaj r).1 100:Nat):Int)) (QpG rfl rfl ⟨rfl,rfl⟩) (congrArg (Value.int .u64) (by omega)) (Qaa (QaB Qa6 QfT rfl (Qc1 (by omega) (by omega)) (Qaa (Qak (I6 ((min (Qaj r).1 100:Nat):Int)) (Qad (Qat ?_)))))))))))))))))))))))))))))))))
 refine ⟨_,Qau (V:=I6 ((min (Qaj r).1 100:Nat):Int)) results79 rfl,?_⟩
 exact ⟨(),rfl,Y.only 0 rfl,trivial⟩
end Tt
end Go.Proofs
namespace Go.Proofs
open Go Go.Vx Go.RowKit
open Tryz
namespace Tt
theorem Qfw {r:Rdr}:∀ k,(QaL k r).2.l.length<=r.l.length
 | 0=>Nat.le_refl _
 | k+1=>Nat.le_trans QeR (Qfw k)
theorem Qna (w:World) (a:Option Addr) (c:Nat) (l:Bs) (hby:QaZ l) (hl:l.length<=900000) (hr:Rd w (.slice a l.length c) 1 (l.map (ic .u8))):Calls prog 81 #[.slice a l.length c] w (fun e w'=>∃ x:Vec × Nat,e = .returned (.tuple #[.agg (vc x.1).toArray,.int .i64 ((x.2:Nat):Int)])/\Own w no w' []/\QcA l x.1 x.2):=by
 refine Qal (n:=60) func81 rfl ntmps81 rfl ?_
 have Y:=Own.start w
 have hn:=hr.sml
 have hbr:QaZ (Qaj ⟨0,l⟩).2.2.l:=Qbu (r:=⟨0,l⟩) hby
 have hrl:(Qaj ⟨0,l⟩).2.2.l.length<=l.length:=QeR (r:=⟨0,l⟩)
 refine Qae (Qab (Qaa (QaX (cs:=vc vzero) Ql5 rfl Y fun b1 w2 Y=>(Qaa (Qak (I6 0) (Qad (Qae (Qab (Qaa (Qag (.slice a l.length c) (Qaa (Qax (vs:=[.slice a l.length c]) (V:=fun x:Nat=>Pq x 0) Qsq rfl rfl (Qif _ a c l (by omega) (Rd.own' hr Y)) Y fun p3 w4 Y _=>(Qaa (Qak (Pq p3 0) (Qad (Qae (Qab (Qaa (Qag (Pq p3 0) (Qaa (Qa7 (α:=Unit) (vs:=[Pq p3 0]) (V:=fun _=>.tuple #[.int .u64 (((Qaj (⟨0,l⟩:Rdr)).1:Nat):Int),I6 (((Qaj (⟨0,l⟩:Rdr)).2.1:Nat):Int)]) (R:=rR 281 p3 (⟨0,l⟩:Rdr)) (R':=fun _=>rR 281 p3 ((Qaj (⟨0,l⟩:Rdr)).2.2)) (Lo:=fun _=>[]) (F:=fun _ _=>True) Qjy rfl rfl Y 1 rfl (fun S0 hS0 hl0=>Qgt _ S0 p3 (⟨0,l⟩:Rdr) hby (by show l.length<=_;omega) hS0 hl0) fun _ w5 Y _=>(Qaa (Qag (.tuple #[.int .u64 (((Qaj (⟨0,l⟩:Rdr)).1:Nat):Int),I6 (((Qaj (⟨0,l⟩:Rdr)).2.1:Nat):Int)]) (Qaa (Qaf (V:=.int .u64 (((Qaj (⟨0,l⟩:Rdr)).1:Nat):Int)) rfl rfl (Qaa (Qaf (V:=I6 (((Qaj (⟨0,l⟩:Rdr)).2.1:Nat):Int)) rfl rfl (Qaa (Qak (.int .u64 (((Qaj (⟨0,l⟩:Rdr)).1:Nat):Int)) (Qaa (Qak (I6 (((Qaj (⟨0,l⟩:Rdr)).2.1:Nat):Int)) (Qad (Qae (Qae (Qa2 (so 18 6) [] [0,1,3,7,15,31] [pv (I6 (((Qaj (⟨0,l⟩:Rdr)).2.1:Nat):Int)),pv (.bool (!decide ((((Qaj (⟨0,l⟩:Rdr)).2.1:Nat):Int)=0))),pv (.bool (!decide ((((Qaj (⟨0,l⟩:Rdr)).2.1:Nat):Int)=0))),pg ((!decide ((((Qaj (⟨0,l⟩:Rdr)).2.1:Nat):Int)=0)) == false) (.int .u64 (((Qaj (⟨0,l⟩:Rdr)).1:Nat):Int)),pg ((!decide ((((Qaj (⟨0,l⟩:Rdr)).2.1:Nat):Int)=0)) == false) (.bool (decide (16<(((Qaj (⟨0,l⟩:Rdr)).1:Nat):Int)))),pv (.bool ((!decide ((((Qaj (⟨0,l⟩:Rdr)).2.1:Nat):Int)=0))||(decide (16<(((Qaj (⟨0,l⟩:Rdr)).1:Nat):Int)))))] (fun _ _=>_) [5] (by kernel_rfl) Y ⟨?_,?_,?_,?_,?_,?_,trivial⟩ ?_)))))))))))))))))))))))))))))))))))
 ·exact oi [] fun Y=>Qag (.int .i64 (((Qaj (⟨0,l⟩:Rdr)).2.1:Nat):Int)) (Zz Y)
 ·exact oi [0] fun Y=>QbM rfl rfl (Zz Y)
 ·exact oi [1] fun Y=>Qag (.bool (!decide ((((Qaj (⟨0,l⟩:Rdr)).2.1:Nat):Int)=0))) (Zz Y)
 ·exact ogi [2] fun hG Y=>Qag (.int .u64 (((Qaj (⟨0,l⟩:Rdr)).1:Nat):Int)) (Zz Y)
 ·exact oyi [2,3] [3] fun hG Y=>Qck rfl rfl (Zz Y)
 ·exact oi [2,4] fun Y=>QbL (h':=decide (16<(((Qaj (⟨0,l⟩:Rdr)).1:Nat):Int))) rfl rfl rfl (Zz Y)
 rintro J1 w6 J2 hJ Y
 replace hJ:J2=upd (mix (sq 18 6) J1 _) 23 (.bool ((!decide ((((Qaj (⟨0,l⟩:Rdr)).2.1:Nat):Int)=0))||(decide (16<(((Qaj (⟨0,l⟩:Rdr)).1:Nat):Int))))):=hJ
 subst hJ
 refine Qaq (t:=(!decide ((((Qaj (⟨0,l⟩:Rdr)).2.1:Nat):Int)=0))||(decide (16<(((Qaj (⟨0,l⟩:Rdr)).1:Nat):Int)))) rfl (fun c7=>?_) (fun c7=>?_)
 ·
  refine Qae ?_
  have hno:QcA l vzero 5:=QiH (by
   have h9:=c7
   simp only [Bool.or_eq_true,Bool.not_eq_true',decide_eq_true_eq,decide_eq_false_iff_not] at h9
   omega)
  refine Qab (Qaa (Qbz (vs:=[]) (cs:=vc vzero) Qjw (rfl) rfl (Qaa (QbN (V:=.agg (vc vzero).toArray) (vs:=vc vzero) (cs':=vc vzero) QbC.1 Y 0 rfl rfl rfl rfl rfl (QQ8 rfl) (QdC _) (Qao rfl) fun w8 Y=>(Qaa (Qak (I6 5) (Qad (Qat ?_))))))))
  refine ⟨_,QaD (cs:=vc vzero) (V:=I6 5) results81 QbC Y 0 rfl rfl rfl rfl,?_⟩
  exact ⟨(vzero,5),rfl,Y.take 0,hno⟩
 have c7r:=QdH c7
 replace c7:=QdJ c7
 replace c7:=Qa3 c7
 replace c7:=QQ1 c7
 replace c7r:=QQ2 c7r
 refine Qar (Qae ?_)
 have he9:(Qaj ⟨0,l⟩).2.1=0:=by omega
 have h16:(Qaj ⟨0,l⟩).1<=16:=by omega
 refine Qab (Qaa (QaX (cs:=vc vzero) Ql5 rfl Y fun b9 w10 Y=>(Qad (Qae (Qae (Qab (Qaa (Qag (.int .u64 (((Qaj (⟨0,l⟩:Rdr)).1:Nat):Int)) (Qaa (Qmj (h:=(Qaj (⟨0,l⟩:Rdr)).1) QqM Qbv.1 rfl rfl (by omega) (Qaa (QkW Qrv rfl (Qaa (Qag (I6 0) (Qad (Qay (Qbb (fun J μ J' w'=>∃ (Jo:Env) (k:Nat) (u:Vec),J'=upd (mix ([3,8,9,10]++sq 28 16) Jo J) 28 (I6 (k:Int))/\(k<=(Qaj ⟨0,l⟩).1)/\(u=QgO (QaL k (Qaj ⟨0,l⟩).2.2).1)/\(∀ n∈(QaL k (Qaj ⟨0,l⟩).2.2).1,n<4294967296)/\μ=(Qaj ⟨0,l⟩).1-k/\Own w no w' [blk b1 (vc vzero) 36,rR 281 p3 ((QaL k (Qaj ⟨0,l⟩).2.2).2),blk b9 (vc u) 36]) ?_ ?_)))))))))))))))))
 ·exact ⟨_,_,0,vzero,Qaw (QaN (ds:=([3,8,9,10]++sq 28 16)) (Agr.refl _ _)) rfl,(Nat.zero_le _),QkU.symm,(fun n hn=>nomatch hn),rfl,Y⟩
 rintro μ J' w11 ⟨Jo,k,u,rfl,hk,hu,hlt9,rfl,Y⟩
 have hkb:=Qdi (r:=(Qaj ⟨0,l⟩).2.2) hbr k
 have hkl:=Qfw (r:=(Qaj ⟨0,l⟩).2.2) k
 refine Qae (Qab (Qaa (QbQ rfl rfl (Qad (Qae (Qaq (t:=decide ((k:Int)<(((Qaj (⟨0,l⟩:Rdr)).1:Nat):Int))) rfl (fun c12=>?_) (fun c12=>?_)))))))
 ·
  replace c12:=QQ1 c12
  refine Qar (Qae (Qay (Qae (Qab (Qaa (Qag (I6 (k:Int)) (Qaa (Qak (I6 (k:Int)) (Qad (Qae (Qab (Qaa (Qag (Pq p3 0) (Qaa (Qa7 (α:=Unit) (vs:=[Pq p3 0]) (V:=fun _=>.tuple #[.int .u64 (((Qaj ((QaL k (Qaj ⟨0,l⟩).2.2).2)).1:Nat):Int),I6 (((Qaj ((QaL k (Qaj ⟨0,l⟩).2.2).2)).2.1:Nat):Int)]) (R:=rR 281 p3 ((QaL k (Qaj ⟨0,l⟩).2.2).2)) (R':=fun _=>rR 281 p3 ((Qaj ((QaL k (Qaj ⟨0,l⟩).2.2).2)).2.2)) (Lo:=fun _=>[]) (F:=fun _ _=>True) Qjy rfl rfl Y 1 rfl (fun S0 hS0 hl0=>Qgt _ S0 p3 ((QaL k (Qaj ⟨0,l⟩).2.2).2) hkb (by omega) hS0 hl0) fun _ w13 Y _=>(Qaa (Qag (.tuple #[.int .u64 (((Qaj ((QaL k (Qaj ⟨0,l⟩).2.2).2)).1:Nat):Int),I6 (((Qaj ((QaL k (Qaj ⟨0,l⟩).2.2).2)).2.1:Nat):Int)]) (Qaa (Qaf (V:=.int .u64 (((Qaj ((QaL k (Qaj ⟨0,l⟩).2.2).2)).1:Nat):Int)) rfl rfl (Qaa (Qaf (V:=I6 (((Qaj ((QaL k (Qaj ⟨0,l⟩).2.2).2)).2.1:Nat):Int)) rfl rfl (Qaa (Qak (.int .u64 (((Qaj ((QaL k (Qaj ⟨0,l⟩).2.2).2)).1:Nat):Int)) (Qaa (Qak (I6 (((Qaj ((QaL k (Qaj ⟨0,l⟩).2.2).2)).2.1:Nat):Int)) (Qad (Qae (Qae (Qab (Qaa (Qag (.int .u64 (((Qaj ((QaL k (Qaj ⟨0,l⟩).2.2).2)).1:Nat):Int)) (Qaa (Qck rfl rfl (Qad (Qaq (t:=decide (4294967295<(((Qaj ((QaL k (Qaj ⟨0,l⟩).2.2).2)).1:Nat):Int))) rfl (fun c14=>?_) (fun c14=>?_))))))))))))))))))))))))))))))))))))
  ·
   replace c14:=QQ1 c14
   refine Qae (Qab (Qaa (Qbz (vs:=[]) (cs:=vc vzero) Qjw (rfl) rfl (Qaa (QbN (V:=.agg (vc vzero).toArray) (vs:=vc vzero) (cs':=vc vzero) QbC.1 Y 0 rfl rfl rfl rfl rfl (QQ8 rfl) (QdC _) (Qao rfl) fun w15 Y=>(Qaa (Qak (I6 5) (Qad (Qat ?_)))))))))
   refine ⟨_,QaD (cs:=vc vzero) (V:=I6 5) results81 QbC Y 0 rfl rfl rfl rfl,?_⟩
   exact ⟨(vzero,5),rfl,Y.take 0,Qnw (by omega) (k:=k) (by omega) (by omega)⟩
  replace c14:=QQ2 c14
  refine Qar (Qab (Qaa (Qag (I6 (k:Int)) (Qaa (Qag (.int .u64 (((Qaj ((QaL k (Qaj ⟨0,l⟩).2.2).2)).1:Nat):Int)) (Qaa (QaB Qa6 Qdx rfl (Qjf (by omega) (by omega)) (Qaa (Qb2 Qgx Qbv.1 rfl rfl (by omega) (by omega) (Qaa (Qcl (V:=.int .u32 (((Qaj ((QaL k (Qaj ⟨0,l⟩).2.2).2)).1:Nat):Int)) (cs':=vc (vset u k (((Qaj ((QaL k (Qaj ⟨0,l⟩).2.2).2)).1:Nat):Int))) Qbv Y 2 rfl rfl rfl rfl (QtE (by omega)) (QnY (by omega) (by omega)) fun w16 Y=>(Qad (Qab (Qaa (Qbx (a:=(k:Int)) (b:=1) (c:=((k+1:Nat):Int)) rfl rfl (QaS (by omega) (by omega)) (Qaa (Qag (I6 ((k+1:Nat):Int)) (Qad ?_))))))))))))))))))
  refine ⟨_,?_,_,k+1,vset u k (((Qaj ((QaL k (Qaj ⟨0,l⟩).2.2).2)).1:Nat):Int),Qaw (QaN (ds:=([3,8,9,10]++sq 28 16)) (by repeat (first|exact Agr.refl _ _|refine Agr.upd ?_ rfl|refine Agr.mix ?_ rfl))) rfl,(by omega),(by rw [hu];exact Qjo (QeU _ _)),(by intro n hn;rcases List.mem_append.1 hn with h|h;exact hlt9 n h;simp at h;omega),rfl,Y.take 3⟩
  omega
 replace c12:=QQ2 c12
 refine Qbs (Qae (Qae ?_))
 have hkk:k=(Qaj ⟨0,l⟩).1:=by omega
 have hde:=Qp8 hby he9 h16 (by rw [← hkk];exact hlt9)
 rw [← hkk,← hu] at hde
 refine Qa2 (so 44 14) [] [0,1,3,7,15,31,63,127,255,511,1023,2047,4095,8191] [pv (Pq p3 0),pv (.bool (QaU ((QaL k (Qaj ⟨0,l⟩).2.2).2))),pv (.bool (!(QaU ((QaL k (Qaj ⟨0,l⟩).2.2).2)))),pv (.bool (!(QaU ((QaL k (Qaj ⟨0,l⟩).2.2).2)))),pg ((!(QaU ((QaL k (Qaj ⟨0,l⟩).2.2).2))) == false) (.int .u64 (((Qaj (⟨0,l⟩:Rdr)).1:Nat):Int)),pg ((!(QaU ((QaL k (Qaj ⟨0,l⟩).2.2).2))) == false) (.bool (decide (0<(((Qaj (⟨0,l⟩:Rdr)).1:Nat):Int)))),pg ((!(QaU ((QaL k (Qaj ⟨0,l⟩).2.2).2))) == false) (.bool (decide (0<(((Qaj (⟨0,l⟩:Rdr)).1:Nat):Int)))),pg (((!(QaU ((QaL k (Qaj ⟨0,l⟩).2.2).2))) == false)&&((decide (0<(((Qaj (⟨0,l⟩:Rdr)).1:Nat):Int))) == true)) (.int .u64 (((Qaj (⟨0,l⟩:Rdr)).1:Nat):Int)),pg (((!(QaU ((QaL k (Qaj ⟨0,l⟩).2.2).2))) == false)&&((decide (0<(((Qaj (⟨0,l⟩:Rdr)).1:Nat):Int))) == true)) (.int .u64 ((((Qaj (⟨0,l⟩:Rdr)).1:Nat):Int)-1)),pg (((!(QaU ((QaL k (Qaj ⟨0,l⟩).2.2).2))) == false)&&((decide (0<(((Qaj (⟨0,l⟩:Rdr)).1:Nat):Int))) == true)) (.pointer (some ⟨b9,0+((((Qaj (⟨0,l⟩:Rdr)).1:Nat):Int)-1).toNat,none⟩)),pg (((!(QaU ((QaL k (Qaj ⟨0,l⟩).2.2).2))) == false)&&((decide (0<(((Qaj (⟨0,l⟩:Rdr)).1:Nat):Int))) == true)) (.int .u32 (vat u ((((Qaj (⟨0,l⟩:Rdr)).1:Nat):Int)-1).toNat)),pg (((!(QaU ((QaL k (Qaj ⟨0,l⟩).2.2).2))) == false)&&((decide (0<(((Qaj (⟨0,l⟩:Rdr)).1:Nat):Int))) == true)) (.bool (decide (vat u ((((Qaj (⟨0,l⟩:Rdr)).1:Nat):Int)-1).toNat=0))),pg ((!(QaU ((QaL k (Qaj ⟨0,l⟩).2.2).2))) == false) (.bool ((decide (0<(((Qaj (⟨0,l⟩:Rdr)).1:Nat):Int)))&&(decide (vat u ((((Qaj (⟨0,l⟩:Rdr)).1:Nat):Int)-1).toNat=0)))),pv (.bool ((!(QaU ((QaL k (Qaj ⟨0,l⟩).2.2).2)))||((decide (0<(((Qaj (⟨0,l⟩:Rdr)).1:Nat):Int)))&&(decide (vat u ((((Qaj (⟨0,l⟩:Rdr)).1:Nat):Int)-1).toNat=0)))))] (fun _ _=>_) [13] (by kernel_rfl) Y ⟨?_,?_,?_,?_,?_,?_,?_,?_,?_,?_,?_,?_,?_,?_,trivial⟩ ?_
 ·exact oi [] fun Y=>Qag (.pointer (some ⟨p3,0,none⟩)) (Zz Y)
 ·exact oi [0] fun Y=>QgB (vs:=[.pointer (some ⟨p3,0,none⟩)]) (V:=.bool (QaU ((QaL k (Qaj ⟨0,l⟩).2.2).2))) (R:=rR 281 p3 ((QaL k (Qaj ⟨0,l⟩).2.2).2)) Qot rfl rfl Y 1 rfl (fun S0 hS0 hl0=>QeG _ S0 p3 ((QaL k (Qaj ⟨0,l⟩).2.2).2) hS0 hl0) fun _ Y=>Zz Y
 ·exact oi [1] fun Y=>Qb6 rfl (Zz Y)
 ·exact oi [2] fun Y=>Qag (.bool (!(QaU ((QaL k (Qaj ⟨0,l⟩).2.2).2)))) (Zz Y)
 ·exact ogi [3] fun hG Y=>Qag (.int .u64 (((Qaj (⟨0,l⟩:Rdr)).1:Nat):Int)) (Zz Y)
 ·exact oyi [3,4] [4] fun hG Y=>Qck rfl rfl (Zz Y)
 ·exact oyi [3,5] [5] fun hG Y=>Qag (.bool (decide (0<(((Qaj (⟨0,l⟩:Rdr)).1:Nat):Int)))) (Zz Y)
 ·exact ogi [6] fun hG Y=>Qag (.int .u64 (((Qaj (⟨0,l⟩:Rdr)).1:Nat):Int)) (Zz Y)
 ·refine oyi [6,7] [7] fun hG Y=>?_
  have hgd1:=QQ1 (eq_of_beq (Qhi (hG)))
  exact Qh2 (a:=(((Qaj (⟨0,l⟩:Rdr)).1:Nat):Int)) (b:=1) (c:=(((Qaj (⟨0,l⟩:Rdr)).1:Nat):Int)-1) rfl rfl (Qbe (by omega) (by omega)) (Zz Y)
 ·refine oyi [6,8] [8] fun hG Y=>?_
  have hgd1:=QQ1 (eq_of_beq (Qhi (hG)))
  exact Qb2 Qgx Qbv.1 rfl rfl (by omega) (by omega) (Zz Y)
 ·refine oyi [6,9] [9] fun hG Y=>?_
  have hgd1:=QQ1 (eq_of_beq (Qhi (hG)))
  exact QpP (V:=.int .u32 (vat u ((((Qaj (⟨0,l⟩:Rdr)).1:Nat):Int)-1).toNat)) Qbv Y 2 rfl rfl (Qhq (by omega) (by omega)) (Zz Y)
 ·exact oyi [6,10] [10] fun hG Y=>Qa5 rfl rfl (Zz Y)
 ·exact oyi [3,6,11] [6] fun hG Y=>Qhy (h':=decide (vat u ((((Qaj (⟨0,l⟩:Rdr)).1:Nat):Int)-1).toNat=0)) (G:=((!(QaU ((QaL k (Qaj ⟨0,l⟩).2.2).2))) == false)) hG rfl rfl rfl (Zz Y)
 ·exact oi [3,12] fun Y=>QbL (h':=(decide (0<(((Qaj (⟨0,l⟩:Rdr)).1:Nat):Int)))&&(decide (vat u ((((Qaj (⟨0,l⟩:Rdr)).1:Nat):Int)-1).toNat=0))) rfl rfl rfl (Zz Y)
 rintro J1 w18 J2 hJ Y
 replace hJ:J2=upd (mix (sq 44 14) J1 _) 57 (.bool ((!(QaU ((QaL k (Qaj ⟨0,l⟩).2.2).2)))||((decide (0<(((Qaj (⟨0,l⟩:Rdr)).1:Nat):Int)))&&(decide (vat u ((((Qaj (⟨0,l⟩:Rdr)).1:Nat):Int)-1).toNat=0))))):=hJ
 subst hJ
 refine Qaq (t:=(!(QaU ((QaL k (Qaj ⟨0,l⟩).2.2).2)))||((decide (0<(((Qaj (⟨0,l⟩:Rdr)).1:Nat):Int)))&&(decide (vat u ((((Qaj (⟨0,l⟩:Rdr)).1:Nat):Int)-1).toNat=0)))) rfl (fun c19=>?_) (fun c19=>?_)
 ·
  refine Qae ?_
  have hno:QcA l vzero 5:=hde.2 (by
      rintro ⟨h1,h2⟩
      have h9:=c19
      simp only [Bool.or_eq_true,Bool.not_eq_true',Bool.and_eq_true,decide_eq_true_eq,h1,Bool.true_eq_false,false_or] at h9
      rw [show ((((Qaj ⟨0,l⟩).1:Nat):Int)-1).toNat=k-1 by omega] at h9
      exact h2 (by omega) h9.2)
  refine Qab (Qaa (Qbz (vs:=[]) (cs:=vc vzero) Qjw (rfl) rfl (Qaa (QbN (V:=.agg (vc vzero).toArray) (vs:=vc vzero) (cs':=vc vzero) QbC.1 Y 0 rfl rfl rfl rfl rfl (QQ8 rfl) (QdC _) (Qao rfl) fun w20 Y=>(Qaa (Qak (I6 5) (Qad (Qat ?_))))))))
  refine ⟨_,QaD (cs:=vc vzero) (V:=I6 5) results81 QbC Y 0 rfl rfl rfl rfl,?_⟩
  exact ⟨(vzero,5),rfl,Y.take 0,hno⟩
 have c19r:=QdH c19
 replace c19:=QdJ c19
 replace c19:=Qa3 c19
 refine Qar (Qae ?_)
 have hyes:QcA l u 0:=hde.1 ⟨c19,fun h0 h1=>by
      have h9:=c19r
      rw [show ((((Qaj ⟨0,l⟩).1:Nat):Int)-1).toNat=k-1 by omega] at h9
      simp only [Bool.and_eq_false_iff,decide_eq_false_iff_not] at h9
      omega⟩
 refine Qab (Qaa (Qa1 (cs:=vc u) QbC Y 2 rfl rfl rfl (Qaa (QbN (V:=.agg (vc u).toArray) (vs:=vc u) (cs':=vc u) QbC.1 Y 0 rfl rfl rfl rfl rfl (QQ8 rfl) (QdC _) (Qao rfl) fun w21 Y=>(Qaa (Qak (I6 0) (Qad (Qat ?_))))))))
 refine ⟨_,QaD (cs:=vc u) (V:=I6 0) results81 QbC Y 0 rfl rfl rfl rfl,?_⟩
 exact ⟨(u,0),rfl,Y.take 0,hyes⟩
end Tt
end Go.Proofs
namespace Go.Proofs
open Go Go.Vx Go.RowKit
open Tryz
namespace Tt
theorem Qis (w:World) (v:Vec) (hv:Qbw v):Calls prog 161 #[.agg (vc v).toArray] w (fun e w'=>∃ x:Option Addr × Nat,e = .returned (.slice x.1 (QaF v).length x.2)/\Own w no w' [row (.slice x.1 (QaF v).length x.2) ((QaF v).map (ic .u8)) 5 1]/\True):=by
 refine Qal (n:=33) func161 rfl ntmps161 rfl ?_
 have Y:=Own.start w
 refine Qae (Qab (Qaa (Qb4 (V:=.agg (vc v).toArray) (cs:=vc v) rfl rfl Y fun b1 w2 Y=>(Qaa (Qak (.slice none 0 0) (Qad (Qae (Qab (Qaa (Qak (I6 0) (Qad (Qae (Qae (Qab (Qaa (Qak (I6 0) (Qad (Qay (Qbb (fun J μ J' w'=>∃ (Jo:Env) (k:Nat) (n:Nat),J'=upd (upd (mix ([3,4]++sq 7 10) Jo J) 4 (I6 (k:Int))) 3 (I6 (n:Int))/\(k<=16)/\(n=Qde v k)/\(n<=k)/\μ=16-k/\Own w no w' [blk b1 (vc v) 36]) ?_ ?_)))))))))))))))))))
 ·exact ⟨_,_,0,0,Qaw (Qaw (QaN (ds:=([3,4]++sq 7 10)) (Agr.refl _ _)) rfl) rfl,(by omega),rfl,(by omega),rfl,Y⟩
 rintro μ J' w3 ⟨Jo,k,n,rfl,hk,hn9,hnk,rfl,Y⟩
 refine Qae (Qae (Qab (Qaa (Qag (I6 (k:Int)) (Qaa (QbQ rfl rfl (Qad (Qaq (t:=decide ((k:Int)<16)) rfl (fun c4=>?_) (fun c4=>?_)))))))))
 ·
  replace c4:=QQ1 c4
  refine Qar (Qae (Qay (Qae (Qab (Qaa (Qag (I6 (k:Int)) (Qaa (Qb2 Qgx Qbv.1 rfl rfl (by omega) (by omega) (Qaa (QpP (V:=.int .u32 (vat v k)) Qbv Y 0 rfl rfl (Qhq (by omega) (by omega)) (Qaa (QbM rfl rfl (Qad (Qaq (t:=!decide (vat v k=0)) rfl (fun c5=>?_) (fun c5=>?_)))))))))))))))
  ·
   replace c5:=Qcb c5
   replace c5:=QQ2 c5
   refine Qab (Qaa (Qag (I6 (k:Int)) (Qaa (Qbx (a:=(k:Int)) (b:=1) (c:=((k+1:Nat):Int)) rfl rfl (QaS (by omega) (by omega)) (Qaa (Qak (I6 ((k+1:Nat):Int)) (Qad (Qab (Qaa (Qag (I6 (k:Int)) (Qaa (Qbx (a:=(k:Int)) (b:=1) (c:=((k+1:Nat):Int)) rfl rfl (QaS (by omega) (by omega)) (Qaa (Qak (I6 ((k+1:Nat):Int)) (Qad ?_)))))))))))))))
   refine ⟨_,?_,_,k+1,k+1,Qaw (Qaw (QaN (ds:=([3,4]++sq 7 10)) (by repeat (first|exact Agr.refl _ _|refine Agr.upd ?_ rfl|refine Agr.mix ?_ rfl))) rfl) rfl,(by omega),((if_neg c5).symm),(by omega),rfl,Y.take 1⟩
   omega
  replace c5:=Qa3 c5
  replace c5:=QQ1 c5
  refine Qar (Qab (Qaa (Qag (I6 (k:Int)) (Qaa (Qbx (a:=(k:Int)) (b:=1) (c:=((k+1:Nat):Int)) rfl rfl (QaS (by omega) (by omega)) (Qaa (Qak (I6 ((k+1:Nat):Int)) (Qad ?_))))))))
  refine ⟨_,?_,_,k+1,n,Qaw (Qaw (QaN (ds:=([3,4]++sq 7 10)) (by repeat (first|exact Agr.refl _ _|refine Agr.upd ?_ rfl|refine Agr.mix ?_ rfl))) rfl) rfl,(by omega),((hn9.trans (if_pos c5).symm)),(by omega),rfl,Y.take 1⟩
  omega
 replace c4:=QQ2 c4
 refine Qbs (Qae ?_)
 have hvn:vlen v=n:=by rw [hn9,show k=16 by omega];rfl
 refine Qab (Qaa (Qag (I6 (n:Int)) (Qaa (QaB QfT Qa6 rfl (Qbe (by omega) (by omega)) (Qaa (Qax (vs:=[.int .u64 (n:Int)]) (V:=fun x:Option Addr × Nat=>.slice x.1 (Qan n).length x.2) Qel rfl rfl (Qc5 _ n (by omega)) Y fun x6 w7 Y _=>(Qaa (Qak (.slice x6.1 ((Qan n).length) x6.2) (Qad (Qae (Qae (Qab (Qaa (Qak (I6 0) (Qad (Qay (Qbb (fun J μ J' w'=>∃ (Jo:Env) (j:Nat) (ab9:Option Addr) (cb9:Nat) (L:Bs),J'=upd (upd (mix ([5,6]++sq 20 12) Jo J) 6 (I6 (j:Int))) 5 (.slice ab9 L.length cb9)/\(j<=n)/\(L=Qan n++QbA (vnums v j))/\(L.length<=10+10*j)/\μ=n-j/\Own w no w' [blk b1 (vc v) 36,row (.slice ab9 L.length cb9) (L.map (ic .u8)) 5 1]) ?_ ?_)))))))))))))))))
 ·exact ⟨_,_,0,x6.1,x6.2,Qan n,Qaw (Qaw (QaN (ds:=([5,6]++sq 20 12)) (Agr.refl _ _)) rfl) rfl,(by omega),(by simp [vnums,QbA]),(by have:=Qbl (n:=n) (by omega);omega),rfl,Y⟩
 rintro μ J' w8 ⟨Jo,j,ab9,cb9,L,rfl,hj,hL,hLl,rfl,Y⟩
 refine Qae (Qae (Qab (Qaa (Qag (I6 (j:Int)) (Qaa (Qag (I6 (n:Int)) (Qaa (QbQ rfl rfl (Qad (Qaq (t:=decide ((j:Int)<(n:Int))) rfl (fun c9=>?_) (fun c9=>?_)))))))))))
 ·
  replace c9:=QQ1 c9
  refine Qar (Qae (Qay ?_))
  have hvk:=QfI hv j
  have hp10:=Qbl (n:=(vat v j).toNat) (by omega)
  refine Qab (Qaa (Qag (.slice ab9 L.length cb9) (Qaa (Qag (I6 (j:Int)) (Qaa (Qb2 Qgx Qbv.1 rfl rfl (by omega) (by omega) (Qaa (QpP (V:=.int .u32 (vat v j)) Qbv Y 0 rfl rfl (Qhq (by omega) (by omega)) (Qaa (Qas (V:=.int .u64 (vat v j)) (V':=.int .u64 (((vat v j).toNat:Nat):Int)) (QaB Qdx Qa6 rfl (Qbe (by omega) (by omega)) ⟨rfl,rfl⟩) (congrArg (Value.int .u64) (by omega)) (Qaa (Qax (vs:=[.int .u64 (((vat v j).toNat:Nat):Int)]) (V:=fun x:Option Addr × Nat=>.slice x.1 (Qan ((vat v j).toNat)).length x.2) Qel rfl rfl (Qc5 _ ((vat v j).toNat) (by omega)) Y fun x10 w11 Y _=>(Qaa (QbH (ls':=(L++(Qan ((vat v j).toNat))).map (ic .u8)) (n:=(L++(Qan ((vat v j).toNat))).length) Qca Y 1 rfl rfl rfl (Y.rd 2 rfl) (QaV (Qbj .u8) _) (by simp only [QQ6,QQ7,List.length_cons,List.length_nil];omega) (by simp) (by simp) fun a12 c12 w13 Y=>(Qaa (Qak (.slice a12 ((L++(Qan ((vat v j).toNat))).length) c12) (Qad (Qab (Qaa (Qag (I6 (j:Int)) (Qaa (Qbx (a:=(j:Int)) (b:=1) (c:=((j+1:Nat):Int)) rfl rfl (QaS (by omega) (by omega)) (Qaa (Qak (I6 ((j+1:Nat):Int)) (Qad ?_)))))))))))))))))))))))))
  refine ⟨_,?_,_,j+1,a12,c12,L++(Qan ((vat v j).toNat)),Qaw (Qaw (QaN (ds:=([5,6]++sq 20 12)) (by repeat (first|exact Agr.refl _ _|refine Agr.upd ?_ rfl|refine Agr.mix ?_ rfl))) rfl) rfl,(by omega),(by rw [hL,Qho,Qed,List.append_assoc]),(by rw [QQ7];have:=Qbl (n:=(vat v j).toNat) (by omega);omega),rfl,Y.take 2⟩
  omega
 replace c9:=QQ2 c9
 refine Qbs (Qae (Qab (Qaa (Qag (.slice ab9 L.length cb9) (Qaa (Qak (.slice ab9 L.length cb9) (Qad (Qat ?_))))))))
 refine ⟨_,Qau (V:=.slice ab9 L.length cb9) results161 rfl,?_⟩
 have hX:L=QaF v:=by rw [hL,show j=n by omega];unfold QaF;rw [hvn]
 subst hX
 exact ⟨(ab9,cb9),rfl,Y.only 1 rfl,trivial⟩
theorem Qsr (l:List Nat):Qbw (QgO (l.map (·%4294967296))):=Qkw fun n hn=>by
 obtain ⟨m,_,rfl⟩:=List.mem_map.1 hn
 omega
theorem Qo7 {l:List Nat} {k n:Nat} (h:l.length=k):vset (QgO (l.map (·%4294967296))) k ((n:Int)%4294967296)=QgO ((l++[n]).map (·%4294967296)):=by
 rw [List.map_append,show ((n:Int)%4294967296)=((n%4294967296:Nat):Int) by omega]
 exact Qjo (by rw [QQ6];exact h)
theorem Qlj (w:World) (a:Option Addr) (c:Nat) (l:Bs) (hby:QaZ l) (hl:l.length<=900000) (hr:Rd w (.slice a l.length c) 1 (l.map (ic .u8))):Calls prog 87 #[.slice a l.length c] w (fun e w'=>∃ x:Vec × Nat,e = .returned (.tuple #[.agg (vc x.1).toArray,.int .i64 ((x.2:Nat):Int)])/\Own w no w' []/\QcA l x.1 x.2):=by
 refine Qal (n:=54) func87 rfl ntmps87 rfl ?_
 have Y:=Own.start w
 have hn:=hr.sml
 obtain ⟨x0,hx0⟩:∃ x:Rdv,x=⟨a,c,0,l⟩:=⟨_,rfl⟩
 have h0x:x0.ok w:=by rw [hx0];exact ⟨hr,hby,by show (0:Int)<=0;omega⟩
 have h0r:x0.r=⟨0,l⟩:=by rw [hx0];rfl
 have h0l:x0.l.length=l.length:=by rw [hx0]
 have hrl:(Qaj ⟨0,l⟩).2.2.l.length<=l.length:=QeR (r:=⟨0,l⟩)
 refine Qae (Qab (Qaa (QaX (cs:=vc vzero) Ql5 rfl Y fun b1 w2 Y=>(Qaa (Qak (I6 0) (Qad (Qae (Qab (Qaa (QaX (cs:=vc vzero) Ql5 rfl Y fun b3 w4 Y=>(Qad (Qae (Qab (Qaa (Qag (.slice a l.length c) (Qaa (Qas (V:=.agg (rve (⟨a,c,0,l⟩:Rdv)).toArray) (V':=.agg (rve x0).toArray) (Qbz (vs:=[(0,.slice a l.length c)]) (cs:=rve (⟨a,c,0,l⟩:Rdv)) QnG (rfl) rfl ⟨rfl,rfl⟩) (by rw [hx0]<;>rfl) (Qaa (QaH (vs:=[.agg (rve x0).toArray]) (V:=.tuple #[.agg (rve x0.num).toArray,.int .u64 (((Qaj x0.r).1:Nat):Int),I6 (((Qaj x0.r).2.1:Nat):Int)]) QhR rfl rfl ?hc Y fun w5 Y=>?_)))))))))))))))))))
 case hc=>exact (Qhd _ x0 (Rdv.own h0x Y) (by omega))
 refine Qaa (Qas (V:=.tuple #[.agg (rve x0.num).toArray,.int .u64 (((Qaj x0.r).1:Nat):Int),I6 (((Qaj x0.r).2.1:Nat):Int)]) (V':=.tuple #[.agg (rve x0.num).toArray,.int .u64 (((Qaj ⟨0,l⟩).1:Nat):Int),I6 (((Qaj ⟨0,l⟩).2.1:Nat):Int)]) (Qag (.tuple #[.agg (rve x0.num).toArray,.int .u64 (((Qaj x0.r).1:Nat):Int),I6 (((Qaj x0.r).2.1:Nat):Int)]) ⟨rfl,rfl⟩) (by rw [h0r]<;>rfl) (Qaa (Qaf (V:=.agg (rve x0.num).toArray) rfl rfl (Qaa (Qaf (V:=.int .u64 (((Qaj ⟨0,l⟩).1:Nat):Int)) rfl rfl (Qaa (Qaf (V:=I6 (((Qaj ⟨0,l⟩).2.1:Nat):Int)) rfl rfl (Qaa (QaX (cs:=rve (⟨none,0,0,[]⟩:Rdv)) Qda rfl Y fun b6 w7 Y=>(Qaa (QbN (V:=.agg (rve x0.num).toArray) (vs:=rve x0.num) (cs':=rve x0.num) QaW.1 Y 2 rfl rfl rfl rfl rfl (QQ8 rfl) (Qbn _) (Qao rfl) fun w8 Y=>(Qaa (Qak (.int .u64 (((Qaj ⟨0,l⟩).1:Nat):Int)) (Qaa (Qak (I6 (((Qaj ⟨0,l⟩).2.1:Nat):Int)) (Qad (Qae (Qae (Qa2 (so 19 6) [] [0,1,3,7,15,31] [pv (I6 (((Qaj ⟨0,l⟩).2.1:Nat):Int)),pv (.bool (!decide ((((Qaj ⟨0,l⟩).2.1:Nat):Int)=0))),pv (.bool (!decide ((((Qaj ⟨0,l⟩).2.1:Nat):Int)=0))),pg ((!decide ((((Qaj ⟨0,l⟩).2.1:Nat):Int)=0)) == false) (.int .u64 (((Qaj ⟨0,l⟩).1:Nat):Int)),pg ((!decide ((((Qaj ⟨0,l⟩).2.1:Nat):Int)=0)) == false) (.bool (decide (16<(((Qaj ⟨0,l⟩).1:Nat):Int)))),pv (.bool ((!decide ((((Qaj ⟨0,l⟩).2.1:Nat):Int)=0))||(decide (16<(((Qaj ⟨0,l⟩).1:Nat):Int)))))] (fun _ _=>_) [5] (by kernel_rfl) Y ⟨?_,?_,?_,?_,?_,?_,trivial⟩ ?_)))))))))))))))))))
 ·exact oi [] fun Y=>Qag (.int .i64 (((Qaj ⟨0,l⟩).2.1:Nat):Int)) (Zz Y)
 ·exact oi [0] fun Y=>QbM rfl rfl (Zz Y)
 ·exact oi [1] fun Y=>Qag (.bool (!decide ((((Qaj ⟨0,l⟩).2.1:Nat):Int)=0))) (Zz Y)
 ·exact ogi [2] fun hG Y=>Qag (.int .u64 (((Qaj ⟨0,l⟩).1:Nat):Int)) (Zz Y)
 ·exact oyi [2,3] [3] fun hG Y=>Qck rfl rfl (Zz Y)
 ·exact oi [2,4] fun Y=>QbL (h':=decide (16<(((Qaj ⟨0,l⟩).1:Nat):Int))) rfl rfl rfl (Zz Y)
 rintro J1 w9 J2 hJ Y
 replace hJ:J2=upd (mix (sq 19 6) J1 _) 24 (.bool ((!decide ((((Qaj ⟨0,l⟩).2.1:Nat):Int)=0))||(decide (16<(((Qaj ⟨0,l⟩).1:Nat):Int))))):=hJ
 subst hJ
 refine Qaq (t:=(!decide ((((Qaj ⟨0,l⟩).2.1:Nat):Int)=0))||(decide (16<(((Qaj ⟨0,l⟩).1:Nat):Int)))) rfl (fun c10=>?_) (fun c10=>?_)
 ·
  refine Qae ?_
  have hno:QcA l vzero 5:=QiH (by
   have h9:=c10
   simp only [Bool.or_eq_true,Bool.not_eq_true',decide_eq_true_eq,decide_eq_false_iff_not] at h9
   omega)
  refine Qab (Qaa (Qbz (vs:=[]) (cs:=vc vzero) Qjw (rfl) rfl (Qaa (QbN (V:=.agg (vc vzero).toArray) (vs:=vc vzero) (cs':=vc vzero) QbC.1 Y 0 rfl rfl rfl rfl rfl (QQ8 rfl) (QdC _) (Qao rfl) fun w11 Y=>(Qaa (Qak (I6 5) (Qad (Qat ?_))))))))
  refine ⟨_,QaD (cs:=vc vzero) (V:=I6 5) results87 QbC Y 0 rfl rfl rfl rfl,?_⟩
  exact ⟨(vzero,5),rfl,Y.take 0,hno⟩
 have c10r:=QdH c10
 replace c10:=QdJ c10
 replace c10:=Qa3 c10
 replace c10:=QQ1 c10
 replace c10r:=QQ2 c10r
 refine Qar (Qae (Qae ?_))
 have he9:(Qaj ⟨0,l⟩).2.1=0:=by omega
 have h16:(Qaj ⟨0,l⟩).1<=16:=by omega
 refine Qab (Qaa (Qak (I6 0) (Qad (Qay (Qbb (fun J μ J' w'=>∃ (Jo:Env) (k:Nat) (y:Rdv) (u:Vec),J'=upd (mix ([3,8,9,10,11]++sq 26 20) Jo J) 8 (I6 (k:Int))/\(k<=(Qaj ⟨0,l⟩).1)/\(y.ok w)/\(y.r=(QaL k (Qaj ⟨0,l⟩).2.2).2)/\(u=QgO ((QaL k (Qaj ⟨0,l⟩).2.2).1.map (·%4294967296)))/\μ=(Qaj ⟨0,l⟩).1-k/\Own w no w' [blk b1 (vc vzero) 36,blk b3 (vc u) 36,blk b6 (rve y) 174]) ?_ ?_)))))
 ·exact ⟨_,_,0,x0.num,vzero,Qaw (QaN (ds:=([3,8,9,10,11]++sq 26 20)) (Agr.refl _ _)) rfl,(Nat.zero_le _),(Rdv.num_ok h0x),(by rw [Rdv.num_r h0x,h0r]<;>rfl),QkU.symm,rfl,Y⟩
 rintro μ J' w12 ⟨Jo,k,y,u,rfl,hk,hy,hyr,hu,rfl,Y⟩
 have hkl:=Qfw (r:=(Qaj ⟨0,l⟩).2.2) k
 rw [← hyr] at hkl
 change y.l.length<=_ at hkl
 refine Qae (Qae (Qab (Qaa (Qag (I6 (k:Int)) (Qaa (Qag (.int .u64 (((Qaj ⟨0,l⟩).1:Nat):Int)) (Qaa (QaB Qa6 QfT rfl (Qc1 (by omega) (by omega)) (Qaa (QbQ rfl rfl (Qad (Qaq (t:=decide ((k:Int)<(((Qaj ⟨0,l⟩).1:Nat):Int))) rfl (fun c13=>?_) (fun c13=>?_)))))))))))))
 ·
  replace c13:=QQ1 c13
  refine Qar (Qae (Qay (Qae (Qab (Qaa (Qa1 (cs:=rve y) QaW Y 2 rfl rfl rfl (Qaa (QaH (vs:=[.agg (rve y).toArray]) (V:=.tuple #[.agg (rve y.num).toArray,.int .u64 (((Qaj y.r).1:Nat):Int),I6 (((Qaj y.r).2.1:Nat):Int)]) QhR rfl rfl ?hc Y fun w14 Y=>?_))))))))
  case hc=>exact (Qhd _ y (Rdv.own hy Y) (by omega))
  refine Qaa (Qag (.tuple #[.agg (rve y.num).toArray,.int .u64 (((Qaj y.r).1:Nat):Int),I6 (((Qaj y.r).2.1:Nat):Int)]) (Qaa (Qaf (V:=.agg (rve y.num).toArray) rfl rfl (Qaa (Qaf (V:=.int .u64 (((Qaj y.r).1:Nat):Int)) rfl rfl (Qaa (Qaf (V:=I6 (((Qaj y.r).2.1:Nat):Int)) rfl rfl (Qaa (QaX (cs:=rve (⟨none,0,0,[]⟩:Rdv)) Qda rfl Y fun b15 w16 Y=>(Qaa (QbN (V:=.agg (rve y.num).toArray) (vs:=rve y.num) (cs':=rve y.num) QaW.1 Y 3 rfl rfl rfl rfl rfl (QQ8 rfl) (Qbn _) (Qao rfl) fun w17 Y=>(Qaa (Qak (.int .u64 (((Qaj y.r).1:Nat):Int)) (Qaa (Qak (I6 (((Qaj y.r).2.1:Nat):Int)) (Qad (Qae (Qae (Qab (Qaa (Qag (I6 (((Qaj y.r).2.1:Nat):Int)) (Qaa (QbM rfl rfl (Qad (Qaq (t:=!decide ((((Qaj y.r).2.1:Nat):Int)=0)) rfl (fun c18=>?_) (fun c18=>?_))))))))))))))))))))))))))
  ·
   replace c18:=Qcb c18
   replace c18:=QQ2 c18
   refine Qae (Qab (Qaa (Qbz (vs:=[]) (cs:=vc vzero) Qjw (rfl) rfl (Qaa (QbN (V:=.agg (vc vzero).toArray) (vs:=vc vzero) (cs':=vc vzero) QbC.1 Y 0 rfl rfl rfl rfl rfl (QQ8 rfl) (QdC _) (Qao rfl) fun w19 Y=>(Qaa (Qak (I6 5) (Qad (Qat ?_)))))))))
   refine ⟨_,QaD (cs:=vc vzero) (V:=I6 5) results87 QbC Y 0 rfl rfl rfl rfl,?_⟩
   exact ⟨(vzero,5),rfl,Y.take 0,Qp9 (k:=k) (by omega) (by omega) (by rw [← hyr];omega)⟩
  replace c18:=Qa3 c18
  replace c18:=QQ1 c18
  refine Qar (Qae (Qab (Qaa (Qa1 (cs:=rve y.num) QaW Y 3 rfl rfl rfl (Qaa (QbN (V:=.agg (rve y.num).toArray) (vs:=rve y.num) (cs':=rve y.num) QaW.1 Y 2 rfl rfl rfl rfl rfl (QQ8 rfl) (Qbn _) (Qao rfl) fun w20 Y=>(Qad (Qab (Qaa (Qag (I6 (k:Int)) (Qaa (Qag (.int .u64 (((Qaj y.r).1:Nat):Int)) (Qaa (QaB Qa6 Qdx rfl (QiM _) (Qaa (Qb2 Qgx Qbv.1 rfl rfl (by omega) (by omega) (Qaa (Qcl (V:=.int .u32 ((((Qaj y.r).1:Nat):Int)%4294967296)) (cs':=vc (vset u k ((((Qaj y.r).1:Nat):Int)%4294967296))) Qbv Y 1 rfl rfl rfl rfl (QtE (by omega)) (QnY (by omega) (by omega)) fun w21 Y=>(Qad (Qab (Qaa (Qag (I6 (k:Int)) (Qaa (Qbx (a:=(k:Int)) (b:=1) (c:=((k+1:Nat):Int)) rfl rfl (QaS (by omega) (by omega)) (Qaa (Qak (I6 ((k+1:Nat):Int)) (Qad ?_)))))))))))))))))))))))))))
  refine ⟨_,?_,_,k+1,y.num,vset u k ((((Qaj y.r).1:Nat):Int)%4294967296),Qaw (QaN (ds:=([3,8,9,10,11]++sq 26 20)) (by repeat (first|exact Agr.refl _ _|refine Agr.upd ?_ rfl|refine Agr.mix ?_ rfl))) rfl,(by omega),(Rdv.num_ok hy),(by rw [Rdv.num_r hy,hyr]<;>rfl),(by rw [hu,hyr];exact (Qo7 (QeU _ _))),rfl,Y.take 3⟩
  omega
 replace c13:=QQ2 c13
 refine Qbs (Qae (Qae ?_))
 have hkk:k=(Qaj ⟨0,l⟩).1:=by omega
 have huk:Qbw u:=by rw [hu];exact Qsr _
 have hde:=QpK (u:=u) he9 h16 (by rw [← hkk];exact hu)
 replace Y:=Y.more emp trivial
 refine Qcm HM (so 46 6) [[],[47]] [0,1,3,0,8,31] [pv (.agg (vc u).toArray),(true,fun J=>.slice (aOf (J 47)) ((QaF u).length) (cOf (J 47))),pv (sv (sOf (QaF u))),pv (.slice a l.length c),pv (sv (sOf l)),pv (.bool (!decide (QaF u=l)))] (fun D J=>[blk b1 (vc vzero) 36,blk b3 (vc u) 36,blk b6 (rve y) 174,cond (D 1) (row (.slice (aOf (J 47)) ((QaF u).length) (cOf (J 47))) ((QaF u).map (ic .u8)) 5 1) (emp)]) [5] (by kernel_rfl) Y ⟨?_,?_,?_,?_,?_,?_,trivial⟩ ?_
 ·exact oi [] fun Y=>Qa1 (cs:=vc u) QbC Y 1 rfl rfl rfl (Zz Y)
 ·exact oi [0] fun Y=>Qax (vs:=[.agg (vc u).toArray]) (V:=fun x:Option Addr × Nat=>.slice x.1 (QaF u).length x.2) Qm1 rfl rfl (Qis _ u huk) Y fun _ _ Y _=>⟨rfl,Y.put 3 (QQ8 rfl)⟩
 ·exact oi [1] fun Y=>QbS Qbh QdG QdF (Y.rd 3 rfl) rfl (Zz Y)
 ·exact oi [] fun Y=>Qag (.slice a l.length c) (Zz Y)
 ·exact oi [3] fun Y=>QbS Qbh QdG QdF (Rd.own' hr Y) rfl (Zz Y)
 ·exact oi [2,4] fun Y=>Qas (V:=.bool (!decide (sOf (QaF u)=sOf l))) (V':=.bool (!decide (QaF u=l))) (QiP rfl rfl ⟨rfl,rfl⟩) (congrArg (fun b:Bool=>Value.bool (!b)) (QfF (Qkl _) hby)) (Zz Y)
 rintro J1 w23 J2 hJ Y
 replace hJ:J2=upd (mix (sq 46 6) J1 _) 51 (.bool (!decide (QaF u=l))):=hJ
 replace Y:Own w no w23 [blk b1 (vc vzero) 36,blk b3 (vc u) 36,blk b6 (rve y) 174,row (.slice (aOf (J1 47)) ((QaF u).length) (cOf (J1 47))) ((QaF u).map (ic .u8)) 5 1]:=Y
 generalize (aOf (J1 47))=a24 at Y
 generalize (cOf (J1 47))=c25 at Y
 subst hJ
 refine Qaq (t:=!decide (QaF u=l)) rfl (fun c26=>?_) (fun c26=>?_)
 ·
  replace c26:=Qcb c26
  replace c26:=QQ2 c26
  refine Qae (Qab (Qaa (Qbz (vs:=[]) (cs:=vc vzero) Qjw (rfl) rfl (Qaa (QbN (V:=.agg (vc vzero).toArray) (vs:=vc vzero) (cs':=vc vzero) QbC.1 Y 0 rfl rfl rfl rfl rfl (QQ8 rfl) (QdC _) (Qao rfl) fun w27 Y=>(Qaa (Qak (I6 5) (Qad (Qat ?_)))))))))
  refine ⟨_,QaD (cs:=vc vzero) (V:=I6 5) results87 QbC Y 0 rfl rfl rfl rfl,?_⟩
  exact ⟨(vzero,5),rfl,Y.take 0,hde.2 c26⟩
 replace c26:=Qa3 c26
 replace c26:=QQ1 c26
 refine Qar (Qae (Qab (Qaa (Qa1 (cs:=vc u) QbC Y 1 rfl rfl rfl (Qaa (QbN (V:=.agg (vc u).toArray) (vs:=vc u) (cs':=vc u) QbC.1 Y 0 rfl rfl rfl rfl rfl (QQ8 rfl) (QdC _) (Qao rfl) fun w28 Y=>(Qaa (Qak (I6 0) (Qad (Qat ?_))))))))))
 refine ⟨_,QaD (cs:=vc u) (V:=I6 0) results87 QbC Y 0 rfl rfl rfl rfl,?_⟩
 exact ⟨(u,0),rfl,Y.take 0,hde.1 c26⟩
end Tt
end Go.Proofs
namespace Go.Proofs
open Go Go.Vx Go.RowKit
open Tryz
namespace Tt
theorem QoW (w:World) (S:Nat->Prop) (q p:Nat) (B:Bool) (r:Rdr) (bits:Nat) (hbits:bits<=64) (hby:QaZ r.l) (hl:r.l.length<=1000000) (hR:(star [blk q [.pointer (some ⟨p,0,none⟩),.bool B] 287,rR 281 p r]).holds w S) (hlt:∀ x,S x->x<w.heap.size):Calls prog 167 #[.pointer (some ⟨q,0,none⟩),.int .i64 (bits:Int)] w (fun z w'=>∃ B':Bool,z = .returned (.int .u64 (((Qaj r).1:Nat):Int))/\Own w S w' [blk q [.pointer (some ⟨p,0,none⟩),.bool B'] 287,rR 281 p ((Qaj r).2.2)]/\(B'=false↔B=false/\(Qaj r).2.1=0/\(Qaj r).1<2 ^ bits)):=by
 refine Qal (n:=27) func167 rfl ntmps167 rfl ?_
 have Y:Own w S w [blk q [.pointer (some ⟨p,0,none⟩),.bool B] 287,rR 281 p r]:=Own.open hR hlt
 refine Qae (Qab (Qaa (Qak (.int .u64 0) (Qad (Qae (Qab (Qaa (Qag (Pq q 0) (Qaa (QaA rfl (Qaa (Qac Qim rfl (Qaa (QaY (Pq p 0) QoG Y 0 (Qaa (Qa7 (α:=Unit) (vs:=[Pq p 0]) (V:=fun _=>.tuple #[.int .u64 (((Qaj r).1:Nat):Int),I6 (((Qaj r).2.1:Nat):Int)]) (R:=rR 281 p r) (R':=fun _=>rR 281 p ((Qaj r).2.2)) (Lo:=fun _=>[]) (F:=fun _ _=>True) Qjy rfl rfl Y 1 rfl (fun S0 hS0 hl0=>Qgt _ S0 p r hby (by omega) hS0 hl0) fun _ w1 Y _=>(Qaa (Qag (.tuple #[.int .u64 (((Qaj r).1:Nat):Int),I6 (((Qaj r).2.1:Nat):Int)]) (Qaa (Qaf (V:=.int .u64 (((Qaj r).1:Nat):Int)) rfl rfl (Qaa (Qaf (V:=I6 (((Qaj r).2.1:Nat):Int)) rfl rfl (Qaa (Qak (.int .u64 (((Qaj r).1:Nat):Int)) (Qaa (Qak (I6 (((Qaj r).2.1:Nat):Int)) (Qad (Qae (Qae (Qa2 (so 15 8) [] [0,1,3,7,7,31,63,127] [pv (I6 (((Qaj r).2.1:Nat):Int)),pv (.bool (!decide ((((Qaj r).2.1:Nat):Int)=0))),pv (.bool (!decide ((((Qaj r).2.1:Nat):Int)=0))),pg ((!decide ((((Qaj r).2.1:Nat):Int)=0)) == false) (.int .u64 (((Qaj r).1:Nat):Int)),pg ((!decide ((((Qaj r).2.1:Nat):Int)=0)) == false) (I6 (bits:Int)),pg ((!decide ((((Qaj r).2.1:Nat):Int)=0)) == false) (.int .u64 (((Qaj r).1/2 ^ bits:Nat):Int)),pg ((!decide ((((Qaj r).2.1:Nat):Int)=0)) == false) (.bool (!decide ((((Qaj r).1/2 ^ bits:Nat):Int)=0))),pv (.bool ((!decide ((((Qaj r).2.1:Nat):Int)=0))||(!decide ((((Qaj r).1/2 ^ bits:Nat):Int)=0))))] (fun _ _=>_) [7] (by kernel_rfl) Y ⟨?_,?_,?_,?_,?_,?_,?_,?_,trivial⟩ ?_))))))))))))))))))))))))))))))
 ·exact oi [] fun Y=>Qag (.int .i64 (((Qaj r).2.1:Nat):Int)) (Zz Y)
 ·exact oi [0] fun Y=>QbM rfl rfl (Zz Y)
 ·exact oi [1] fun Y=>Qag (.bool (!decide ((((Qaj r).2.1:Nat):Int)=0))) (Zz Y)
 ·exact ogi [2] fun hG Y=>Qag (.int .u64 (((Qaj r).1:Nat):Int)) (Zz Y)
 ·exact ogi [2] fun hG Y=>Qag (.int .i64 (bits:Int)) (Zz Y)
 ·exact oyi [2,3,4] [3,4] fun hG Y=>Qas (V:=.int .u64 ((((Qaj r).1:Nat):Int)/2 ^ ((bits:Int)).toNat)) (V':=.int .u64 (((Qaj r).1/2 ^ bits:Nat):Int)) (Qku rfl rfl (by omega) (by show _<=((IntKind.u64).bits:Int);simp only [IntKind.bits];omega) ⟨rfl,rfl⟩) (congrArg (Value.int .u64) (by rw [Int.toNat_natCast];push_cast;rfl)) (Zz Y)
 ·exact oyi [2,5] [5] fun hG Y=>QbM rfl rfl (Zz Y)
 ·exact oi [2,6] fun Y=>QbL (h':=!decide ((((Qaj r).1/2 ^ bits:Nat):Int)=0)) rfl rfl rfl (Zz Y)
 rintro J1 w2 J2 hJ Y
 replace hJ:J2=upd (mix (sq 15 8) J1 _) 22 (.bool ((!decide ((((Qaj r).2.1:Nat):Int)=0))||(!decide ((((Qaj r).1/2 ^ bits:Nat):Int)=0)))):=hJ
 subst hJ
 refine Qaq (t:=(!decide ((((Qaj r).2.1:Nat):Int)=0))||(!decide ((((Qaj r).1/2 ^ bits:Nat):Int)=0))) rfl (fun c3=>?_) (fun c3=>?_)
 ·
  refine Qab (Qaa (Qag (Pq q 0) (Qaa (QaA rfl (Qaa (Qac QkI rfl (Qaa (Qcl (V:=.bool true) (cs':=[Pq p 0,.bool true]) Qtc Y 0 rfl rfl rfl rfl (QQ8 rfl) rfl fun w4 Y=>(Qad (Qae (Qab (Qaa (Qag (.int .u64 (((Qaj r).1:Nat):Int)) (Qaa (Qak (.int .u64 (((Qaj r).1:Nat):Int)) (Qad (Qat ?_)))))))))))))))))
  refine ⟨_,Qau (V:=.int .u64 (((Qaj r).1:Nat):Int)) results167 rfl,?_⟩
  exact ⟨true,rfl,Y.take 2,by
   have h9:=c3
   simp only [Bool.or_eq_true,Bool.not_eq_true',decide_eq_true_eq,decide_eq_false_iff_not] at h9
   constructor
   ·intro h;cases h
   ·rintro ⟨_,h1,h2⟩;rw [← QnE] at h2;omega⟩
 have c3r:=QdH c3
 replace c3:=QdJ c3
 replace c3:=Qa3 c3
 replace c3:=QQ1 c3
 replace c3r:=Qa3 c3r
 replace c3r:=QQ1 c3r
 refine Qar (Qae (Qab (Qaa (Qag (.int .u64 (((Qaj r).1:Nat):Int)) (Qaa (Qak (.int .u64 (((Qaj r).1:Nat):Int)) (Qad (Qat ?_))))))))
 refine ⟨_,Qau (V:=.int .u64 (((Qaj r).1:Nat):Int)) results167 rfl,?_⟩
 exact ⟨B,rfl,Y.take 2,by
   have h9:(Qaj r).2.1=0:=by omega
   have h8:(Qaj r).1<2 ^ bits:=QnE.1 (by omega)
   exact ⟨fun h=>⟨h,h9,h8⟩,fun h=>h.1⟩⟩
theorem Qr4 (w:World) (o:Opn) (hO:QbK o):Calls prog 50 #[.agg (oc o).toArray] w (fun e w'=>∃ x:Option Addr × Nat,e = .returned (.tuple #[.slice x.1 (if QaI o=true then Qbr o else []).length x.2,.int .i64 (if QaI o=true then 0 else 2)])/\Own w no w' [row (.slice x.1 (if QaI o=true then Qbr o else []).length x.2) ((if QaI o=true then Qbr o else []).map (ic .u8)) 5 1]/\True):=by
 refine Qal (n:=51) func50 rfl ntmps50 rfl ?_
 have Y:=Own.start w
 have ⟨⟨⟨hr1,hr2⟩,hr3,hr4⟩,⟨hk1,hk2⟩,⟨hc1,hc2⟩,⟨hi1,hi2⟩,⟨hq1,hq2⟩,⟨ht1,ht2⟩,hctx⟩:=hO
 have hvl:=Qct hctx
 have hfl:=QbV (l:=QaF o.ctx) (by omega)
 refine Qae (Qab (Qaa (Qb4 (V:=.agg (oc o).toArray) (cs:=oc o) rfl rfl Y fun b1 w2 Y=>(Qaa (Qak (.slice none 0 0) (Qaa (Qak (I6 0) (Qad (Qae (Qae (Qab (Qaa (Qa1 (cs:=oc o) Qbp Y 0 rfl rfl rfl (Qaa (QaH (vs:=[.agg (oc o).toArray,I6 16]) (V:=.bool (QaC o 16)) QsF rfl rfl ?hc Y fun w3 Y=>?_)))))))))))))))
 case hc=>exact (Qgy _ o 16 hO)
 refine Qaa (Qb6 rfl (Qad (Qaq (t:=!(QaC o 16)) rfl (fun c4=>?_) (fun c4=>?_))))
 ·
  replace c4:=Qcb c4
  refine Qae (Qab (Qaa (Qak (.slice none 0 0) (Qaa (Qak (I6 2) (Qad (Qat ?_)))))))
  refine ⟨_,Qbq (U:=.slice none 0 0) (V:=I6 2) results50 rfl rfl,?_⟩
  have hr9:QaI o=false:=c4
  exact ⟨(none,0),by rw [if_neg (by rw [hr9];decide),if_neg (by rw [hr9];decide)]<;>rfl,(by rw [if_neg (by rw [hr9];decide)];exact (Y.take 0).more _ (QaK _ _ _ _)),trivial⟩
 replace c4:=Qa3 c4
 refine Qar (Qae (Qab (Qaa (Qax (vs:=[]) (V:=fun x:Nat=>Pq x 0) QsS rfl rfl (Qkj _) Y fun p5 w6 Y _=>(Qaa (Qak (Pq p5 0) (Qad (Qae (Qae (Qab (Qaa (Qac Qcq rfl (Qaa (Qac QdO rfl (Qaa (QaY (.int .u8 o.dot.rep) QcG Y 0 (Qaa (QaB Qfe Qa6 rfl (Qbe (by omega) (by omega)) (Qaa (Qac Qcq rfl (Qaa (Qac Qds rfl (Qaa (QaY (.int .u32 o.dot.seq) Qbv Y 0 (Qaa (QaB Qdx Qa6 rfl (Qbe (by omega) (by omega)) (Qaa (Qac Qhc rfl (Qaa (QaY (.int .u8 o.kind) QcG Y 0 (Qaa (QaB Qfe Qa6 rfl (Qbe (by omega) (by omega)) (Qaa (Qac Qkr rfl (Qaa (QaY (I7 o.cart) Qc7 Y 0 (Qaa (QaB QfP Qa6 rfl (Qbe (by omega) (by omega)) (Qaa (Qac Qes rfl (Qaa (QaY (I7 o.item) Qc7 Y 0 (Qaa (QaB QfP Qa6 rfl (Qbe (by omega) (by omega)) (Qaa (Qac QcO rfl (Qaa (QaY (I7 o.qty) Qc7 Y 0 (Qaa (QaB QfP Qa6 rfl (Qbe (by omega) (by omega)) (Qaa (Qac QgF rfl (Qaa (QaY (.int .u32 o.tick) Qbv Y 0 (Qaa (QaB Qdx Qa6 rfl (Qbe (by omega) (by omega)) (Qaa (Qbz (vs:=[(0,.int .u64 o.dot.rep),(1,.int .u64 o.dot.seq),(2,.int .u64 o.kind),(3,.int .u64 o.cart),(4,.int .u64 o.item),(5,.int .u64 o.qty),(6,.int .u64 o.tick)]) (cs:=q7 [o.dot.rep,o.dot.seq,o.kind,o.cart,o.item,o.qty,o.tick]) Qt0 (rfl) rfl (Qaa (Qag (I6 0) (Qad (Qay (Qbb (fun J μ J' w'=>∃ (Jo:Env) (k:Nat) (L:Bs),J'=upd (mix ([6]++sq 35 7) Jo J) 35 (I6 (k:Int))/\(k<=7)/\(L=QbA ((Qb5 o).take k))/\(L.length<=10*k)/\μ=7-k/\Own w no w' [blk b1 (oc o) 54,wR 212 5 p5 0 L]) ?_ ?_)))))))))))))))))))))))))))))))))))))))))))))))))))))))))))))))
 ·exact ⟨_,_,0,[],Qaw (QaN (ds:=([6]++sq 35 7)) (Agr.refl _ _)) rfl,(by omega),rfl,(by simp),rfl,Y⟩
 rintro μ J' w7 ⟨Jo,k,L,rfl,hk,hL,hLl,rfl,Y⟩
 refine Qae (Qab (Qaa (QbQ rfl rfl (Qad (Qae (Qaq (t:=decide ((k:Int)<7)) rfl (fun c8=>?_) (fun c8=>?_)))))))
 ·
  replace c8:=QQ1 c8
  refine Qar (Qae (Qay (Qae ?_)))
  have hk7:k<7:=by omega
  have hlt7:=QiE hO hk7
  refine Qab (Qaa (Qas (V:=.int .u64 (gd [o.dot.rep,o.dot.seq,o.kind,o.cart,o.item,o.qty,o.tick] k)) (V':=.int .u64 (((Qb5 o).getD k 0:Nat):Int)) (Qm0 (V:=.int .u64 (gd [o.dot.rep,o.dot.seq,o.kind,o.cart,o.item,o.qty,o.tick] k)) Qug QdR rfl rfl (by omega) (by omega) (by rw [List.getElem?_toArray];exact QvL (by simp only [List.length_cons,List.length_nil];omega)) ⟨rfl,rfl⟩) (congrArg (Value.int .u64) (QlM hO hk7)) ?_))
  refine Qaa (Qak (.int .u64 (((Qb5 o).getD k 0:Nat):Int)) (Qad (Qab (Qaa (Qag (Pq p5 0) (Qaa (Qag (.int .u64 (((Qb5 o).getD k 0:Nat):Int)) (Qaa (Qa7 (α:=Unit) (vs:=[Pq p5 0,.int .u64 (((Qb5 o).getD k 0:Nat):Int)]) (V:=fun _=>I6 0) (R:=wR 212 5 p5 0 L) (R':=fun _=>wR 212 5 p5 0 (L++Qan ((Qb5 o).getD k 0))) (Lo:=fun _=>[]) (F:=fun _ _=>True) Qjq rfl rfl Y 1 rfl (fun S0 hS0 hl0=>Qjp _ S0 p5 L ((Qb5 o).getD k 0) (by omega) (by first|omega|(simp only [QQ7,List.length_nil];omega)) hS0 hl0) fun _ w9 Y _=>(Qad (Qab (Qaa (Qbx (a:=(k:Int)) (b:=1) (c:=((k+1:Nat):Int)) rfl rfl (QaS (by omega) (by omega)) (Qaa (Qag (I6 ((k+1:Nat):Int)) (Qad ?_))))))))))))))))
  refine ⟨_,?_,_,k+1,L++Qan ((Qb5 o).getD k 0),Qaw (QaN (ds:=([6]++sq 35 7)) (by repeat (first|exact Agr.refl _ _|refine Agr.upd ?_ rfl|refine Agr.mix ?_ rfl))) rfl,(by omega),(by rw [hL,QhH (by exact hk7)]),(by rw [QQ7];have:=Qbl (QiE hO hk7);omega),rfl,Y.take 2⟩
  omega
 replace c8:=QQ2 c8
 refine Qbs (Qae (Qab (Qaa (Qag (Pq p5 0) (Qaa (Qac Qeo rfl (Qaa (Qez (vs:=vc o.ctx) QbC Y 0 rfl rfl rfl rfl (Qaa (Qax (vs:=[.agg (vc o.ctx).toArray]) (V:=fun x:Option Addr × Nat=>.slice x.1 (QaF o.ctx).length x.2) Qtr rfl rfl (Qov _ o.ctx hctx) Y fun x10 w11 Y _=>(Qaa (Qfr (α:=Unit) (vs:=[Pq p5 0,.slice x10.1 ((QaF o.ctx).length) x10.2]) (V:=fun _=>I6 0) (R:=wR 212 5 p5 0 L) (R':=fun _=>wR 212 5 p5 0 (L++QaM (QaF o.ctx))) (Lo:=fun _=>[]) (F:=fun _ _=>True) Qqi rfl rfl Y 1 rfl (fun S9 hS9 hl9 hM9 hK9=>Qit _ S9 p5 L x10.1 x10.2 (QaF o.ctx) (hK9 2 (by decide) _ rfl).rdB (by first|omega|(simp only [QQ7,List.length_nil];omega)) hS9 hl9) fun _ w12 Y _=>(Qad (Qae (Qab (Qaa (Qag (Pq p5 0) (Qaa (Qa7 (vs:=[Pq p5 0]) (V:=fun x:Option Addr × Nat=>.tuple #[.slice x.1 (L++QaM (QaF o.ctx)).length x.2,I6 0]) (R:=wR 212 5 p5 0 (L++QaM (QaF o.ctx))) (R':=fun _=>wR 212 5 p5 0 (L++QaM (QaF o.ctx))) (Lo:=fun x=>[row (.slice x.1 (L++QaM (QaF o.ctx)).length x.2) ((L++QaM (QaF o.ctx)).map (ic .u8)) 5 1]) (F:=fun _ _=>True) QoJ rfl rfl Y 1 rfl (fun S0 hS0 hl0=>QnS _ S0 p5 (L++QaM (QaF o.ctx)) (by first|omega|(simp only [QQ7,List.length_nil];omega)) hS0 hl0) fun x13 w14 Y _=>(Qaa (Qaf (V:=.slice x13.1 ((L++QaM (QaF o.ctx)).length) x13.2) rfl rfl (Qaa (Qaf (V:=I6 0) rfl rfl (Qaa (Qak (.slice x13.1 ((L++QaM (QaF o.ctx)).length) x13.2) (Qaa (Qak (I6 0) (Qad (Qat ?_)))))))))))))))))))))))))))))
 refine ⟨_,Qbq (U:=.slice x13.1 ((L++QaM (QaF o.ctx)).length) x13.2) (V:=I6 0) results50 rfl rfl,?_⟩
 have hr9:QaI o=true:=c4
 have hX:L++QaM (QaF o.ctx)=Qbr o:=by rw [hL,show k=7 by omega];rfl
 rw [hX] at Y
 exact ⟨(x13.1,x13.2),by rw [if_pos hr9,if_pos hr9,← hX]<;>rfl,(by rw [if_pos hr9];exact Y.only 3 rfl),trivial⟩
end Tt
end Go.Proofs
namespace Go.Proofs
open Go Go.Vx Go.RowKit
open Tryz
namespace Tt
theorem QhO (w:World) (o:Opn) (hO:QbK o):Calls prog 232 #[.agg (oc o).toArray] w (fun e w'=>∃ x:Option Addr × Nat,e = .returned (.slice x.1 (Qbr o).length x.2)/\Own w no w' [row (.slice x.1 (Qbr o).length x.2) ((Qbr o).map (ic .u8)) 5 1]/\True):=by
 refine Qal (n:=49) func232 rfl ntmps232 rfl ?_
 have Y:=Own.start w
 have ⟨⟨⟨hr1,hr2⟩,hr3,hr4⟩,⟨hk1,hk2⟩,⟨hc1,hc2⟩,⟨hi1,hi2⟩,⟨hq1,hq2⟩,⟨ht1,ht2⟩,hctx⟩:=hO
 have hvl:=Qct hctx
 have hfl:=QbV (l:=QaF o.ctx) (by omega)
 refine Qae (Qab (Qaa (Qb4 (V:=.agg (oc o).toArray) (cs:=oc o) rfl rfl Y fun b1 w2 Y=>(Qaa (Qak (.slice none 0 0) (Qad (Qae (Qab (Qaa (Qac Qcq rfl (Qaa (Qac QdO rfl (Qaa (QaY (.int .u8 o.dot.rep) QcG Y 0 (Qaa (QaB Qfe Qa6 rfl (Qbe (by omega) (by omega)) (Qaa (Qac Qcq rfl (Qaa (Qac Qds rfl (Qaa (QaY (.int .u32 o.dot.seq) Qbv Y 0 (Qaa (QaB Qdx Qa6 rfl (Qbe (by omega) (by omega)) (Qaa (Qac Qhc rfl (Qaa (QaY (.int .u8 o.kind) QcG Y 0 (Qaa (QaB Qfe Qa6 rfl (Qbe (by omega) (by omega)) (Qaa (Qac Qkr rfl (Qaa (QaY (I7 o.cart) Qc7 Y 0 (Qaa (QaB QfP Qa6 rfl (Qbe (by omega) (by omega)) (Qaa (Qac Qes rfl (Qaa (QaY (I7 o.item) Qc7 Y 0 (Qaa (QaB QfP Qa6 rfl (Qbe (by omega) (by omega)) (Qaa (Qac QcO rfl (Qaa (QaY (I7 o.qty) Qc7 Y 0 (Qaa (QaB QfP Qa6 rfl (Qbe (by omega) (by omega)) (Qaa (Qac QgF rfl (Qaa (QaY (.int .u32 o.tick) Qbv Y 0 (Qaa (QaB Qdx Qa6 rfl (Qbe (by omega) (by omega)) (Qaa (Ql2 (vals:=[.int .u64 o.dot.rep,.int .u64 o.dot.seq,.int .u64 o.kind,.int .u64 o.cart,.int .u64 o.item,.int .u64 o.qty,.int .u64 o.tick]) (ls:=List.map (ic .u64) ([o.dot.rep,o.dot.seq,o.kind,o.cart,o.item,o.qty,o.tick]:List Int)) Qnb rfl rfl rfl (Qb3 (enc:=(ic .u64)) (fun _=>rfl) _) (QaV (Qbj .u64) _) (QQ8 rfl) Y fun b3 w4 Y=>(Qaa (Qak (.slice (some ⟨b3,0,none⟩) 7 7) (Qad (Qae (Qab (Qaa (Qak (.slice none 0 0) (Qad (Qae (Qae (Qab (Qaa (Qak (I6 0) ?_)))))))))))))))))))))))))))))))))))))))))))))))))))))))))))))))))))))
 refine Qad (Qay ?_)
 replace Y:=Y.more (row (.slice none 0 0) (List.map (ic .u8) []) 5 1) (QaK _ _ _ _)
 refine Qbb (fun J μ J' w'=>∃ (Jo:Env) (k:Nat) (ab9:Option Addr) (cb9:Nat) (L:Bs),J'=upd (upd (mix ([4,5]++sq 30 13) Jo J) 5 (I6 (k:Int))) 4 (.slice ab9 L.length cb9)/\(k<=7)/\(L=QbA ((Qb5 o).take k))/\(L.length<=10*k)/\μ=7-k/\Own w no w' [blk b1 (oc o) 54,row (.slice (some ⟨b3,0,none⟩) 7 7) ([o.dot.rep,o.dot.seq,o.kind,o.cart,o.item,o.qty,o.tick].map (ic .u64)) 65 1,row (.slice ab9 L.length cb9) (L.map (ic .u8)) 5 1]) ?_ ?_
 ·exact ⟨_,_,0,none,0,[],Qaw (Qaw (QaN (ds:=([4,5]++sq 30 13)) (Agr.refl _ _)) rfl) rfl,(by omega),rfl,(by simp),rfl,Y⟩
 rintro μ J' w5 ⟨Jo,k,ab9,cb9,L,rfl,hk,hL,hLl,rfl,Y⟩
 refine Qae (Qae (Qab (Qaa (Qag (I6 (k:Int)) (Qaa (Qag (.slice (some ⟨b3,0,none⟩) 7 7) (Qaa (Qas (V:=I6 (7:Int)) (V':=I6 7) (QbG (n:=7) Qe5 (Y.rd 1 rfl) (by simp) rfl ⟨rfl,rfl⟩) rfl (Qaa (QbQ rfl rfl (Qad (Qaq (t:=decide ((k:Int)<7)) rfl (fun c6=>?_) (fun c6=>?_)))))))))))))
 ·
  replace c6:=QQ1 c6
  refine Qar (Qae (Qay ?_))
  have hk7:k<7:=by omega
  have hlt7:=QiE hO hk7
  have hp10:=Qbl hlt7
  refine Qab (Qaa (Qag (.slice ab9 L.length cb9) (Qaa (Qag (.slice (some ⟨b3,0,none⟩) 7 7) (Qaa (Qag (I6 (k:Int)) (Qaa (QcJ Qe5 QdR.1 (Y.rd 1 rfl) rfl rfl (by omega) (by simp only [QQ6,List.length_cons,List.length_nil];omega) (Qaa (Qas (V:=.int .u64 (gd [o.dot.rep,o.dot.seq,o.kind,o.cart,o.item,o.qty,o.tick] k)) (V':=.int .u64 (((Qb5 o).getD k 0:Nat):Int)) (QdX (j:=0) (V:=.int .u64 (gd [o.dot.rep,o.dot.seq,o.kind,o.cart,o.item,o.qty,o.tick] k)) k QdR (Y.rd 1 rfl) (QcN (by simp only [List.length_cons,List.length_nil];omega)) rfl rfl (by omega) ⟨rfl,rfl⟩) (congrArg (Value.int .u64) (QlM hO hk7)) (Qaa (Qax (vs:=[.int .u64 (((Qb5 o).getD k 0:Nat):Int)]) (V:=fun x:Option Addr × Nat=>.slice x.1 (Qan ((Qb5 o).getD k 0)).length x.2) Qel rfl rfl (Qc5 _ ((Qb5 o).getD k 0) (by omega)) Y fun x7 w8 Y _=>(Qaa (QbH (ls':=(L++(Qan ((Qb5 o).getD k 0))).map (ic .u8)) (n:=(L++(Qan ((Qb5 o).getD k 0))).length) Qca Y 2 rfl rfl rfl (Y.rd 3 rfl) (QaV (Qbj .u8) _) (by simp only [QQ6,QQ7,List.length_cons,List.length_nil];omega) (by simp) (by simp) fun a9 c9 w10 Y=>(Qaa (Qak (.slice a9 ((L++(Qan ((Qb5 o).getD k 0))).length) c9) (Qad (Qab (Qaa (Qag (I6 (k:Int)) (Qaa (Qbx (a:=(k:Int)) (b:=1) (c:=((k+1:Nat):Int)) rfl rfl (QaS (by omega) (by omega)) (Qaa (Qak (I6 ((k+1:Nat):Int)) (Qad ?_)))))))))))))))))))))))))
  refine ⟨_,?_,_,k+1,a9,c9,L++(Qan ((Qb5 o).getD k 0)),Qaw (Qaw (QaN (ds:=([4,5]++sq 30 13)) (by repeat (first|exact Agr.refl _ _|refine Agr.upd ?_ rfl|refine Agr.mix ?_ rfl))) rfl) rfl,(by omega),(by rw [hL,QhH (by exact hk7)]),(by rw [QQ7];have:=Qbl hlt7;omega),rfl,Y.take 3⟩
  omega
 replace c6:=QQ2 c6
 refine Qbs (Qae (Qab (Qaa (Qag (.slice ab9 L.length cb9) (Qaa (Qac Qeo rfl (Qaa (Qez (vs:=vc o.ctx) QbC Y 0 rfl rfl rfl rfl (Qaa (Qax (vs:=[.agg (vc o.ctx).toArray]) (V:=fun x:Option Addr × Nat=>.slice x.1 (QaF o.ctx).length x.2) Qm1 rfl rfl (Qis _ o.ctx hctx) Y fun x11 w12 Y _=>(Qaa (Qax (vs:=[.slice x11.1 ((QaF o.ctx).length) x11.2]) (V:=fun x:Option Addr × Nat=>.slice x.1 (QaM (QaF o.ctx)).length x.2) QjI rfl rfl (Qgq _ x11.1 x11.2 (QaF o.ctx) (by omega) (Y.rd 3 rfl)) Y fun x13 w14 Y _=>(Qaa (QbH (ls':=(L++(QaM (QaF o.ctx))).map (ic .u8)) (n:=(L++(QaM (QaF o.ctx))).length) Qca Y 2 rfl rfl rfl (Y.rd 4 rfl) (QaV (Qbj .u8) _) (by simp only [QQ6,QQ7,List.length_cons,List.length_nil];omega) (by simp) (by simp) fun a15 c15 w16 Y=>(Qaa (Qak (.slice a15 ((L++(QaM (QaF o.ctx))).length) c15) (Qad (Qat ?_))))))))))))))))))
 refine ⟨_,Qau (V:=.slice a15 ((L++(QaM (QaF o.ctx))).length) c15) results232 rfl,?_⟩
 have hX:L++QaM (QaF o.ctx)=Qbr o:=by rw [hL,show k=7 by omega];rfl
 rw [hX] at Y
 exact ⟨(a15,c15),by rw [← hX],Y.only 2 rfl,trivial⟩
theorem Qpc (w:World) (o:Opn) (hO:QbK o):Calls prog 162 #[.agg (oc o).toArray] w (fun e w'=>∃ x:Option Addr × Nat,e = .returned (.tuple #[.slice x.1 (if QaI o=true then Qbr o else []).length x.2,.int .i64 (if QaI o=true then 0 else 2)])/\Own w no w' [row (.slice x.1 (if QaI o=true then Qbr o else []).length x.2) ((if QaI o=true then Qbr o else []).map (ic .u8)) 5 1]/\True):=by
 refine Qal (n:=9) func162 rfl ntmps162 rfl ?_
 have Y:=Own.start w
 have ⟨⟨⟨hr1,hr2⟩,hr3,hr4⟩,⟨hk1,hk2⟩,⟨hc1,hc2⟩,⟨hi1,hi2⟩,⟨hq1,hq2⟩,⟨ht1,ht2⟩,hctx⟩:=hO
 have hvl:=Qct hctx
 have hfl:=QbV (l:=QaF o.ctx) (by omega)
 refine Qae (Qab (Qaa (Qb4 (V:=.agg (oc o).toArray) (cs:=oc o) rfl rfl Y fun b1 w2 Y=>(Qaa (Qak (.slice none 0 0) (Qaa (Qak (I6 0) (Qad (Qae (Qae (Qab (Qaa (Qa1 (cs:=oc o) Qbp Y 0 rfl rfl rfl (Qaa (QaH (vs:=[.agg (oc o).toArray,I6 16]) (V:=.bool (QaC o 16)) QnO rfl rfl ?hc Y fun w3 Y=>?_)))))))))))))))
 case hc=>exact (QfB _ o 16 hO)
 refine Qaa (Qb6 rfl (Qad (Qaq (t:=!(QaC o 16)) rfl (fun c4=>?_) (fun c4=>?_))))
 ·
  replace c4:=Qcb c4
  refine Qae (Qab (Qaa (Qak (.slice none 0 0) (Qaa (Qak (I6 2) (Qad (Qat ?_)))))))
  refine ⟨_,Qbq (U:=.slice none 0 0) (V:=I6 2) results162 rfl rfl,?_⟩
  have hr9:QaI o=false:=c4
  exact ⟨(none,0),by rw [if_neg (by rw [hr9];decide),if_neg (by rw [hr9];decide)]<;>rfl,(by rw [if_neg (by rw [hr9];decide)];exact (Y.take 0).more _ (QaK _ _ _ _)),trivial⟩
 replace c4:=Qa3 c4
 refine Qar (Qae (Qab (Qaa (Qa1 (cs:=oc o) Qbp Y 0 rfl rfl rfl (Qaa (Qax (vs:=[.agg (oc o).toArray]) (V:=fun x:Option Addr × Nat=>.slice x.1 (Qbr o).length x.2) QqJ rfl rfl (QhO _ o hO) Y fun x5 w6 Y _=>(Qaa (Qak (.slice x5.1 ((Qbr o).length) x5.2) (Qaa (Qak (I6 0) (Qad (Qat ?_))))))))))))
 refine ⟨_,Qbq (U:=.slice x5.1 ((Qbr o).length) x5.2) (V:=I6 0) results162 rfl rfl,?_⟩
 have hr9:QaI o=true:=c4
 exact ⟨(x5.1,x5.2),by rw [if_pos hr9,if_pos hr9]<;>rfl,(by rw [if_pos hr9];exact Y.only 1 rfl),trivial⟩
theorem QvB (w:World) (o:Opn) (hO:QbK o) (hr:QaI o=true):Calls prog 50 #[.agg (oc o).toArray] w (fun e w'=>∃ x:Option Addr × Nat,e = .returned (.tuple #[.slice x.1 (Qbr o).length x.2,.int .i64 0])/\Own w no w' [row (.slice x.1 (Qbr o).length x.2) ((Qbr o).map (ic .u8)) 5 1]/\True):=by
 have h:=Qr4 w o hO
 rw [if_pos hr,if_pos hr] at h
 exact h
theorem Quh (w:World) (o:Opn) (hO:QbK o) (hr:QaI o=true):Calls prog 162 #[.agg (oc o).toArray] w (fun e w'=>∃ x:Option Addr × Nat,e = .returned (.tuple #[.slice x.1 (Qbr o).length x.2,.int .i64 0])/\Own w no w' [row (.slice x.1 (Qbr o).length x.2) ((Qbr o).map (ic .u8)) 5 1]/\True):=by
 have h:=Qpc w o hO
 rw [if_pos hr,if_pos hr] at h
 exact h
end Tt
end Go.Proofs
