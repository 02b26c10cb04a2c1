/- A part of a proof: what functions of the program compute, and plain facts on that. -/
import Derived.Test.YtbjbjboehjdcaaaGreatCutsAbandonedP5
set_option linter.unusedVariables false
set_option linter.unusedSimpArgs false
set_option maxHeartbeats 4000000
set_option maxRecDepth 100000
namespace Go.Proofs
open Go Go.Vx Go.RowKit
namespace Tt
theorem Qn2 (w:World) (s:Sta) (a1:Option Addr) (c1:Nat) (a2:Option Addr) (c2:Nat) (n:Int) (hok:QdG s) (hle:s.ents.length<=1000) (hlt:s.ticks.length<=1000) (hr1:Rd w (.slice a1 s.ents.length c1) 7 (s.ents.map cec)) (hr2:Rd w (.slice a2 s.ticks.length c2) 2 (s.ticks.map lsc)):Calls Tryz.prog 33 #[.agg ((vc s.known)++[(.slice a1 s.ents.length c1:Value),(.slice a2 s.ticks.length c2:Value) ]).toArray,.int .u16 n] w (fun e w'=>∃ x:Option Addr × Nat,e = .returned (.agg [.int .u16 (Qau s n (Qam s)).cart,.slice x.1 (Qau s n (Qam s)).lines.length x.2,.bool (Qau s n (Qam s)).out,.int .u32 (Qau s n (Qam s)).tick].toArray)/\Own w no w' [row (.slice x.1 (Qau s n (Qam s)).lines.length x.2) ((Qau s n (Qam s)).lines.map lc) 127 2]/\True):=by
 refine Qaj (n:=94) Tryz.func33 rfl Tryz.ntmps33 rfl ?_
 have hs:=Own.start w
 have ⟨hv0,hE0,hT0⟩:=hok
 refine Qah (Qab (Qaa (QaR (V:=.agg ((vc s.known)++[(.slice a1 s.ents.length c1:Value),(.slice a2 s.ticks.length c2:Value) ]).toArray) (cs:=(vc s.known)++[(.slice a1 s.ents.length c1:Value),(.slice a2 s.ticks.length c2:Value) ]) rfl rfl hs fun b1 w2 hs=>(Qaa (QaM (cs:=[I7 0,.slice none 0 0,.bool false,.int .u32 0]) QhJ rfl hs fun b3 w4 hs=>(Qaf (Qah (Qab (Qaa (Qac (V:=I7 n) rfl (Qaa (Qbx (vs:=[(0,I7 n)]) (cs:=[I7 n,.slice none 0 0,.bool false,.int .u32 0]) Qqs (rfl) rfl (Qaa (QaM (cs:=[I7 0,.slice none 0 0,.bool false,.int .u32 0]) QhJ rfl hs fun b5 w6 hs=>(Qaa (QcH (V:=.agg #[I7 n,.slice none 0 0,.bool false,.int .u32 0]) (vs:=[I7 n,.slice none 0 0,.bool false,.int .u32 0]) (cs':=[I7 n,.slice none 0 0,.bool false,.int .u32 0]) Qc3.1 hs 2 rfl rfl rfl rfl rfl (QQ8 rfl) (Qaw rfl (Qaw rfl (Qaw rfl (Qaw rfl Qbg)))) (QaC rfl) fun w7 hs=>?_))))))))))))))))
 replace hs:Own w no w7 [blk b1 ((vc s.known)++[(.slice a1 s.ents.length c1:Value),(.slice a2 s.ticks.length c2:Value) ]) 38,blk b3 [I7 0,.slice none 0 0,.bool false,.int .u32 0] 49,blk b5 [I7 n,.slice none 0 0,.bool false,.int .u32 0] 49]:=hs
 refine Qaf (Qah (Qah (Qab (Qaa (QaJ (cs:=(vc s.known)++[(.slice a1 s.ents.length c1:Value),(.slice a2 s.ticks.length c2:Value) ]) QcD hs 0 rfl rfl rfl (Qaa (Qat (vs:=[.agg ((vc s.known)++[(.slice a1 s.ents.length c1:Value),(.slice a2 s.ticks.length c2:Value) ]).toArray]) (V:=.bool (Qam s)) QrU rfl rfl ?hc hs fun w8 hs=>?_)))))))
 case hc=>exact (Qgv _ s a1 c1 a2 c2 hok (by omega) (by omega) (Rd.own' hr1 hs) (Rd.own' hr2 hs))
 refine Qaa (Qbw rfl (Qaf (Qao (t:=!(Qam s)) rfl (fun c9=>?_) (fun c9=>?_))))
 ·
  replace c9:=Qbp c9
  refine Qah (Qab (Qaa (QaJ (cs:=[I7 n,.slice none 0 0,.bool false,.int .u32 0]) Qc3 hs 2 rfl rfl rfl (Qaa (QcH (V:=.agg #[I7 n,.slice none 0 0,.bool false,.int .u32 0]) (vs:=[I7 n,.slice none 0 0,.bool false,.int .u32 0]) (cs':=[I7 n,.slice none 0 0,.bool false,.int .u32 0]) Qc3.1 hs 1 rfl rfl rfl rfl rfl (QQ8 rfl) (Qaw rfl (Qaw rfl (Qaw rfl (Qaw rfl Qbg)))) (QaC rfl) fun w10 hs=>(Qaf (Qav ?_)))))))
  refine ⟨_,QcA (cs:=[I7 n,.slice none 0 0,.bool false,.int .u32 0]) Tryz.results33 Qc3 hs 1 rfl rfl rfl,?_⟩
  rw [c9]
  exact ⟨(none,0),rfl,(hs.take 0).more _ (Qbk _ _ 127 2),trivial⟩
 replace c9:=Qbf c9
 refine Qaq (Qah (Qah ?_))
 have hrc:=Qeh.1 c9
 refine Qab (Qaa (QaJ (cs:=(vc s.known)++[(.slice a1 s.ents.length c1:Value),(.slice a2 s.ticks.length c2:Value) ]) QcD hs 0 rfl rfl rfl (Qaa (Qac (V:=I7 n) rfl (Qaa (Qat (vs:=[.agg ((vc s.known)++[(.slice a1 s.ents.length c1:Value),(.slice a2 s.ticks.length c2:Value) ]).toArray,I7 n]) (V:=.tuple #[I6 ((Qew s.ticks n:Nat):Int),.bool ((QaB s.ticks n).isSome)]) QtE rfl rfl ?hc hs fun w11 hs=>?_))))))
 case hc=>exact (QjL _ s.known (.slice a1 s.ents.length c1) a2 c2 s.ticks n (by omega) hrc.rt (Rd.own' hr2 hs))
 refine Qaa (Qac (V:=.tuple #[I6 ((Qew s.ticks n:Nat):Int),.bool ((QaB s.ticks n).isSome)]) rfl (Qaa (Qay (V:=I6 ((Qew s.ticks n:Nat):Int)) rfl rfl (Qaa (Qay (V:=.bool ((QaB s.ticks n).isSome)) rfl rfl (Qaa (Qad (V:=I6 ((Qew s.ticks n:Nat):Int)) rfl (Qaa (Qad (V:=.bool ((QaB s.ticks n).isSome)) rfl (Qaf (Qah (Qab (Qaa (Qac (V:=.bool ((QaB s.ticks n).isSome)) rfl (Qaf (Qgn (fun J J' w'=>∃ (Jo:Env) (tk:Int),J'=mix (sq 25 7) Jo J/\(tk=(QaB s.ticks n).getD 0)/\Own w no w' [blk b1 ((vc s.known)++[(.slice a1 s.ents.length c1:Value),(.slice a2 s.ticks.length c2:Value) ]) 38,blk b3 [I7 0,.slice none 0 0,.bool false,.int .u32 0] 49,blk b5 [I7 n,.slice none 0 0,.bool false,.int .u32 tk] 49]) ?_ ?_))))))))))))))))
 ·
  refine Qao (t:=(QaB s.ticks n).isSome) rfl (fun c12=>?_) (fun c12=>?_)
  ·
   have hfa:=(QlE hrc.rt c12).1
   refine Qab (Qaa (Qae Qdf rfl (Qaa (QaE (V:=.slice a2 s.ticks.length c2) QgK hs 0 rfl rfl rfl (Qaa (Qac (V:=I6 ((Qew s.ticks n:Nat):Int)) rfl (Qaa (Qax Qgx QcZ.1 (Rd.own' hr2 hs) rfl rfl (by omega) (by rw [QQ6];omega) (Qaa (Qae QhB rfl (Qaa (QaP (j:=1) (V:=.int .u32 ((gd s.ticks (Qew s.ticks n)).tick)) (Qew s.ticks n) QaY (Rd.own' hr2 hs) (QaW (by omega)) rfl rfl (by omega) (Qaa (Qae QhR rfl (Qaa (Qc2 (V:=.int .u32 ((gd s.ticks (Qew s.ticks n)).tick)) (cs':=[I7 n,.slice none 0 0,.bool false,.int .u32 ((gd s.ticks (Qew s.ticks n)).tick)]) QaY hs 2 rfl rfl rfl rfl (QQ8 rfl) rfl fun w13 hs=>(Qaf ?_)))))))))))))))))
   exact ⟨_,(gd s.ticks (Qew s.ticks n)).tick,Qap (ds:=(sq 25 7)) (by repeat (first|exact Agr.refl _ _|refine Agr.upd ?_ rfl|refine Agr.mix ?_ rfl)),(by rw [(QlE hrc.rt c12).2.2];rfl),hs.take 3⟩
  refine Qaq ?_
  exact ⟨_,0,Qap (ds:=(sq 25 7)) (by repeat (first|exact Agr.refl _ _|refine Agr.upd ?_ rfl|refine Agr.mix ?_ rfl)),(QrZ c12),hs.take 3⟩
 rintro J' w14 ⟨Jo,tk,rfl,htk,hs⟩
 refine Qah (Qab (Qaa (Qad (V:=.slice none 0 0) rfl (Qaf (Qah (Qah (Qab (Qaa (Qae Qex rfl (Qaa (QaE (V:=.slice a1 s.ents.length c1) Qjf hs 0 rfl rfl rfl (Qaa (Qa4 (n:=s.ents.length) QbG (Rd.own' hr1 hs) (by simp) rfl (Qaa (Qac (V:=I6 0) rfl (Qaf (Qan ?_)))))))))))))))))
 replace hs:=hs.more (row (.slice none 0 0) (List.map cec []) 106 7) (Qbk _ _ _ _)
 refine QaA (fun J μ J' w'=>∃ (Jo:Env) (k:Nat) (an9:Option Addr) (cn9:Nat) (L9:List Cen) (ou:Bool),J'=upd (upd (mix ([8,10]++sq 35 19) Jo J) 35 (I6 (k:Int))) 8 (.slice an9 L9.length cn9)/\(k<=s.ents.length)/\(L9=(s.ents.take k).filter (fun e:Cen=>decide (e.cart=n)&&!decide (e.kind=4)))/\(ou=(s.ents.take k).any (fun e:Cen=>decide (e.cart=n)&&decide (e.kind=4)))/\(L9.length<=k)/\μ=s.ents.length-k/\Own w no w' [blk b1 ((vc s.known)++[(.slice a1 s.ents.length c1:Value),(.slice a2 s.ticks.length c2:Value) ]) 38,blk b3 [I7 0,.slice none 0 0,.bool false,.int .u32 0] 49,blk b5 [I7 n,.slice none 0 0,.bool ou,.int .u32 tk] 49,row (.slice an9 L9.length cn9) (L9.map cec) 106 7]) ?_ ?_
 ·exact ⟨_,_,0,none,0,[],false,Qai (Qai (Qap (ds:=([8,10]++sq 35 19)) (Agr.refl _ _)) rfl) rfl,(by omega),rfl,rfl,(Nat.le_refl _),rfl,hs⟩
 rintro μ J' w15 ⟨Jo,k,an9,cn9,L9,ou,rfl,hk,hL9,hob,hl9,rfl,hs⟩
 refine Qah (Qab (Qaa (QaQ rfl rfl (Qaf (Qah (Qao (t:=decide ((k:Int)<((s.ents.length:Nat):Int))) rfl (fun c16=>?_) (fun c16=>?_)))))))
 ·
  replace c16:=QQ1 c16
  refine Qaq (Qah (Qan (Qah (Qab (Qaa (Qax QbG QaF.1 (Rd.own' hr1 hs) rfl rfl (by omega) (by rw [QQ6];omega) (Qaa (Qa5 (j:=0) (vs:=cec (gd s.ents k)) k QaF (Rd.own' hr1 hs) (QaW (by omega)) rfl rfl rfl (by omega) (Qaa (QaM (cs:=cec (⟨0,0,0,0,(⟨0,0⟩:Dot),0⟩:Cen)) QgT rfl hs fun b17 w18 hs=>(Qaa (QcH (V:=.agg (cec (gd s.ents k)).toArray) (vs:=cec (gd s.ents k)) (cs':=cec (gd s.ents k)) QaF.1 hs 4 rfl rfl rfl rfl rfl (QQ8 rfl) (Qa7 _) (QaC rfl) fun w19 hs=>(Qaf (Qan (Qah (Qab (Qaa (Qae QdJ rfl (Qaa (QaE (V:=I7 ((gd s.ents k).cart)) Qas hs 4 rfl rfl rfl (Qaa (Qac (V:=I7 n) rfl (Qaa (Qch rfl rfl (Qaa (Qad (V:=.bool (!decide ((gd s.ents k).cart=n))) rfl (Qaf (Qao (t:=!decide ((gd s.ents k).cart=n)) rfl (fun c20=>?_) (fun c20=>?_)))))))))))))))))))))))))))))
  ·
   replace c20:=Qbp c20
   replace c20:=QQ2 c20
   refine Qaq (Qab (Qaa (QaD (a:=(k:Int)) (b:=1) (c:=((k+1:Nat):Int)) rfl rfl (Qak (by omega) (by omega)) (Qaa (Qac (V:=I6 ((k+1:Nat):Int)) rfl (Qaf ?_))))))
   refine ⟨_,?_,_,k+1,an9,cn9,L9,ou,Qai (Qai (Qap (ds:=([8,10]++sq 35 19)) (by repeat (first|exact Agr.refl _ _|refine Agr.upd ?_ rfl|refine Agr.mix ?_ rfl))) rfl) rfl,(by omega),(QdX (p:=(fun e:Cen=>decide (e.cart=n)&&!decide (e.kind=4))) hL9 (by omega) (by simp [c20])),(by rw [← QcG (p:=(fun e:Cen=>decide (e.cart=n)&&decide (e.kind=4))) hob (by omega)];simp [c20]),(by omega),rfl,hs.take 4⟩
   omega
  replace c20:=Qbf c20
  replace c20:=QQ1 c20
  refine Qah (Qab (Qaa (Qae Qe0 rfl (Qaa (QaE (V:=.int .u8 ((gd s.ents k).kind)) QcF hs 4 rfl rfl rfl (Qaa (QaS rfl rfl (Qaa (Qad (V:=.bool (decide ((gd s.ents k).kind=4))) rfl (Qaf (Qao (t:=decide ((gd s.ents k).kind=4)) rfl (fun c21=>?_) (fun c21=>?_))))))))))))
  ·
   replace c21:=QQ1 c21
   refine Qab (Qaa (Qae QdC rfl (Qaa (Qc2 (V:=.bool true) (cs':=[I7 n,.slice none 0 0,.bool true,.int .u32 tk]) Qpt hs 2 rfl rfl rfl rfl (QQ8 rfl) rfl fun w22 hs=>(Qaf (Qab (Qaa (QaD (a:=(k:Int)) (b:=1) (c:=((k+1:Nat):Int)) rfl rfl (Qak (by omega) (by omega)) (Qaa (Qac (V:=I6 ((k+1:Nat):Int)) rfl (Qaf ?_)))))))))))
   refine ⟨_,?_,_,k+1,an9,cn9,L9,true,Qai (Qai (Qap (ds:=([8,10]++sq 35 19)) (by repeat (first|exact Agr.refl _ _|refine Agr.upd ?_ rfl|refine Agr.mix ?_ rfl))) rfl) rfl,(by omega),(QdX (p:=(fun e:Cen=>decide (e.cart=n)&&!decide (e.kind=4))) hL9 (by omega) (by simp [c20,c21])),(by rw [← QcG (p:=(fun e:Cen=>decide (e.cart=n)&&decide (e.kind=4))) hob (by omega)];simp [c20,c21]),(by omega),rfl,hs.take 4⟩
   omega
  replace c21:=QQ2 c21
  refine Qab (Qaa (Qac (V:=.slice an9 L9.length cn9) rfl (Qaa (QaJ (cs:=cec (gd s.ents k)) QaF hs 4 rfl rfl rfl (Qaa (Qfb (vals:=[.agg (cec (gd s.ents k)).toArray]) (ls:=List.map cec ([gd s.ents k]:List Cen)) Qhi rfl rfl rfl (Qbd (enc:=cec) (fun _=>rfl) _) (QaK Qa7 _) (QQ8 rfl) hs fun b23 w24 hs=>(Qaa (Qb3 (ls':=(L9++[gd s.ents k]).map cec) (n:=(L9++[gd s.ents k]).length) Qhi hs 3 rfl rfl rfl (hs.rd 5 rfl) (QaK Qa7 _) (by simp only [QQ6,QQ7,List.length_cons,List.length_nil];omega) (by simp) (by simp) fun a25 c25 w26 hs=>?_))))))))
  replace hs:Own w no w26 [blk b1 ((vc s.known)++[(.slice a1 s.ents.length c1:Value),(.slice a2 s.ticks.length c2:Value) ]) 38,blk b3 [I7 0,.slice none 0 0,.bool false,.int .u32 0] 49,blk b5 [I7 n,.slice none 0 0,.bool ou,.int .u32 tk] 49,row (.slice a25 ((L9++[gd s.ents k]).length) c25) ((L9++[gd s.ents k]).map cec) 106 7,blk b17 (cec (gd s.ents k)) 106,row (.slice (some ⟨b23,0,none⟩) 1 1) ([gd s.ents k].map cec) 106 7]:=hs
  refine Qaa (Qad (V:=.slice a25 ((L9++[gd s.ents k]).length) c25) rfl (Qaf (Qab (Qaa (QaD (a:=(k:Int)) (b:=1) (c:=((k+1:Nat):Int)) rfl rfl (Qak (by omega) (by omega)) (Qaa (Qac (V:=I6 ((k+1:Nat):Int)) rfl (Qaf ?_))))))))
  refine ⟨_,?_,_,k+1,a25,c25,L9++[gd s.ents k],ou,Qai (Qai (Qap (ds:=([8,10]++sq 35 19)) (by repeat (first|exact Agr.refl _ _|refine Agr.upd ?_ rfl|refine Agr.mix ?_ rfl))) rfl) rfl,(by omega),(QeV (p:=(fun e:Cen=>decide (e.cart=n)&&!decide (e.kind=4))) hL9 (by omega) (by simp [c20,c21])),(by rw [← QcG (p:=(fun e:Cen=>decide (e.cart=n)&&decide (e.kind=4))) hob (by omega)];simp [c20,c21]),(by rw [QQ7,List.length_singleton];omega),rfl,hs.take 4⟩
  omega
 replace c16:=QQ2 c16
 refine QaG (Qah (Qab (Qaa (Qac (V:=.slice an9 L9.length cn9) rfl (Qaa (Qbu (α:=List Cen) (vs:=[.slice an9 L9.length cn9,.func (.func 76) #[] #[]]) (V:=fun _=>.tuple #[]) (R:=row (.slice an9 L9.length cn9) (L9.map cec) 106 7) (R':=fun x=>row (.slice an9 L9.length cn9) (x.map cec) 106 7) (Lo:=fun _=>[]) (F:=fun x _=>x.length=L9.length/\x.Perm L9/\Qlh (fun x y:Cen=>Qa3 x.item y.item) x) Qvu rfl rfl hs 3 rfl (fun S hS hlt=>Qsv _ S an9 L9.length cn9 L9 rfl (by omega) 76 QvK (fun x y:Cen=>Qa3 x.item y.item) (QoA (fun x:Cen=>x.item)) (fun w x y=>Qpv w x y) hS hlt) fun sx28 w27 hs hF29=>(Qaf (Qah (Qan ?_)))))))))
 replace hs:=hs.more (row (.slice none 0 0) (List.map lc []) 127 2) (Qbk _ _ _ _)
 obtain ⟨hQl,hQp,hQs⟩:=hF29
 have hLE:L9=Qjx s n:=by rw [hL9,Qcc (by omega)];rfl
 rw [hLE] at hQp
 have hobE:=hob
 rw [Qcc (by omega)] at hobE
 have hQok:∀ e∈sx28,Qe5 e/\1<=e.count:=fun e he=>by
  have hq:=Qoc hrc (hQp.mem_iff.1 he)
  exact ⟨hE0 e hq.1,hq.2⟩
 refine QaA (fun J μ J' w'=>∃ (Jo:Env) (R:List Cen) (I:List Int) (an3:Option Addr) (cn3:Nat) (an6:Option Addr) (cn6:Nat) (ol:List Line),J'=upd (mix ([8,11]++sq 56 37) Jo J) 8 (.slice an3 R.length cn3)/\(Grps sx28 R I)/\(ol=I.map (QgG s n))/\(ol.length+R.length<=sx28.length)/\(∀ w':World,Rd w' (.slice an9 L9.length cn9) 7 (sx28.map cec)->Rd w' (.slice an3 R.length cn3) 7 (R.map cec))/\μ=R.length+0/\Own w no w' [blk b1 ((vc s.known)++[(.slice a1 s.ents.length c1:Value),(.slice a2 s.ticks.length c2:Value) ]) 38,blk b3 [I7 0,.slice none 0 0,.bool false,.int .u32 0] 49,blk b5 [I7 n,.slice an6 ol.length cn6,.bool ou,.int .u32 tk] 49,row (.slice an9 L9.length cn9) (sx28.map cec) 106 7,row (.slice an6 ol.length cn6) (ol.map lc) 127 2]) ?_ ?_
 ·exact ⟨_,_,sx28,[],an9,cn9,none,0,[],Qai (Qap (ds:=([8,11]++sq 56 37)) (Agr.refl _ _)) (congrArg (fun n=>Value.slice an9 n cn9) hQl.symm),(QkH _),rfl,(by simp),(fun w' h=>by rw [hQl];exact h),rfl,hs⟩
 rintro μ J' w30 ⟨Jo,R,I,an3,cn3,an6,cn6,ol,rfl,hgr,hol,hll,hvia,rfl,hs⟩
 refine Qah (Qah (Qab (Qaa (Qac (V:=.slice an3 R.length cn3) rfl (Qaa (Qa4 (n:=R.length) QbG (hvia _ (hs.rd 3 rfl)) (by simp) rfl (Qaa (QbP rfl rfl (Qaf (Qao (t:=decide (0<((R.length:Nat):Int))) rfl (fun c31=>?_) (fun c31=>?_)))))))))))
 ·
  replace c31:=QQ1 c31
  refine Qaq (Qan (Qah (Qab (Qaa (Qad (V:=I6 1) rfl (Qaf (Qah (Qan (QaA (fun J μ J' w'=>∃ (Jo:Env) (j:Nat),J'=upd (mix ([11]++sq 59 18) Jo J) 11 (I6 (j:Int))/\(1<=j)/\(j<=R.length)/\(∀ i,i<j->(gd R i).item=(gd R 0).item)/\μ=R.length-j/\Own w no w' [blk b1 ((vc s.known)++[(.slice a1 s.ents.length c1:Value),(.slice a2 s.ticks.length c2:Value) ]) 38,blk b3 [I7 0,.slice none 0 0,.bool false,.int .u32 0] 49,blk b5 [I7 n,.slice an6 ol.length cn6,.bool ou,.int .u32 tk] 49,row (.slice an9 L9.length cn9) (sx28.map cec) 106 7,row (.slice an6 ol.length cn6) (ol.map lc) 127 2]) ?_ ?_)))))))))
  ·exact ⟨_,_,1,Qai (Qap (ds:=([11]++sq 59 18)) (Agr.refl _ _)) rfl,(Nat.le_refl _),(by omega),(fun i hi=>by rw [show i=0 by omega]),rfl,hs⟩
  rintro μ J' w32 ⟨Jo,j,rfl,hj1,hj2,hji,rfl,hs⟩
  refine Qah (Qah (QaH HM [some 59,some 60,some 61,some 62,some 63,some 64,some 65,some 66,some 67,some 68,some 69,some 70,some 71,some 72,some 73,some 74] [] [0,0,2,7,15,31,31,127,255,511,31,1055,3103,7199,16383,32767] [pv (I6 (j:Int)),pv (.slice an3 R.length cn3),pv (I6 ((R.length:Nat):Int)),pv (.bool (decide ((j:Int)<((R.length:Nat):Int)))),pv (.bool (decide ((j:Int)<((R.length:Nat):Int)))),pg ((decide ((j:Int)<((R.length:Nat):Int))) == true) (.slice an3 R.length cn3),pg ((decide ((j:Int)<((R.length:Nat):Int))) == true) (I6 (j:Int)),pg ((decide ((j:Int)<((R.length:Nat):Int))) == true) (.pointer (some ⟨bkS (.slice an3 R.length cn3),ofS (.slice an3 R.length cn3)+(j:Int).toNat*7,none⟩)),pg ((decide ((j:Int)<((R.length:Nat):Int))) == true) (.pointer (some ⟨bkS (.slice an3 R.length cn3),ofS (.slice an3 R.length cn3)+(j:Int).toNat*7+1,none⟩)),pg ((decide ((j:Int)<((R.length:Nat):Int))) == true) (I7 ((gd R j).item)),pg ((decide ((j:Int)<((R.length:Nat):Int))) == true) (.slice an3 R.length cn3),pg ((decide ((j:Int)<((R.length:Nat):Int))) == true) (.pointer (some ⟨bkS (.slice an3 R.length cn3),ofS (.slice an3 R.length cn3)+(0:Int).toNat*7,none⟩)),pg ((decide ((j:Int)<((R.length:Nat):Int))) == true) (.pointer (some ⟨bkS (.slice an3 R.length cn3),ofS (.slice an3 R.length cn3)+(0:Int).toNat*7+1,none⟩)),pg ((decide ((j:Int)<((R.length:Nat):Int))) == true) (I7 ((gd R 0).item)),pg ((decide ((j:Int)<((R.length:Nat):Int))) == true) (.bool (decide ((gd R j).item=(gd R 0).item))),pv (.bool ((decide ((j:Int)<((R.length:Nat):Int)))&&(decide ((gd R j).item=(gd R 0).item))))] (fun _ _=>_) [15] (by kernel_rfl) hs ⟨?_,?_,?_,?_,?_,?_,?_,?_,?_,?_,?_,?_,?_,?_,?_,?_,trivial⟩ ?_))
  ·exact oa [] fun D J w hs=>Qac (V:=.int .i64 (j:Int)) rfl (Zz hs)
  ·exact oa [] fun D J w hs=>Qac (V:=.slice an3 R.length cn3) rfl (Zz hs)
  ·exact oa [1] fun D J w hs=>Qa4 (n:=R.length) QbG (hvia _ (hs.rd 3 rfl)) (by simp) rfl (Zz hs)
  ·exact oa [0,2] fun D J w hs=>QaQ rfl rfl (Zz hs)
  ·exact oa [3] fun D J w hs=>Qac (V:=.bool (decide ((j:Int)<((R.length:Nat):Int)))) rfl (Zz hs)
  ·exact og [4] fun D J w hG hs=>Qac (V:=.slice an3 R.length cn3) rfl (Zz hs)
  ·exact og [4] fun D J w hG hs=>Qac (V:=.int .i64 (j:Int)) rfl (Zz hs)
  ·refine oy [4,5,6] [5,6] fun D J w hG hs=>?_
   have hgd:=QQ1 (eq_of_beq (hG))
   exact Qax QbG QaF.1 (hvia _ (hs.rd 3 rfl)) rfl rfl (by omega) (by rw [QQ6];omega) (Zz hs)
  ·exact oy [4,7] [7] fun D J w hG hs=>Qae QdA rfl (Zz hs)
  ·refine oy [4,8] [8] fun D J w hG hs=>?_
   have hgd:=QQ1 (eq_of_beq (hG))
   exact QaP (j:=1) (V:=.int .u16 ((gd R j).item)) j Qas (hvia _ (hs.rd 3 rfl)) (QaW (by omega)) rfl rfl (by omega) (Zz hs)
  ·exact og [4] fun D J w hG hs=>Qac (V:=.slice an3 R.length cn3) rfl (Zz hs)
  ·refine oy [4,10] [10] fun D J w hG hs=>?_
   have hgd:=QQ1 (eq_of_beq (hG))
   exact Qax QbG QaF.1 (hvia _ (hs.rd 3 rfl)) rfl rfl (by decide) (by rw [QQ6];omega) (Zz hs)
  ·exact oy [4,11] [11] fun D J w hG hs=>Qae QdA rfl (Zz hs)
  ·refine oy [4,12] [12] fun D J w hG hs=>?_
   have hgd:=QQ1 (eq_of_beq (hG))
   exact QaP (j:=1) (V:=.int .u16 ((gd R 0).item)) 0 Qas (hvia _ (hs.rd 3 rfl)) (QaW (by omega)) rfl rfl (by omega) (Zz hs)
  ·exact oy [4,9,13] [9,13] fun D J w hG hs=>QaS rfl rfl (Zz hs)
  ·exact oa [4,14] fun D J w hs=>Qa2 (h':=decide ((gd R j).item=(gd R 0).item)) rfl rfl rfl (Zz hs)
  rintro J1 w33 J2 hJ hs
  replace hJ:J2=upd (mix (sq 59 16) J1 _) 74 (.bool ((decide ((j:Int)<((R.length:Nat):Int)))&&(decide ((gd R j).item=(gd R 0).item)))):=hJ
  subst hJ
  refine Qao (t:=(decide ((j:Int)<((R.length:Nat):Int)))&&(decide ((gd R j).item=(gd R 0).item))) rfl (fun c34=>?_) (fun c34=>?_)
  ·
   have c34r:=QbC c34
   replace c34:=QbA c34
   replace c34:=QQ1 c34
   replace c34r:=QQ1 c34r
   refine Qaq (Qan (Qab (Qaa (Qac (V:=I6 (j:Int)) rfl (Qaa (QaD (a:=(j:Int)) (b:=1) (c:=((j+1:Nat):Int)) rfl rfl (Qak (by omega) (by omega)) (Qaa (Qad (V:=I6 ((j+1:Nat):Int)) rfl (Qaf ?_)))))))))
   refine ⟨_,?_,_,j+1,Qai (Qap (ds:=([11]++sq 59 18)) (by repeat (first|exact Agr.refl _ _|refine Agr.upd ?_ rfl|refine Agr.mix ?_ rfl))) rfl,(by omega),(by omega),(fun i hi=>by
 rcases Nat.lt_or_eq_of_le (Nat.le_of_lt_succ hi) with q|q
 ·exact hji i q
 ·subst q;exact c34r),rfl,hs.take 5⟩
   omega
  refine QaG (Qah ?_)
  have hga:=Qqm hrc hQp hgr hQs hj1 hj2 hji (by
          have ht:=c34
          rcases Nat.lt_or_ge j R.length with q|q
          ·right;intro h;simp [q,h] at ht
          ·left;omega)
  have hGok:∀ e∈R.take j,Qe5 e/\1<=e.count:=fun e he=>hQok e (Qpk hgr e (List.mem_of_mem_take he))
  replace hs:=hs.more emp trivial
  refine QaH HM [some 77,some 78,some 79,some 80,some 81,some 82,some 83,some 84,some 85,some 86,some 87,some 88,some 89,none] [[],[],[],[],[],[],[],[],[],[],[87],[88]] [0,1,0,4,12,28,0,0,192,508,1020,2047,4095,8191] [pv (Pq b5 (0+1)),pv (.slice an6 ol.length cn6),pv (.slice an3 R.length cn3),pv (.pointer (some ⟨bkS (.slice an3 R.length cn3),ofS (.slice an3 R.length cn3)+(0:Int).toNat*7,none⟩)),pv (.pointer (some ⟨bkS (.slice an3 R.length cn3),ofS (.slice an3 R.length cn3)+(0:Int).toNat*7+1,none⟩)),pv (I7 ((gd R 0).item)),pv (.slice an3 R.length cn3),pv (I6 (j:Int)),pv (.slice (sla an3 0 cn3 7) ((R.take j).length) (cn3-0)),pv (.agg (lc (⟨(gd R 0).item,QcN (R.take j)⟩:Line)).toArray),(true,fun J=>.slice (some ⟨(bOf (J 87)),0,none⟩) 1 1),(true,fun J=>.slice (aOf (J 88)) ((ol++[(⟨(gd R 0).item,QcN (R.take j)⟩:Line)]).length) (cOf (J 88))),pv (Pq b5 (0+1)),pn] (fun D J=>[blk b1 ((vc s.known)++[(.slice a1 s.ents.length c1:Value),(.slice a2 s.ticks.length c2:Value) ]) 38,blk b3 [I7 0,.slice none 0 0,.bool false,.int .u32 0] 49,cond (D 13) (blk b5 [I7 n,.slice (aOf (J 88)) ((ol++[(⟨(gd R 0).item,QcN (R.take j)⟩:Line)]).length) (cOf (J 88)),.bool ou,.int .u32 tk] 49) (blk b5 [I7 n,.slice an6 ol.length cn6,.bool ou,.int .u32 tk] 49),row (.slice an9 L9.length cn9) (sx28.map cec) 106 7,cond (D 11) (row (.slice (aOf (J 88)) ((ol++[(⟨(gd R 0).item,QcN (R.take j)⟩:Line)]).length) (cOf (J 88))) ((ol++[(⟨(gd R 0).item,QcN (R.take j)⟩:Line)]).map lc) 127 2) (row (.slice an6 ol.length cn6) (ol.map lc) 127 2),cond (D 10) (row (.slice (some ⟨(bOf (J 87)),0,none⟩) 1 1) ([(⟨(gd R 0).item,QcN (R.take j)⟩:Line)].map lc) 127 2) (emp)]) [] (by kernel_rfl) hs ⟨?_,?_,?_,?_,?_,?_,?_,?_,?_,?_,?_,?_,?_,?_,trivial⟩ ?_
  ·exact oa [] fun D J w hs=>Qae QdV rfl (Zz hs)
  ·exact ob [0] [13] rfl rfl fun D J w hs=>QaE (V:=.slice an6 ol.length cn6) QiG hs 2 rfl rfl rfl (Zz hs)
  ·exact oa [] fun D J w hs=>Qac (V:=.slice an3 R.length cn3) rfl (Zz hs)
  ·exact oa [2] fun D J w hs=>Qax QbG QaF.1 (hvia _ (hs.rd 3 rfl)) rfl rfl (by decide) (by rw [QQ6];omega) (Zz hs)
  ·exact oa [3] fun D J w hs=>Qae QdA rfl (Zz hs)
  ·exact oa [4] fun D J w hs=>QaP (j:=1) (V:=.int .u16 ((gd R 0).item)) 0 Qas (hvia _ (hs.rd 3 rfl)) (QaW (by omega)) rfl rfl (by omega) (Zz hs)
  ·exact oa [] fun D J w hs=>Qac (V:=.slice an3 R.length cn3) rfl (Zz hs)
  ·exact oa [] fun D J w hs=>Qac (V:=.int .i64 (j:Int)) rfl (Zz hs)
  ·exact oa [6,7] fun D J w hs=>Qp1 (l:=0) (h:=j) (m:=cn3) (n':=(R.take j).length) QhY QaF.1 (hvia _ (hs.rd 3 rfl)) rfl (.inl ⟨rfl,rfl⟩) (.inr ⟨_,_,rfl,rfl⟩) (.inl ⟨rfl,rfl⟩) (by omega) (by omega) (Nat.le_trans (show j<=R.length by omega) (Rd.roomM (hvia _ (hs.rd 3 rfl)))) (Nat.le_refl _) (by simp only [List.length_take,List.length_drop]<;>omega) (Zz hs)
  ·exact oa [5,8] fun D J w hs=>Qat (vs:=[.int .u16 ((gd R 0).item),.slice (sla an3 0 cn3 7) ((R.take j).length) (cn3-0)]) (V:=.agg (lc (⟨(gd R 0).item,QcN (R.take j)⟩:Line)).toArray) Qul rfl rfl (Qrw _ ((gd R 0).item) (sla an3 0 cn3 7) (cn3-0) (R.take j) hGok (Rd.subM (hvia _ (hs.rd 3 rfl)) 0 j cn3 (by omega) (by omega) (Nat.le_trans (show j<=R.length by omega) (Rd.roomM (hvia _ (hs.rd 3 rfl)))) (Nat.le_refl _) _ (by simp only [List.length_take,List.length_drop]<;>omega))) hs fun _ hs=>Zz hs
  ·exact oa [9] fun D J w hs=>Qfb (vals:=[.agg (lc (⟨(gd R 0).item,QcN (R.take j)⟩:Line)).toArray]) (ls:=List.map lc ([(⟨(gd R 0).item,QcN (R.take j)⟩:Line)]:List Line)) Qo8 rfl rfl rfl (Qbd (enc:=lc) (fun _=>rfl) _) (QaK Qix _) (QQ8 rfl) hs fun _ _ hs=>⟨rfl,hs.put 5 (QQ8 rfl)⟩
  ·exact ob [1,10] [13] rfl rfl fun D J w hs=>Qb3 (ls':=(ol++[(⟨(gd R 0).item,QcN (R.take j)⟩:Line)]).map lc) (n:=(ol++[(⟨(gd R 0).item,QcN (R.take j)⟩:Line)]).length) Qo8 hs 4 rfl rfl rfl (hs.rd 5 rfl) (QaK Qix _) (by simp only [QQ6,QQ7,List.length_cons,List.length_nil];omega) (by simp) (by simp) fun _ _ _ hs=>⟨rfl,hs⟩
  ·exact oa [] fun D J w hs=>Qae QdV rfl (Zz hs)
  ·exact oa [11,12] fun D J w hs=>Qc2 (V:=.slice (aOf (J 88)) ((ol++[(⟨(gd R 0).item,QcN (R.take j)⟩:Line)]).length) (cOf (J 88))) (cs':=[.int .u16 n,.slice (aOf (J 88)) ((ol++[(⟨(gd R 0).item,QcN (R.take j)⟩:Line)]).length) (cOf (J 88)),.bool ou,.int .u32 tk]) QiG hs 2 rfl rfl rfl rfl (QQ8 rfl) rfl fun _ hs=>⟨trivial,hs⟩
  rintro J1 w39 J2 hJ hs
  replace hJ:J2=mix (sq 77 13) J1 _:=hJ
  replace hs:Own w no w39 [blk b1 ((vc s.known)++[(.slice a1 s.ents.length c1:Value),(.slice a2 s.ticks.length c2:Value) ]) 38,blk b3 [I7 0,.slice none 0 0,.bool false,.int .u32 0] 49,blk b5 [I7 n,.slice (aOf (J1 88)) ((ol++[(⟨(gd R 0).item,QcN (R.take j)⟩:Line)]).length) (cOf (J1 88)),.bool ou,.int .u32 tk] 49,row (.slice an9 L9.length cn9) (sx28.map cec) 106 7,row (.slice (aOf (J1 88)) ((ol++[(⟨(gd R 0).item,QcN (R.take j)⟩:Line)]).length) (cOf (J1 88))) ((ol++[(⟨(gd R 0).item,QcN (R.take j)⟩:Line)]).map lc) 127 2,row (.slice (some ⟨(bOf (J1 87)),0,none⟩) 1 1) ([(⟨(gd R 0).item,QcN (R.take j)⟩:Line)].map lc) 127 2]:=hs
  generalize (bOf (J1 87))=b40 at hs
  generalize (aOf (J1 88))=a41 at hs
  generalize (cOf (J1 88))=c42 at hs
  subst hJ
  refine Qab (Qaa (Qac (V:=.slice an3 R.length cn3) rfl (Qaa (Qac (V:=I6 (j:Int)) rfl (Qaa (Qp1 (l:=j) (h:=R.length) (m:=cn3) (n':=(R.drop j).length) QhY QaF.1 (hvia _ (hs.rd 3 rfl)) rfl (.inr ⟨_,_,rfl,rfl⟩) (.inl ⟨rfl,rfl⟩) (.inl ⟨rfl,rfl⟩) (by omega) (by omega) (Nat.le_trans (show R.length<=R.length by omega) (Rd.roomM (hvia _ (hs.rd 3 rfl)))) (Nat.le_refl _) (by simp only [List.length_take,List.length_drop]<;>omega) ?_))))))
  refine Qaa (Qad (V:=.slice (sla an3 j cn3 7) ((R.drop j).length) (cn3-j)) rfl (Qaf ?_))
  refine ⟨_,?_,_,R.drop j,I++[(gd R 0).item],(sla an3 j cn3 7),cn3-j,a41,c42,ol++[(⟨(gd R 0).item,QcN (R.take j)⟩:Line)],Qai (Qap (ds:=([8,11]++sq 56 37)) (by repeat (first|exact Agr.refl _ _|refine Agr.upd ?_ rfl|refine Agr.mix ?_ rfl))) rfl,hga.1,(Qiv hol hga.2),(by simp only [QQ7,List.length_singleton,List.length_drop];omega),(fun w' h=>Rd.dropM (hvia w' h) j (by omega) _ (by rw [List.length_drop])),rfl,hs.take 5⟩
  (rw [List.length_drop];omega)
 replace c31:=QQ2 c31
 refine QaG (Qah (Qab (Qaa (QaJ (cs:=[I7 n,.slice an6 ol.length cn6,.bool ou,.int .u32 tk]) Qc3 hs 2 rfl rfl rfl (Qaa (QcH (V:=.agg #[I7 n,.slice an6 ol.length cn6,.bool ou,.int .u32 tk]) (vs:=[I7 n,.slice an6 ol.length cn6,.bool ou,.int .u32 tk]) (cs':=[I7 n,.slice an6 ol.length cn6,.bool ou,.int .u32 tk]) Qc3.1 hs 1 rfl rfl rfl rfl rfl (QQ8 rfl) (Qaw rfl (Qaw rfl (Qaw rfl (Qaw rfl Qbg)))) (QaC rfl) fun w43 hs=>(Qaf (Qav ?_))))))))
 refine ⟨_,QcA (cs:=[I7 n,.slice an6 ol.length cn6,.bool ou,.int .u32 tk]) Tryz.results33 Qc3 hs 1 rfl rfl rfl,?_⟩
 have hV:=QrP c9 htk hobE hQp hgr (by omega) hol
 rw [hV]
 exact ⟨(an6,cn6),rfl,hs.only 4 rfl,trivial⟩
end Tt
end Go.Proofs
namespace Go.Proofs
open Go Go.Vx Go.RowKit
namespace Tt
theorem Qe8 (w:World) (s:Sta) (a1:Option Addr) (c1:Nat) (a2:Option Addr) (c2:Nat) (n:Int) (V:Vw) (hV:Qau s n (Qam s)=V) (hok:QdG s) (hle:s.ents.length<=1000) (hlt:s.ticks.length<=1000) (hr1:Rd w (.slice a1 s.ents.length c1) 7 (s.ents.map cec)) (hr2:Rd w (.slice a2 s.ticks.length c2) 2 (s.ticks.map lsc)):Calls Tryz.prog 33 #[.agg ((vc s.known)++[(.slice a1 s.ents.length c1:Value),(.slice a2 s.ticks.length c2:Value) ]).toArray,.int .u16 n] w (fun e w'=>∃ x:Option Addr × Nat,e = .returned (.agg [.int .u16 (V).cart,.slice x.1 (V).lines.length x.2,.bool (V).out,.int .u32 (V).tick].toArray)/\Own w no w' [row (.slice x.1 (V).lines.length x.2) ((V).lines.map lc) 127 2]/\True):=by
 subst hV;exact Qn2 w s a1 c1 a2 c2 n hok hle hlt hr1 hr2
end Tt
end Go.Proofs
namespace Go.Proofs
open Go Go.Vx Go.RowKit
namespace Tt
theorem Qsm (w:World) (n:Int) (bs bn bi:Nat) (s:Sta) (a1:Option Addr) (c1:Nat) (a2:Option Addr) (c2:Nat) (now idle:Int) (hnw:0<=idle/\idle<=now/\now<4294967296) (hok:QdG s) (hle:s.ents.length<=1000) (hlt:s.ticks.length<=1000) (hcs:Qcf w bs ((vc s.known)++[(.slice a1 s.ents.length c1:Value),(.slice a2 s.ticks.length c2:Value) ])) (hcn:Qcf w bn [(.int .u32 now:Value)]) (hci:Qcf w bi [(.int .u32 idle:Value)]) (hr1:Rd w (.slice a1 s.ents.length c1) 7 (s.ents.map cec)) (hr2:Rd w (.slice a2 s.ticks.length c2) 2 (s.ticks.map lsc)):Calls Tryz.prog 68 #[.int .u16 n,.pointer (some ⟨bs,0,none⟩),.pointer (some ⟨bn,0,none⟩),.pointer (some ⟨bi,0,none⟩)] w (fun e w'=>e = .returned (.bool (Qc5 (Qau s n (Qam s)) now idle))/\Own w no w' []):=by
 refine Qaj (n:=26) Tryz.func68 rfl Tryz.ntmps68 rfl ?_
 have hs:=Own.start w
 have ⟨hnw1,hnw2,hnw3⟩:=hnw
 refine Qah (Qab (Qaa (Qad (V:=.bool false) rfl (Qaf (Qah (Qab (Qaa (QpZ (vs:=(vc s.known)++[(.slice a1 s.ents.length c1:Value),(.slice a2 s.ticks.length c2:Value) ]) QcD (hcs.own' hs) rfl rfl rfl (Qaa (Qac (V:=I7 n) rfl (Qaa (Qbo (α:=Option Addr × Nat) (vs:=[.agg ((vc s.known)++[(.slice a1 s.ents.length c1:Value),(.slice a2 s.ticks.length c2:Value) ]).toArray,I7 n]) (V:=fun x=>.agg #[I7 ((Qau s n (Qam s)).cart),.slice x.1 (((Qau s n (Qam s)).lines).length) x.2,.bool ((Qau s n (Qam s)).out),.int .u32 ((Qau s n (Qam s)).tick)]) (Lo:=fun x=>[row (.slice x.1 ((Qau s n (Qam s)).lines).length x.2) (((Qau s n (Qam s)).lines).map lc) 127 2]) (F:=fun _ _=>True) Qox rfl rfl ?hc hs fun x2 w1 hs _=>?_))))))))))))
 case hc=>exact (Qe8 _ s a1 c1 a2 c2 n (Qau s n (Qam s):Vw) (rfl) hok hle hlt (Rd.own' hr1 hs) (Rd.own' hr2 hs))
 refine Qaa (QaM (cs:=[I7 0,.slice none 0 0,.bool false,.int .u32 0]) QhJ rfl hs fun b3 w4 hs=>(Qaa (QcH (V:=.agg #[I7 ((Qau s n (Qam s)).cart),.slice x2.1 (((Qau s n (Qam s)).lines).length) x2.2,.bool ((Qau s n (Qam s)).out),.int .u32 ((Qau s n (Qam s)).tick)]) (vs:=[I7 ((Qau s n (Qam s)).cart),.slice x2.1 (((Qau s n (Qam s)).lines).length) x2.2,.bool ((Qau s n (Qam s)).out),.int .u32 ((Qau s n (Qam s)).tick)]) (cs':=[I7 ((Qau s n (Qam s)).cart),.slice x2.1 (((Qau s n (Qam s)).lines).length) x2.2,.bool ((Qau s n (Qam s)).out),.int .u32 ((Qau s n (Qam s)).tick)]) Qc3.1 hs 1 rfl rfl rfl rfl rfl (QQ8 rfl) (Qaw rfl (Qaw rfl (Qaw rfl (Qaw rfl Qbg)))) (QaC rfl) fun w5 hs=>(Qaf (Qah (Qbh [some 10,some 11,some 12,some 13,some 14,some 15,some 16,some 17,some 18,some 19,some 20,some 21,some 22,some 23,some 24,some 25,some 5] [] [0,1,3,7,15,31,63,127,255,511,1023,511,511,6655,16383,32767,65535] [pv (Pq b3 (0+1)),pv (.slice x2.1 (((Qau s n (Qam s)).lines).length) x2.2),pv (I6 ((((Qau s n (Qam s)).lines).length:Nat):Int)),pv (.bool (decide (((((Qau s n (Qam s)).lines).length:Nat):Int)=0))),pv (.bool (decide (((((Qau s n (Qam s)).lines).length:Nat):Int)=0))),pg ((decide (((((Qau s n (Qam s)).lines).length:Nat):Int)=0)) == false) (Pq b3 (0+2)),pg ((decide (((((Qau s n (Qam s)).lines).length:Nat):Int)=0)) == false) (.bool ((Qau s n (Qam s)).out)),pv (.bool ((decide (((((Qau s n (Qam s)).lines).length:Nat):Int)=0))||((Qau s n (Qam s)).out))),pv (.bool ((decide (((((Qau s n (Qam s)).lines).length:Nat):Int)=0))||((Qau s n (Qam s)).out))),pg (((decide (((((Qau s n (Qam s)).lines).length:Nat):Int)=0))||((Qau s n (Qam s)).out)) == false) (Pq b3 (0+3)),pg (((decide (((((Qau s n (Qam s)).lines).length:Nat):Int)=0))||((Qau s n (Qam s)).out)) == false) (.int .u32 ((Qau s n (Qam s)).tick)),pg (((decide (((((Qau s n (Qam s)).lines).length:Nat):Int)=0))||((Qau s n (Qam s)).out)) == false) (.int .u32 now),pg (((decide (((((Qau s n (Qam s)).lines).length:Nat):Int)=0))||((Qau s n (Qam s)).out)) == false) (.int .u32 idle),pg (((decide (((((Qau s n (Qam s)).lines).length:Nat):Int)=0))||((Qau s n (Qam s)).out)) == false) (.int .u32 (now-idle)),pg (((decide (((((Qau s n (Qam s)).lines).length:Nat):Int)=0))||((Qau s n (Qam s)).out)) == false) (.bool (decide (now-idle<(Qau s n (Qam s)).tick))),pv (.bool (((decide (((((Qau s n (Qam s)).lines).length:Nat):Int)=0))||((Qau s n (Qam s)).out))||(decide (now-idle<(Qau s n (Qam s)).tick)))),pv (.bool (((decide (((((Qau s n (Qam s)).lines).length:Nat):Int)=0))||((Qau s n (Qam s)).out))||(decide (now-idle<(Qau s n (Qam s)).tick))))] (fun _ _=>_) [16] (by kernel_rfl) hs ⟨?_,?_,?_,?_,?_,?_,?_,?_,?_,?_,?_,?_,?_,?_,?_,?_,?_,trivial⟩ ?_))))))
 ·exact oa [] fun D J w hs=>Qae QdV rfl (Zz hs)
 ·exact oa [0] fun D J w hs=>QaE (V:=.slice x2.1 (((Qau s n (Qam s)).lines).length) x2.2) QiG hs 1 rfl rfl rfl (Zz hs)
 ·exact oa [1] fun D J w hs=>Qa4 (n:=((Qau s n (Qam s)).lines).length) QdD (hs.rd 0 rfl) (by simp) rfl (Zz hs)
 ·exact oa [2] fun D J w hs=>QaS rfl rfl (Zz hs)
 ·exact oa [3] fun D J w hs=>Qac (V:=.bool (decide (((((Qau s n (Qam s)).lines).length:Nat):Int)=0))) rfl (Zz hs)
 ·exact og [4] fun D J w hG hs=>Qae QdC rfl (Zz hs)
 ·exact oy [4,5] [5] fun D J w hG hs=>QaE (V:=.bool ((Qau s n (Qam s)).out)) Qpt hs 1 rfl rfl rfl (Zz hs)
 ·exact oa [4,6] fun D J w hs=>QbZ (h':=(Qau s n (Qam s)).out) rfl rfl rfl (Zz hs)
 ·exact oa [7] fun D J w hs=>Qac (V:=.bool ((decide (((((Qau s n (Qam s)).lines).length:Nat):Int)=0))||((Qau s n (Qam s)).out))) rfl (Zz hs)
 ·exact og [8] fun D J w hG hs=>Qae QhR rfl (Zz hs)
 ·exact oy [8,9] [9] fun D J w hG hs=>QaE (V:=.int .u32 ((Qau s n (Qam s)).tick)) QaY hs 1 rfl rfl rfl (Zz hs)
 ·exact og [8] fun D J w hG hs=>Qpp (V:=.int .u32 now) QaY (hcn.own' hs) rfl rfl (Zz hs)
 ·exact og [8] fun D J w hG hs=>Qpp (V:=.int .u32 idle) QaY (hci.own' hs) rfl rfl (Zz hs)
 ·exact oy [8,11,12] [11,12] fun D J w hG hs=>Qa6 (a:=now) (b:=idle) (c:=now-idle) rfl rfl (Qfy (by omega) (by omega)) (Zz hs)
 ·exact oy [8,10,13] [10,13] fun D J w hG hs=>QbP rfl rfl (Zz hs)
 ·exact oa [8,14] fun D J w hs=>QbZ (h':=decide (now-idle<(Qau s n (Qam s)).tick)) rfl rfl rfl (Zz hs)
 ·exact oa [15] fun D J w hs=>Qad (V:=.bool (((decide (((((Qau s n (Qam s)).lines).length:Nat):Int)=0))||((Qau s n (Qam s)).out))||(decide (now-idle<(Qau s n (Qam s)).tick)))) rfl (Zz hs)
 rintro J1 w6 J2 hJ hs
 replace hJ:J2=upd (mix (sq 10 16++[5]) J1 _) 5 (.bool (((decide (((((Qau s n (Qam s)).lines).length:Nat):Int)=0))||((Qau s n (Qam s)).out))||(decide (now-idle<(Qau s n (Qam s)).tick)))):=hJ
 subst hJ
 refine Qav ?_
 refine ⟨_,Qar (V:=.bool (((decide (((((Qau s n (Qam s)).lines).length:Nat):Int)=0))||((Qau s n (Qam s)).out))||(decide (now-idle<(Qau s n (Qam s)).tick)))) Tryz.results68 rfl,(Zr hs ?_)⟩
 rfl
end Tt
end Go.Proofs
namespace Go.Proofs
open Go Go.Vx Go.RowKit
namespace Tt
theorem Qpz (w:World) (p:Pst) (a1:Option Addr) (c1:Nat) (a2:Option Addr) (c2:Nat) (a3:Option Addr) (c3:Nat) (cut:Vec) (hcut:QbW cut) (now idle:Int) (hb2:(0<=now/\now<4294967296)/\0<=idle) (hsortE:QgQ Tryz.prog 48 49 cec 106 7 Qj2) (hsortU:QgI Tryz.prog 134 .u16 32) (hok:QcW p) (hle:p.base.ents.length<=400) (hlt:p.base.ticks.length<=400) (hlo:p.ops.length<=400) (hr1:Rd w (.slice a1 p.base.ents.length c1) 7 (p.base.ents.map cec)) (hr2:Rd w (.slice a2 p.base.ticks.length c2) 2 (p.base.ticks.map lsc)) (hr3:Rd w (.slice a3 p.ops.length c3) 23 (p.ops.map oc)):Calls Tryz.prog 25 #[.agg (((vc p.base.known)++[(.slice a1 p.base.ents.length c1:Value),(.slice a2 p.base.ticks.length c2:Value) ])++[(.slice a3 p.ops.length c3:Value) ]++(vc p.known)).toArray,.agg (vc cut).toArray,.int .u32 now,.int .u32 idle] w (fun e w'=>∃ x:Option Addr × Nat,e = .returned (.tuple #[.slice x.1 (abR p cut now idle).length x.2,.int .i64 (abI p cut now idle)])/\Own w no w' [row (.slice x.1 (abR p cut now idle).length x.2) ((abR p cut now idle).map (ic .u16)) 32 1]/\True):=by
 refine Qaj (n:=30) Tryz.func25 rfl Tryz.ntmps25 rfl ?_
 have hs:=Own.start w
 have ⟨hokb,hoko,hokk⟩:=hok
 have hsl:=Qc1 p cut
 have hso:=QdR (cut:=cut) hok hcut
 have hcl:=QiR (Qag p cut)
 refine Qah (Qab (Qaa (QaR (V:=.agg (((vc p.base.known)++[(.slice a1 p.base.ents.length c1:Value),(.slice a2 p.base.ticks.length c2:Value) ])++[(.slice a3 p.ops.length c3:Value) ]++(vc p.known)).toArray) (cs:=((vc p.base.known)++[(.slice a1 p.base.ents.length c1:Value),(.slice a2 p.base.ticks.length c2:Value) ])++[(.slice a3 p.ops.length c3:Value) ]++(vc p.known)) rfl rfl hs fun b1 w2 hs=>(Qaa (QaR (V:=.agg (vc cut).toArray) (cs:=vc cut) rfl rfl hs fun b3 w4 hs=>(Qaa (QaR (V:=.int .u32 now) (cs:=[.int .u32 now]) rfl rfl hs fun b5 w6 hs=>(Qaa (QaR (V:=.int .u32 idle) (cs:=[.int .u32 idle]) rfl rfl hs fun b7 w8 hs=>?_)))))))))
 replace hs:Own w no w8 [blk b1 (((vc p.base.known)++[(.slice a1 p.base.ents.length c1:Value),(.slice a2 p.base.ticks.length c2:Value) ])++[(.slice a3 p.ops.length c3:Value) ]++(vc p.known)) 43,blk b3 (vc cut) 24,blk b5 [.int .u32 now] 22,blk b7 [.int .u32 idle] 22]:=hs
 refine Qaa (Qad (V:=.slice none 0 0) rfl (Qaa (Qad (V:=I6 0) rfl (Qaf (Qah (Qab (Qaa (QaJ (cs:=((vc p.base.known)++[(.slice a1 p.base.ents.length c1:Value),(.slice a2 p.base.ticks.length c2:Value) ])++[(.slice a3 p.ops.length c3:Value) ]++(vc p.known)) QeH hs 0 rfl rfl rfl (Qaa (QaJ (cs:=vc cut) QbB hs 1 rfl rfl rfl (Qaa (Qbo (α:=(Option Addr × Nat) × (Option Addr × Nat)) (vs:=[.agg (((vc p.base.known)++[(.slice a1 p.base.ents.length c1:Value),(.slice a2 p.base.ticks.length c2:Value) ])++[(.slice a3 p.ops.length c3:Value) ]++(vc p.known)).toArray,.agg (vc cut).toArray]) (V:=fun x:(Option Addr × Nat) × (Option Addr × Nat)=>.tuple #[.agg (vc (Qag p cut).known++[(.slice x.1.1 ((Qag p cut).ents).length x.1.2:Value),(.slice x.2.1 ((Qag p cut).ticks).length x.2.2:Value)]).toArray,I6 (Qbc p cut)]) (Lo:=fun x=>[row (.slice x.1.1 ((Qag p cut).ents).length x.1.2) (((Qag p cut).ents).map cec) 106 7,row (.slice x.2.1 ((Qag p cut).ticks).length x.2.2) (((Qag p cut).ticks).map lsc) 102 2]) (F:=fun _ _=>True) Qmp rfl rfl ?hc hs fun x10 w9 hs _=>?_))))))))))))
 case hc=>exact (Qd4 _ p a1 c1 a2 c2 a3 c3 cut hcut hsortE hsortU hok hle hlt hlo (Rd.own' hr1 hs) (Rd.own' hr2 hs) (Rd.own' hr3 hs))
 refine Qaa (Qac (V:=.tuple #[.agg ((vc ((Qag p cut).known))++[(.slice x10.1.1 (((Qag p cut).ents).length) x10.1.2:Value),(.slice x10.2.1 (((Qag p cut).ticks).length) x10.2.2:Value) ]).toArray,I6 (Qbc p cut)]) rfl (Qaa (Qay (V:=.agg ((vc ((Qag p cut).known))++[(.slice x10.1.1 (((Qag p cut).ents).length) x10.1.2:Value),(.slice x10.2.1 (((Qag p cut).ticks).length) x10.2.2:Value) ]).toArray) rfl rfl (Qaa (Qay (V:=I6 (Qbc p cut)) rfl rfl (Qaa (QaM (cs:=(vc vzero)++[(.slice none 0 0:Value),(.slice none 0 0:Value) ]) QhF rfl hs fun b11 w12 hs=>(Qaa (QcH (V:=.agg ((vc ((Qag p cut).known))++[(.slice x10.1.1 (((Qag p cut).ents).length) x10.1.2:Value),(.slice x10.2.1 (((Qag p cut).ticks).length) x10.2.2:Value) ]).toArray) (vs:=(vc ((Qag p cut).known))++[(.slice x10.1.1 (((Qag p cut).ents).length) x10.1.2:Value),(.slice x10.2.1 (((Qag p cut).ticks).length) x10.2.2:Value) ]) (cs':=(vc ((Qag p cut).known))++[(.slice x10.1.1 (((Qag p cut).ents).length) x10.1.2:Value),(.slice x10.2.1 (((Qag p cut).ticks).length) x10.2.2:Value) ]) QcD.1 hs 6 rfl rfl rfl rfl rfl (QQ8 rfl) (QbQ (Qcv _) (Qaw rfl (Qaw rfl Qbg))) (QaC rfl) fun w13 hs=>(Qaa (Qad (V:=I6 (Qbc p cut)) rfl (Qaf (Qah (Qan (Qah (Qab (Qaa (Qac (V:=I6 (Qbc p cut)) rfl (Qaa (Qch rfl rfl (Qaa (Qad (V:=.bool (!decide (Qbc p cut=0))) rfl (Qaf (Qao (t:=!decide (Qbc p cut=0)) rfl (fun c14=>?_) (fun c14=>?_)))))))))))))))))))))))))
 ·
  replace c14:=Qbp c14
  replace c14:=QQ2 c14
  refine Qah (Qab (Qaa (Qac (V:=I6 (Qbc p cut)) rfl (Qaa (Qad (V:=.slice none 0 0) rfl (Qaa (Qad (V:=I6 (Qbc p cut)) rfl (Qaf (Qav ?_)))))))))
  refine ⟨_,Qbq (U:=.slice none 0 0) (V:=I6 (Qbc p cut)) Tryz.results25 rfl rfl,?_⟩
  have hX:abI p cut now idle=Qbc p cut:=Qs4 c14
  rw [Qo2 (by rw [hX];exact c14),hX]
  exact ⟨(none,0),rfl,(hs.take 0).more _ (Qbk _ _ _ _),trivial⟩
 replace c14:=Qbf c14
 replace c14:=QQ1 c14
 refine Qah (Qab (Qaa (QaE (V:=.int .u32 idle) QaY hs 3 rfl rfl rfl (Qaa (QaE (V:=.int .u32 now) QaY hs 2 rfl rfl rfl (Qaa (QbP rfl rfl (Qaa (Qad (V:=.bool (decide (now<idle))) rfl (Qaf (Qao (t:=decide (now<idle)) rfl (fun c15=>?_) (fun c15=>?_))))))))))))
 ·
  replace c15:=QQ1 c15
  refine Qah (Qab (Qaa (Qad (V:=.slice none 0 0) rfl (Qaa (Qad (V:=I6 2) rfl (Qaf (Qav ?_)))))))
  refine ⟨_,Qbq (U:=.slice none 0 0) (V:=I6 2) Tryz.results25 rfl rfl,?_⟩
  have hX:abI p cut now idle=2:=QsK c14 c15
  rw [Qo2 (by rw [hX];decide),hX]
  exact ⟨(none,0),rfl,(hs.take 0).more _ (Qbk _ _ _ _),trivial⟩
 replace c15:=QQ2 c15
 refine Qaq (Qah ?_)
 have hnow:0<=idle/\idle<=now/\now<4294967296:=by omega
 refine Qab (Qaa (QaJ (cs:=(vc ((Qag p cut).known))++[(.slice x10.1.1 (((Qag p cut).ents).length) x10.1.2:Value),(.slice x10.2.1 (((Qag p cut).ticks).length) x10.2.2:Value) ]) QcD hs 6 rfl rfl rfl (Qaa (Qbo (vs:=[.agg ((vc ((Qag p cut).known))++[(.slice x10.1.1 (((Qag p cut).ents).length) x10.1.2:Value),(.slice x10.2.1 (((Qag p cut).ticks).length) x10.2.2:Value) ]).toArray]) (V:=fun x:Option Addr × Nat=>.slice x.1 (Qaz (Qag p cut)).length x.2) Qsq rfl rfl (Qh1 _ (Qag p cut) x10.1.1 x10.1.2 x10.2.1 x10.2.2 hso (by omega) (by omega) (hs.rd 4 rfl) (hs.rd 5 rfl)) hs fun x16 w17 hs _=>?_))))
 replace hs:Own w no w17 [blk b1 (((vc p.base.known)++[(.slice a1 p.base.ents.length c1:Value),(.slice a2 p.base.ticks.length c2:Value) ])++[(.slice a3 p.ops.length c3:Value) ]++(vc p.known)) 43,blk b3 (vc cut) 24,blk b5 [.int .u32 now] 22,blk b7 [.int .u32 idle] 22,row (.slice x10.1.1 (((Qag p cut).ents).length) x10.1.2) (((Qag p cut).ents).map cec) 106 7,row (.slice x10.2.1 (((Qag p cut).ticks).length) x10.2.2) (((Qag p cut).ticks).map lsc) 102 2,blk b11 ((vc ((Qag p cut).known))++[(.slice x10.1.1 (((Qag p cut).ents).length) x10.1.2:Value),(.slice x10.2.1 (((Qag p cut).ticks).length) x10.2.2:Value) ]) 38,row (.slice x16.1 ((Qaz (Qag p cut)).length) x16.2) ((Qaz (Qag p cut)).map (ic .u16)) 32 1]:=hs
 refine Qaa (Qdt (cs:=[Pq b11 0,Pq b5 0,Pq b7 0]) rfl rfl (Qaa (Qjl (α:=Unit) (vs:=[.slice x16.1 ((Qaz (Qag p cut)).length) x16.2,.func (.func 68) #[] #[Pq b11 0,Pq b5 0,Pq b7 0]]) (V:=fun _=>.slice x16.1 ((Qaz (Qag p cut)).filter fun x=>!(fun n=>Qc5 (QaZ p cut n) now idle) x).length x16.2) (R:=row (.slice x16.1 ((Qaz (Qag p cut)).length) x16.2) ((Qaz (Qag p cut)).map (ic .u16)) 32 1) (R':=fun _=>row (.slice x16.1 ((Qaz (Qag p cut)).filter fun x=>!(fun n=>Qc5 (QaZ p cut n) now idle) x).length x16.2) (((Qaz (Qag p cut)).filter fun x=>!(fun n=>Qc5 (QaZ p cut n) now idle) x).map (ic .u16)) 32 1) (Lo:=fun _=>[]) (F:=fun _ _=>True) QvG rfl rfl hs 7 rfl (fun S hS hlS hK=>Qpa _ S x16.1 x16.2 (Qaz (Qag p cut)) 68 [Pq b11 0,Pq b5 0,Pq b7 0] Qvl (fun n=>Qc5 (QaZ p cut n) now idle) (fun w1 L1 h x hx=>Qsm w1 x b11 b5 b7 (Qag p cut) x10.1.1 x10.1.2 x10.2.1 x10.2.2 now idle hnow hso (by omega) (by omega) ((hK 6 (by decide) _ rfl).cells h) ((hK 2 (by decide) _ rfl).cells h) ((hK 3 (by decide) _ rfl).cells h) ((hK 4 (by decide) _ rfl).rd h) ((hK 5 (by decide) _ rfl).rd h)) hS hlS) fun _ w18 hs _=>(Qaa (Qad (V:=.slice x16.1 (((Qaz (Qag p cut)).filter fun x=>!(fun n=>Qc5 (QaZ p cut n) now idle) x).length) x16.2) rfl (Qaa (Qad (V:=I6 0) rfl (Qaf (Qav ?_)))))))))
 refine ⟨_,Qbq (U:=.slice x16.1 (((Qaz (Qag p cut)).filter fun x=>!(fun n=>Qc5 (QaZ p cut n) now idle) x).length) x16.2) (V:=I6 0) Tryz.results25 rfl rfl,?_⟩
 have hX:abI p cut now idle=0:=Qqi c14 c15
 rw [Qnt hX,hX]
 exact ⟨(x16.1,x16.2),rfl,hs.only 7 rfl,trivial⟩
end Tt
end Go.Proofs
namespace Go.Proofs
open Go Go.Vx Go.RowKit
namespace Tt
theorem QkM (w:World) (p:Pst) (a1:Option Addr) (c1:Nat) (a2:Option Addr) (c2:Nat) (a3:Option Addr) (c3:Nat) (hok:QcW p) (hr1:Rd w (.slice a1 p.base.ents.length c1) 7 (p.base.ents.map cec)) (hr2:Rd w (.slice a2 p.base.ticks.length c2) 2 (p.base.ticks.map lsc)) (hr3:Rd w (.slice a3 p.ops.length c3) 23 (p.ops.map oc)):Calls Tryz.prog 62 #[.agg (((vc p.base.known)++[(.slice a1 p.base.ents.length c1:Value),(.slice a2 p.base.ticks.length c2:Value) ])++[(.slice a3 p.ops.length c3:Value) ]++(vc p.known)).toArray] w (fun e w'=>e = .returned (.bool (Qb2 p))/\Own w no w' []):=by
 refine Qaj (n:=52) Tryz.func62 rfl Tryz.ntmps62 rfl ?_
 have hs:=Own.start w
 have ⟨hokb,hoko,hokk⟩:=hok
 have hn3:=hr3.sml
 refine Qah (Qab (Qaa (QaR (V:=.agg (((vc p.base.known)++[(.slice a1 p.base.ents.length c1:Value),(.slice a2 p.base.ticks.length c2:Value) ])++[(.slice a3 p.ops.length c3:Value) ]++(vc p.known)).toArray) (cs:=((vc p.base.known)++[(.slice a1 p.base.ents.length c1:Value),(.slice a2 p.base.ticks.length c2:Value) ])++[(.slice a3 p.ops.length c3:Value) ]++(vc p.known)) rfl rfl hs fun b1 w2 hs=>(Qaa (Qad (V:=.bool false) rfl (Qaf (Qah (Qah (Qab (Qaa (Qad (V:=I6 0) rfl (Qaf (Qan (QaA (fun J μ J' w'=>∃ (Jo:Env) (k:Nat),J'=upd (mix (sq 2 47) Jo J) 3 (I6 (k:Int))/\(k<=p.ops.length)/\(∀ j:Nat,j<k->Qhv p.base.known p.ops j=false)/\μ=p.ops.length-k/\Own w no w' [blk b1 (((vc p.base.known)++[(.slice a1 p.base.ents.length c1:Value),(.slice a2 p.base.ticks.length c2:Value) ])++[(.slice a3 p.ops.length c3:Value) ]++(vc p.known)) 31]) ?_ ?_))))))))))))))
 ·exact ⟨_,_,0,Qai (Qap (ds:=(sq 2 47)) (Agr.refl _ _)) rfl,(by omega),(fun j hj=>absurd hj (Nat.not_lt_zero j)),rfl,hs⟩
 rintro μ J' w3 ⟨Jo,k,rfl,hk,hbo,rfl,hs⟩
 refine Qah (Qah (Qab (Qaa (Qac (V:=I6 (k:Int)) rfl (Qaa (Qae Qd2 rfl (Qaa (QaE (V:=.slice a3 p.ops.length c3) Qfh hs 0 rfl rfl rfl (Qaa (Qa4 (n:=p.ops.length) QdK (Rd.own' hr3 hs) (by simp) rfl (Qaa (QaQ rfl rfl (Qaf (Qao (t:=decide ((k:Int)<((p.ops.length:Nat):Int))) rfl (fun c4=>?_) (fun c4=>?_)))))))))))))))
 ·
  replace c4:=QQ1 c4
  refine Qaq (Qah (Qan (Qah (Qah ?_))))
  have hOk:=hoko _ (QbK (l:=p.ops) (i:=k) (by omega))
  have hdk:=hOk.1
  refine QaH HM [some 12,some 13,some 14,some 15,some 16,some 17,some 18,some 19,some 20,some 21,some 22,some 23,some 24,some 25,some 26,some 27,some 28,some 29,some 30] [] [0,1,0,7,15,31,63,127,255,511,1023,255,2303,255,14591,30975,63743,131071,262143] [pv (Pq b1 (0+18)),pv (.slice a3 p.ops.length c3),pv (I6 (k:Int)),pv (.pointer (some ⟨bkS (.slice a3 p.ops.length c3),ofS (.slice a3 p.ops.length c3)+(k:Int).toNat*23,none⟩)),pv (.agg (oc (gd p.ops k)).toArray),pv (.bool (QaN (gd p.ops k) 16)),pv (.bool (!(QaN (gd p.ops k) 16))),pv (.bool (!(QaN (gd p.ops k) 16))),pg ((!(QaN (gd p.ops k) 16)) == false) (Pq b1 (0+0)),pg ((!(QaN (gd p.ops k) 16)) == false) (Pq b1 (0+0+0)),pg ((!(QaN (gd p.ops k) 16)) == false) (.agg (vc p.base.known).toArray),pg ((!(QaN (gd p.ops k) 16)) == false) (Pq b1 (0+18)),pg ((!(QaN (gd p.ops k) 16)) == false) (.slice a3 p.ops.length c3),pg ((!(QaN (gd p.ops k) 16)) == false) (I6 (k:Int)),pg ((!(QaN (gd p.ops k) 16)) == false) (.pointer (some ⟨bkS (.slice a3 p.ops.length c3),ofS (.slice a3 p.ops.length c3)+(k:Int).toNat*23,none⟩)),pg ((!(QaN (gd p.ops k) 16)) == false) (.pointer (some ⟨bkS (.slice a3 p.ops.length c3),ofS (.slice a3 p.ops.length c3)+(k:Int).toNat*23+0,none⟩)),pg ((!(QaN (gd p.ops k) 16)) == false) (.agg (dc ((gd p.ops k).dot)).toArray),pg ((!(QaN (gd p.ops k) 16)) == false) (.bool (Qby p.base.known ((gd p.ops k).dot))),pv (.bool ((!(QaN (gd p.ops k) 16))||(Qby p.base.known ((gd p.ops k).dot))))] (fun _ _=>_) [18] (by kernel_rfl) hs ⟨?_,?_,?_,?_,?_,?_,?_,?_,?_,?_,?_,?_,?_,?_,?_,?_,?_,?_,?_,trivial⟩ ?_
  ·exact oa [] fun D J w hs=>Qae Qd2 rfl (Zz hs)
  ·exact oa [0] fun D J w hs=>QaE (V:=.slice a3 p.ops.length c3) Qfh hs 0 rfl rfl rfl (Zz hs)
  ·exact oa [] fun D J w hs=>Qac (V:=.int .i64 (k:Int)) rfl (Zz hs)
  ·exact oa [1,2] fun D J w hs=>Qax QdK QbY.1 (Rd.own' hr3 hs) rfl rfl (by omega) (by rw [QQ6];omega) (Zz hs)
  ·exact oa [3] fun D J w hs=>Qa5 (j:=0) (vs:=oc (gd p.ops k)) k QbY (Rd.own' hr3 hs) (QaW (by omega)) rfl rfl rfl (by omega) (Zz hs)
  ·exact oa [4] fun D J w hs=>Qat (vs:=[.agg (oc (gd p.ops k)).toArray,.int .i64 16]) (V:=.bool (QaN (gd p.ops k) 16)) QsD rfl rfl (Qlc _ (gd p.ops k) 16 (hoko _ (QbK (by omega)))) hs fun _ hs=>Zz hs
  ·exact oa [5] fun D J w hs=>Qbw rfl (Zz hs)
  ·exact oa [6] fun D J w hs=>Qac (V:=.bool (!(QaN (gd p.ops k) 16))) rfl (Zz hs)
  ·exact og [7] fun D J w hG hs=>Qae QdZ rfl (Zz hs)
  ·exact oy [7,8] [8] fun D J w hG hs=>Qae Qgz rfl (Zz hs)
  ·exact oy [7,9] [9] fun D J w hG hs=>QbU (vs:=vc p.base.known) QbB hs 0 rfl rfl rfl rfl (Zz hs)
  ·exact og [7] fun D J w hG hs=>Qae Qd2 rfl (Zz hs)
  ·exact oy [7,11] [11] fun D J w hG hs=>QaE (V:=.slice a3 p.ops.length c3) Qfh hs 0 rfl rfl rfl (Zz hs)
  ·exact og [7] fun D J w hG hs=>Qac (V:=.int .i64 (k:Int)) rfl (Zz hs)
  ·exact oy [7,12,13] [12,13] fun D J w hG hs=>Qax QdK QbY.1 (Rd.own' hr3 hs) rfl rfl (by omega) (by rw [QQ6];omega) (Zz hs)
  ·exact oy [7,14] [14] fun D J w hG hs=>Qae Qb0 rfl (Zz hs)
  ·exact oy [7,15] [15] fun D J w hG hs=>Qa5 (j:=0) (vs:=dc ((gd p.ops k).dot)) k QcL (Rd.own' hr3 hs) (QaW (by omega)) rfl rfl rfl (by omega) (Zz hs)
  ·exact oy [7,10,16] [10,16] fun D J w hG hs=>Qat (vs:=[.agg (vc p.base.known).toArray,.agg (dc ((gd p.ops k).dot)).toArray]) (V:=.bool (Qby p.base.known ((gd p.ops k).dot))) Qpg rfl rfl (Qho _ p.base.known ((gd p.ops k).dot) (by first|assumption|exact Qde (by omega) (by omega) (by omega) (by omega))) hs fun _ hs=>Zz hs
  ·exact oa [7,17] fun D J w hs=>QbZ (h':=Qby p.base.known ((gd p.ops k).dot)) rfl rfl rfl (Zz hs)
  rintro J1 w7 J2 hJ hs
  replace hJ:J2=upd (mix (sq 12 19) J1 _) 30 (.bool ((!(QaN (gd p.ops k) 16))||(Qby p.base.known ((gd p.ops k).dot)))):=hJ
  subst hJ
  refine Qao (t:=(!(QaN (gd p.ops k) 16))||(Qby p.base.known ((gd p.ops k).dot))) rfl (fun c8=>?_) (fun c8=>?_)
  ·
   refine Qah (Qab (Qaa (Qad (V:=.bool false) rfl (Qaf (Qav ?_)))))
   refine ⟨_,Qar (V:=.bool false) Tryz.results62 rfl,(Zr hs (congrArg Value.bool (Qeb (i:=k) (by omega) ?_).symm))⟩
   have hq:=c8
   unfold Qhv
   rw [hq,Bool.true_or]
  have c8r:=Qfe c8
  replace c8:=Qfk c8
  replace c8:=Qbf c8
  refine Qaq (Qah (Qab (Qaa (Qad (V:=I6 0) rfl (Qaf (Qan ?_))))))
  have hz1:(!QaN (gd p.ops k) 16||Qby p.base.known (gd p.ops k).dot)=false:=by rw [c8,c8r];rfl
  refine QaA (fun J μ J' w'=>∃ (Jo:Env) (k2:Nat),J'=upd (mix ([2,4]++sq 31 18) Jo J) 4 (I6 (k2:Int))/\(k2<=k)/\(∀ j:Nat,j<k2->decide ((gd p.ops j).dot=(gd p.ops k).dot)=false)/\μ=k-k2/\Own w no w' [blk b1 (((vc p.base.known)++[(.slice a1 p.base.ents.length c1:Value),(.slice a2 p.base.ticks.length c2:Value) ])++[(.slice a3 p.ops.length c3:Value) ]++(vc p.known)) 31]) ?_ ?_
  ·exact ⟨_,_,0,Qai (Qap (ds:=([2,4]++sq 31 18)) (Agr.refl _ _)) rfl,(by omega),(fun j hj=>absurd hj (Nat.not_lt_zero j)),rfl,hs⟩
  rintro μ J' w9 ⟨Jo,k2,rfl,hk2,hdd,rfl,hs⟩
  refine Qah (Qah (Qab (Qaa (Qac (V:=I6 (k2:Int)) rfl (Qaa (Qac (V:=I6 (k:Int)) rfl (Qaa (QaQ rfl rfl (Qaf (Qao (t:=decide ((k2:Int)<(k:Int))) rfl (fun c10=>?_) (fun c10=>?_)))))))))))
  ·
   replace c10:=QQ1 c10
   refine Qaq (Qah (Qan (Qah (QaH HM [some 36,some 37,some 38,some 39,some 40,some 41,some 42,some 43,some 44,some 45,some 46,some 47,some 48] [] [0,1,0,7,15,31,0,64,0,448,960,1984,4095] [pv (Pq b1 (0+18)),pv (.slice a3 p.ops.length c3),pv (I6 (k2:Int)),pv (.pointer (some ⟨bkS (.slice a3 p.ops.length c3),ofS (.slice a3 p.ops.length c3)+(k2:Int).toNat*23,none⟩)),pv (.pointer (some ⟨bkS (.slice a3 p.ops.length c3),ofS (.slice a3 p.ops.length c3)+(k2:Int).toNat*23+0,none⟩)),pv (.agg (dc ((gd p.ops k2).dot)).toArray),pv (Pq b1 (0+18)),pv (.slice a3 p.ops.length c3),pv (I6 (k:Int)),pv (.pointer (some ⟨bkS (.slice a3 p.ops.length c3),ofS (.slice a3 p.ops.length c3)+(k:Int).toNat*23,none⟩)),pv (.pointer (some ⟨bkS (.slice a3 p.ops.length c3),ofS (.slice a3 p.ops.length c3)+(k:Int).toNat*23+0,none⟩)),pv (.agg (dc ((gd p.ops k).dot)).toArray),pv (.bool (decide ((gd p.ops k2).dot=(gd p.ops k).dot)))] (fun _ _=>_) [12] (by kernel_rfl) hs ⟨?_,?_,?_,?_,?_,?_,?_,?_,?_,?_,?_,?_,?_,trivial⟩ ?_))))
   ·exact oa [] fun D J w hs=>Qae Qd2 rfl (Zz hs)
   ·exact oa [0] fun D J w hs=>QaE (V:=.slice a3 p.ops.length c3) Qfh hs 0 rfl rfl rfl (Zz hs)
   ·exact oa [] fun D J w hs=>Qac (V:=.int .i64 (k2:Int)) rfl (Zz hs)
   ·exact oa [1,2] fun D J w hs=>Qax QdK QbY.1 (Rd.own' hr3 hs) rfl rfl (by omega) (by rw [QQ6];omega) (Zz hs)
   ·exact oa [3] fun D J w hs=>Qae Qb0 rfl (Zz hs)
   ·exact oa [4] fun D J w hs=>Qa5 (j:=0) (vs:=dc ((gd p.ops k2).dot)) k2 QcL (Rd.own' hr3 hs) (QaW (by omega)) rfl rfl rfl (by omega) (Zz hs)
   ·exact oa [] fun D J w hs=>Qae Qd2 rfl (Zz hs)
   ·exact oa [6] fun D J w hs=>QaE (V:=.slice a3 p.ops.length c3) Qfh hs 0 rfl rfl rfl (Zz hs)
   ·exact oa [] fun D J w hs=>Qac (V:=.int .i64 (k:Int)) rfl (Zz hs)
   ·exact oa [7,8] fun D J w hs=>Qax QdK QbY.1 (Rd.own' hr3 hs) rfl rfl (by omega) (by rw [QQ6];omega) (Zz hs)
   ·exact oa [9] fun D J w hs=>Qae Qb0 rfl (Zz hs)
   ·exact oa [10] fun D J w hs=>Qa5 (j:=0) (vs:=dc ((gd p.ops k).dot)) k QcL (Rd.own' hr3 hs) (QaW (by omega)) rfl rfl rfl (by omega) (Zz hs)
   ·exact oa [5,11] fun D J w hs=>Qpd (xs:=dc ((gd p.ops k2).dot)) (ys:=dc ((gd p.ops k).dot)) Tryz.eqGuardType96 (QqT ((gd p.ops k2).dot) ((gd p.ops k).dot)) rfl rfl rfl (Zz hs)
   rintro J1 w11 J2 hJ hs
   replace hJ:J2=upd (mix (sq 36 13) J1 _) 48 (.bool (decide ((gd p.ops k2).dot=(gd p.ops k).dot))):=hJ
   subst hJ
   refine Qao (t:=decide ((gd p.ops k2).dot=(gd p.ops k).dot)) rfl (fun c12=>?_) (fun c12=>?_)
   ·
    replace c12:=QQ1 c12
    refine Qah (Qab (Qaa (Qad (V:=.bool false) rfl (Qaf (Qav ?_)))))
    refine ⟨_,Qar (V:=.bool false) Tryz.results62 rfl,(Zr hs ?_)⟩
    exact congrArg Value.bool (Qeb (i:=k) (by omega) (QnV (j:=k2) (by omega) (by omega) c12)).symm
   replace c12:=QQ2 c12
   refine Qaq (Qab (Qaa (Qac (V:=I6 (k2:Int)) rfl (Qaa (QaD (a:=(k2:Int)) (b:=1) (c:=((k2+1:Nat):Int)) rfl rfl (Qak (by omega) (by omega)) (Qaa (Qad (V:=I6 ((k2+1:Nat):Int)) rfl (Qaf ?_))))))))
   refine ⟨_,?_,_,k2+1,Qai (Qap (ds:=([2,4]++sq 31 18)) (by repeat (first|exact Agr.refl _ _|refine Agr.upd ?_ rfl|refine Agr.mix ?_ rfl))) rfl,(by omega),(Qcb hdd (QQ4 c12)),rfl,hs.take 1⟩
   omega
  replace c10:=QQ2 c10
  refine QaG (Qab (Qaa (Qac (V:=I6 (k:Int)) rfl (Qaa (QaD (a:=(k:Int)) (b:=1) (c:=((k+1:Nat):Int)) rfl rfl (Qak (by omega) (by omega)) (Qaa (Qad (V:=I6 ((k+1:Nat):Int)) rfl (Qaf ?_))))))))
  refine ⟨_,?_,_,k+1,Qai (Qap (ds:=(sq 2 47)) (by repeat (first|exact Agr.refl _ _|refine Agr.upd ?_ rfl|refine Agr.mix ?_ rfl))) rfl,(by omega),(Qcb hbo (Qrm (by omega) hz1 fun j hj=>hdd j (by omega))),rfl,hs.take 1⟩
  omega
 replace c4:=QQ2 c4
 refine QaG (Qah (Qab (Qaa (Qae QdZ rfl (Qaa (QbU (vs:=(vc p.base.known)++[(.slice a1 p.base.ents.length c1:Value),(.slice a2 p.base.ticks.length c2:Value) ]) Qez hs 0 rfl rfl rfl rfl (Qaa (Qat (vs:=[.agg ((vc p.base.known)++[(.slice a1 p.base.ents.length c1:Value),(.slice a2 p.base.ticks.length c2:Value) ]).toArray]) (V:=.bool (Qam p.base)) Qqg rfl rfl ?hc hs fun w13 hs=>?_))))))))
 case hc=>exact (QgV _ p.base a1 c1 a2 c2 hokb (Rd.own' hr1 hs) (Rd.own' hr2 hs))
 refine Qaa (Qad (V:=.bool (Qam p.base)) rfl (Qaf (Qav ?_)))
 refine ⟨_,Qar (V:=.bool (Qam p.base)) Tryz.results62 rfl,(Zr hs ?_)⟩
 exact congrArg Value.bool (Qgq fun j hj=>hbo j (by omega)).symm
theorem Qry (w:World) (p:Pst) (a1:Option Addr) (c1:Nat) (a2:Option Addr) (c2:Nat) (a3:Option Addr) (c3:Nat) (cut:Vec) (hcut:QbW cut) (hok:QcW p) (hr1:Rd w (.slice a1 p.base.ents.length c1) 7 (p.base.ents.map cec)) (hr2:Rd w (.slice a2 p.base.ticks.length c2) 2 (p.base.ticks.map lsc)) (hr3:Rd w (.slice a3 p.ops.length c3) 23 (p.ops.map oc)):Calls Tryz.prog 18 #[.agg (((vc p.base.known)++[(.slice a1 p.base.ents.length c1:Value),(.slice a2 p.base.ticks.length c2:Value) ])++[(.slice a3 p.ops.length c3:Value) ]++(vc p.known)).toArray,.agg (vc cut).toArray] w (fun e w'=>e = .returned (.int .i64 (Qbc p cut))/\Own w no w' []):=by
 refine Qaj (n:=26) Tryz.func18 rfl Tryz.ntmps18 rfl ?_
 have hs:=Own.start w
 have ⟨hokb,hoko,hokk⟩:=hok
 refine Qah (Qab (Qaa (QaR (V:=.agg (((vc p.base.known)++[(.slice a1 p.base.ents.length c1:Value),(.slice a2 p.base.ticks.length c2:Value) ])++[(.slice a3 p.ops.length c3:Value) ]++(vc p.known)).toArray) (cs:=((vc p.base.known)++[(.slice a1 p.base.ents.length c1:Value),(.slice a2 p.base.ticks.length c2:Value) ])++[(.slice a3 p.ops.length c3:Value) ]++(vc p.known)) rfl rfl hs fun b1 w2 hs=>(Qaa (QaR (V:=.agg (vc cut).toArray) (cs:=vc cut) rfl rfl hs fun b3 w4 hs=>(Qaa (Qad (V:=I6 0) rfl (Qaf (Qah (Qan (Qah (Qab (Qaa (QaJ (cs:=((vc p.base.known)++[(.slice a1 p.base.ents.length c1:Value),(.slice a2 p.base.ticks.length c2:Value) ])++[(.slice a3 p.ops.length c3:Value) ]++(vc p.known)) QkB hs 0 rfl rfl rfl (Qaa (Qat (vs:=[.agg (((vc p.base.known)++[(.slice a1 p.base.ents.length c1:Value),(.slice a2 p.base.ticks.length c2:Value) ])++[(.slice a3 p.ops.length c3:Value) ]++(vc p.known)).toArray]) (V:=.bool (Qb2 p)) QvB rfl rfl ?hc hs fun w5 hs=>?_))))))))))))))))
 case hc=>exact (QkM _ p a1 c1 a2 c2 a3 c3 hok (Rd.own' hr1 hs) (Rd.own' hr2 hs) (Rd.own' hr3 hs))
 refine Qaa (Qbw rfl (Qaa (Qad (V:=.bool (!(Qb2 p))) rfl (Qaf (Qao (t:=!(Qb2 p)) rfl (fun c6=>?_) (fun c6=>?_))))))
 ·
  replace c6:=Qbp c6
  refine Qah (Qab (Qaa (Qad (V:=I6 2) rfl (Qaf (Qav ?_)))))
  refine ⟨_,Qar (V:=I6 2) Tryz.results18 rfl,(Zr hs (congrArg (Value.int .i64) ?_))⟩
  unfold Qbc
  rw [c6];rfl
 replace c6:=Qbf c6
 refine Qah (Qab (Qaa (QaJ (cs:=vc cut) QbB hs 1 rfl rfl rfl (Qaa (Qat (vs:=[.agg (vc cut).toArray,I6 16]) (V:=.bool (QaL cut 16)) QqE rfl rfl ?hc hs fun w7 hs=>?_)))))
 case hc=>exact (Qf5 _ cut 16 (by first|assumption|exact Qb1))
 refine Qaa (Qbw rfl (Qaa (Qad (V:=.bool (!(QaL cut 16))) rfl (Qaf (Qao (t:=!(QaL cut 16)) rfl (fun c8=>?_) (fun c8=>?_))))))
 ·
  replace c8:=Qbp c8
  refine Qah (Qab (Qaa (Qad (V:=I6 13) rfl (Qaf (Qav ?_)))))
  refine ⟨_,Qar (V:=I6 13) Tryz.results18 rfl,(Zr hs (congrArg (Value.int .i64) ?_))⟩
  unfold Qbc
  rw [c6,c8];rfl
 replace c8:=Qbf c8
 refine Qah (Qab (Qaa (QaJ (cs:=vc cut) QbB hs 1 rfl rfl rfl (Qaa (Qae QmE rfl (Qaa (QbU (vs:=vc p.known) QbB hs 0 rfl rfl rfl rfl (Qaa (Qat (vs:=[.agg (vc cut).toArray,.agg (vc p.known).toArray]) (V:=.bool (vle cut p.known)) Qts rfl rfl ?hc hs fun w9 hs=>?_)))))))))
 case hc=>exact (Qit _ cut p.known)
 refine Qaa (Qbw rfl (Qaa (Qad (V:=.bool (!(vle cut p.known))) rfl (Qaf (Qao (t:=!(vle cut p.known)) rfl (fun c10=>?_) (fun c10=>?_))))))
 ·
  replace c10:=Qbp c10
  refine Qah (Qab (Qaa (Qad (V:=I6 11) rfl (Qaf (Qav ?_)))))
  refine ⟨_,Qar (V:=I6 11) Tryz.results18 rfl,(Zr hs (congrArg (Value.int .i64) ?_))⟩
  unfold Qbc
  rw [c6,c8,c10];rfl
 replace c10:=Qbf c10
 refine Qah (Qab (Qaa (Qae QdZ rfl (Qaa (Qae Qgz rfl (Qaa (QbU (vs:=vc p.base.known) QbB hs 0 rfl rfl rfl rfl (Qaa (QaJ (cs:=vc cut) QbB hs 1 rfl rfl rfl (Qaa (Qat (vs:=[.agg (vc p.base.known).toArray,.agg (vc cut).toArray]) (V:=.bool (vle p.base.known cut)) Qts rfl rfl ?hc hs fun w11 hs=>?_)))))))))))
 case hc=>exact (Qit _ p.base.known cut)
 refine Qaa (Qbw rfl (Qaa (Qad (V:=.bool (!(vle p.base.known cut))) rfl (Qaf (Qao (t:=!(vle p.base.known cut)) rfl (fun c12=>?_) (fun c12=>?_))))))
 ·
  replace c12:=Qbp c12
  refine Qah (Qab (Qaa (Qad (V:=I6 12) rfl (Qaf (Qav ?_)))))
  refine ⟨_,Qar (V:=I6 12) Tryz.results18 rfl,(Zr hs (congrArg (Value.int .i64) ?_))⟩
  unfold Qbc
  rw [c6,c8,c10,c12];rfl
 replace c12:=Qbf c12
 refine Qaq (Qah (Qab (Qaa (Qad (V:=I6 0) rfl (Qaf (Qav ?_))))))
 refine ⟨_,Qar (V:=I6 0) Tryz.results18 rfl,(Zr hs (congrArg (Value.int .i64) ?_))⟩
 unfold Qbc
 rw [c6,c8,c10,c12];rfl
end Tt
end Go.Proofs
namespace Go.Proofs
open Go Go.Vx Go.RowKit
namespace Tt
theorem Qko (w:World) (a:Option Addr) (c:Nat) (l:List Opn) (o:Opn) (he:QcU o.dot) (hr:Rd w (.slice a l.length c) 23 (l.map oc)):Calls Tryz.prog 52 #[.slice a l.length c,.agg (oc o).toArray] w (fun e w'=>e = .returned (.bool (l.any fun x=>QaU x o))/\Own w no w' []):=by
 refine Qaj (n:=18) Tryz.func52 rfl Tryz.ntmps52 rfl ?_
 have hs:=Own.start w
 have hn:=hr.sml
 refine Qah (Qab (Qaa (QaR (V:=.agg (oc o).toArray) (cs:=oc o) rfl rfl hs fun b1 w2 hs=>(Qaa (Qad (V:=.bool false) rfl (Qaf (Qah (Qah (Qab (Qaa (Qad (V:=I6 0) rfl (Qaf (Qan (QaA (fun J μ J' w'=>∃ (Jo:Env) (k:Nat),J'=upd (mix (sq 4 14) Jo J) 5 (I6 (k:Int))/\(k<=l.length)/\(∀ j:Nat,j<k->QaU (gd l j) o=false)/\μ=l.length-k/\Own w no w' [blk b1 (oc o) 98]) ?_ ?_))))))))))))))
 ·exact ⟨_,_,0,Qai (Qap (ds:=(sq 4 14)) (Agr.refl _ _)) rfl,(by omega),(fun j hj=>absurd hj (Nat.not_lt_zero j)),rfl,hs⟩
 rintro μ J' w3 ⟨Jo,k,rfl,hk,hno,rfl,hs⟩
 refine Qah (Qah (Qab (Qaa (Qac (V:=I6 (k:Int)) rfl (Qaa (Qac (V:=.slice a l.length c) rfl (Qaa (Qa4 (n:=l.length) QdK (Rd.own' hr hs) (by simp) rfl (Qaa (QaQ rfl rfl (Qaf (Qao (t:=decide ((k:Int)<((l.length:Nat):Int))) rfl (fun c4=>?_) (fun c4=>?_)))))))))))))
 ·
  replace c4:=QQ1 c4
  refine Qaq (Qah (Qan (Qah (QaH HM [some 12,some 13,some 14,some 15,some 16,some 17] [] [0,0,3,7,0,31] [pv (.slice a l.length c),pv (I6 (k:Int)),pv (.pointer (some ⟨bkS (.slice a l.length c),ofS (.slice a l.length c)+(k:Int).toNat*23,none⟩)),pv (.agg (oc (gd l k)).toArray),pv (.agg (oc o).toArray),pv (.bool (QaU (gd l k) o))] (fun _ _=>_) [5] (by kernel_rfl) hs ⟨?_,?_,?_,?_,?_,?_,trivial⟩ ?_))))
  ·exact oa [] fun D J w hs=>Qac (V:=.slice a l.length c) rfl (Zz hs)
  ·exact oa [] fun D J w hs=>Qac (V:=.int .i64 (k:Int)) rfl (Zz hs)
  ·exact oa [0,1] fun D J w hs=>Qax QdK QbY.1 (Rd.own' hr hs) rfl rfl (by omega) (by rw [QQ6];omega) (Zz hs)
  ·exact oa [2] fun D J w hs=>Qa5 (j:=0) (vs:=oc (gd l k)) k QbY (Rd.own' hr hs) (QaW (by omega)) rfl rfl rfl (by omega) (Zz hs)
  ·exact oa [] fun D J w hs=>QaJ (cs:=oc o) QbY hs 0 rfl rfl rfl (Zz hs)
  ·exact oa [3,4] fun D J w hs=>Qat (vs:=[.agg (oc (gd l k)).toArray,.agg (oc o).toArray]) (V:=.bool (QaU (gd l k) o)) QuF rfl rfl (QnN _ (gd l k) o (by assumption)) hs fun _ hs=>Zz hs
  rintro J1 w6 J2 hJ hs
  replace hJ:J2=upd (mix (sq 12 6) J1 _) 17 (.bool (QaU (gd l k) o)):=hJ
  subst hJ
  refine Qao (t:=QaU (gd l k) o) rfl (fun c7=>?_) (fun c7=>?_)
  ·
   refine Qah (Qab (Qaa (Qad (V:=.bool true) rfl (Qaf (Qav ?_)))))
   refine ⟨_,Qar (V:=.bool true) Tryz.results52 rfl,(Zr hs ?_)⟩
   exact congrArg Value.bool (Qth (p:=fun x=>QaU x o) (k:=k) (by omega) c7).symm
  refine Qaq (Qab (Qaa (Qac (V:=I6 (k:Int)) rfl (Qaa (QaD (a:=(k:Int)) (b:=1) (c:=((k+1:Nat):Int)) rfl rfl (Qak (by omega) (by omega)) (Qaa (Qad (V:=I6 ((k+1:Nat):Int)) rfl (Qaf ?_))))))))
  refine ⟨_,?_,_,k+1,Qai (Qap (ds:=(sq 4 14)) (by repeat (first|exact Agr.refl _ _|refine Agr.upd ?_ rfl|refine Agr.mix ?_ rfl))) rfl,(by omega),(Qcb hno c7),rfl,hs.take 1⟩
  omega
 replace c4:=QQ2 c4
 refine QaG (Qah (Qab (Qaa (Qad (V:=.bool false) rfl (Qaf (Qav ?_))))))
 refine ⟨_,Qar (V:=.bool false) Tryz.results52 rfl,(Zr hs ?_)⟩
 exact congrArg Value.bool (Qph (p:=fun x=>QaU x o) fun j hj=>hno j (by omega)).symm
end Tt
end Go.Proofs
namespace Go.Proofs
open Go Go.Vx Go.RowKit
namespace Tt
theorem QlI (w:World) (v:Vec) (a:Option Addr) (c:Nat) (l:List Opn) (hl:∀ o∈l,Qdg o) (hlen:l.length<=1000) (hr:Rd w (.slice a l.length c) 23 (l.map oc)):Calls Tryz.prog 35 #[.slice a l.length c,.agg (vc v).toArray] w (fun e w'=>∃ x:Option Addr × Nat,e = .returned (.slice x.1 (Qal l v).length x.2)/\Own w no w' [row (.slice x.1 (Qal l v).length x.2) ((Qal l v).map oc) 98 23]/\True):=by
 refine Qaj (n:=28) Tryz.func35 rfl Tryz.ntmps35 rfl ?_
 have hs:=Own.start w
 have hn:=hr.sml
 refine Qah (Qab (Qaa (QaR (V:=.agg (vc v).toArray) (cs:=vc v) rfl rfl hs fun b1 w2 hs=>(Qaa (Qad (V:=.slice none 0 0) rfl (Qaf (Qah (Qab (Qaa (Qad (V:=.slice none 0 0) rfl (Qaf (Qah (Qah (Qab (Qaa (Qad (V:=I6 0) rfl (Qaf (Qan ?_))))))))))))))))))
 replace hs:=hs.more (row (.slice none 0 0) (List.map oc []) 98 23) (Qbk _ _ _ _)
 refine QaA (fun J μ J' w'=>∃ (Jo:Env) (k:Nat) (an:Option Addr) (cn:Nat) (out:List Opn),J'=upd (upd (mix (sq 5 22) Jo J) 6 (I6 (k:Int))) 5 (.slice an out.length cn)/\(k<=l.length)/\(out.length<=k)/\(out=Qal (l.take k) v)/\μ=l.length-k/\Own w no w' [blk b1 (vc v) 24,row (.slice an out.length cn) (out.map oc) 98 23]) ?_ ?_
 ·exact ⟨_,_,0,none,0,[],Qai (Qai (Qap (ds:=(sq 5 22)) (Agr.refl _ _)) rfl) rfl,(by omega),(Nat.le_refl _),rfl,rfl,hs⟩
 rintro μ J' w3 ⟨Jo,k,an,cn,out,rfl,hk,hol,hout,rfl,hs⟩
 refine Qah (Qah (Qab (Qaa (Qac (V:=I6 (k:Int)) rfl (Qaa (Qac (V:=.slice a l.length c) rfl (Qaa (Qa4 (n:=l.length) QdK (Rd.own' hr hs) (by simp) rfl (Qaa (QaQ rfl rfl (Qaf (Qao (t:=decide ((k:Int)<((l.length:Nat):Int))) rfl (fun c4=>?_) (fun c4=>?_)))))))))))))
 ·
  replace c4:=QQ1 c4
  refine Qaq (Qah (Qan (Qah ?_)))
  have hok:=hl _ (QbK (l:=l) (i:=k) (by omega))
  have hdk:=hok.1
  refine QaH HM [some 13,some 14,some 15,some 16,some 17,some 18,some 19] [] [0,0,0,6,14,30,63] [pv (.agg (vc v).toArray),pv (.slice a l.length c),pv (I6 (k:Int)),pv (.pointer (some ⟨bkS (.slice a l.length c),ofS (.slice a l.length c)+(k:Int).toNat*23,none⟩)),pv (.pointer (some ⟨bkS (.slice a l.length c),ofS (.slice a l.length c)+(k:Int).toNat*23+0,none⟩)),pv (.agg (dc ((gd l k).dot)).toArray),pv (.bool (Qby v ((gd l k).dot)))] (fun _ _=>_) [6] (by kernel_rfl) hs ⟨?_,?_,?_,?_,?_,?_,?_,trivial⟩ ?_
  ·exact oa [] fun D J w hs=>QaJ (cs:=vc v) QbB hs 0 rfl rfl rfl (Zz hs)
  ·exact oa [] fun D J w hs=>Qac (V:=.slice a l.length c) rfl (Zz hs)
  ·exact oa [] fun D J w hs=>Qac (V:=.int .i64 (k:Int)) rfl (Zz hs)
  ·exact oa [1,2] fun D J w hs=>Qax QdK QbY.1 (Rd.own' hr hs) rfl rfl (by omega) (by rw [QQ6];omega) (Zz hs)
  ·exact oa [3] fun D J w hs=>Qae Qb0 rfl (Zz hs)
  ·exact oa [4] fun D J w hs=>Qa5 (j:=0) (vs:=dc ((gd l k).dot)) k QcL (Rd.own' hr hs) (QaW (by omega)) rfl rfl rfl (by omega) (Zz hs)
  ·exact oa [0,5] fun D J w hs=>Qat (vs:=[.agg (vc v).toArray,.agg (dc ((gd l k).dot)).toArray]) (V:=.bool (Qby v ((gd l k).dot))) Qpg rfl rfl (Qho _ v ((gd l k).dot) (by first|assumption|exact Qde (by omega) (by omega) (by omega) (by omega))) hs fun _ hs=>Zz hs
  rintro J1 w6 J2 hJ hs
  replace hJ:J2=upd (mix (sq 13 7) J1 _) 19 (.bool (Qby v ((gd l k).dot))):=hJ
  subst hJ
  refine Qao (t:=Qby v ((gd l k).dot)) rfl (fun c7=>?_) (fun c7=>?_)
  ·
   refine Qab (Qaa (Qac (V:=.slice an out.length cn) rfl (Qaa (Qac (V:=.slice a l.length c) rfl (Qaa (Qac (V:=I6 (k:Int)) rfl (Qaa (Qax QdK QbY.1 (Rd.own' hr hs) rfl rfl (by omega) (by rw [QQ6];omega) (Qaa (Qa5 (j:=0) (vs:=oc (gd l k)) k QbY (Rd.own' hr hs) (QaW (by omega)) rfl rfl rfl (by omega) (Qaa (Qfb (vals:=[.agg (oc (gd l k)).toArray]) (ls:=List.map oc ([gd l k]:List Opn)) QlA rfl rfl rfl (Qbd (enc:=oc) (fun _=>rfl) _) (QaK Qep _) (QQ8 rfl) hs fun b8 w9 hs=>(Qaa (Qb3 (ls':=(out++[gd l k]).map oc) (n:=(out++[gd l k]).length) QlA hs 1 rfl rfl rfl (hs.rd 2 rfl) (QaK Qep _) (by simp only [QQ6,QQ7,List.length_cons,List.length_nil];omega) (by simp) (by simp) fun a10 c10 w11 hs=>(Qaa (Qad (V:=.slice a10 ((out++[gd l k]).length) c10) rfl (Qaf (Qab (Qaa (Qac (V:=I6 (k:Int)) rfl (Qaa (QaD (a:=(k:Int)) (b:=1) (c:=(k:Int)+1) rfl rfl (QbH (by omega) (by omega)) (Qaa (Qad (V:=I6 ((k:Int)+1)) rfl (Qaf ?_)))))))))))))))))))))))))
   refine ⟨_,?_,_,k+1,a10,c10,out++[gd l k],Qai (Qai (Qap (ds:=(sq 5 22)) (by repeat (first|exact Agr.refl _ _|refine Agr.upd ?_ rfl|refine Agr.mix ?_ rfl))) rfl) rfl,(by omega),(by first|omega|(rw [QQ7,List.length_singleton];omega)),(Qgc hout (by omega) c7),rfl,hs.take 2⟩
   omega
  refine Qaq (Qab (Qaa (Qac (V:=I6 (k:Int)) rfl (Qaa (QaD (a:=(k:Int)) (b:=1) (c:=(k:Int)+1) rfl rfl (QbH (by omega) (by omega)) (Qaa (Qad (V:=I6 ((k:Int)+1)) rfl (Qaf ?_))))))))
  refine ⟨_,?_,_,k+1,an,cn,out,Qai (Qai (Qap (ds:=(sq 5 22)) (by repeat (first|exact Agr.refl _ _|refine Agr.upd ?_ rfl|refine Agr.mix ?_ rfl))) rfl) rfl,(by omega),(by first|omega|(rw [QQ7,List.length_singleton];omega)),(Qkc hout (by omega) c7),rfl,hs.take 2⟩
  omega
 replace c4:=QQ2 c4
 refine QaG (Qah (Qab (Qaa (Qac (V:=.slice an out.length cn) rfl (Qaa (Qad (V:=.slice an out.length cn) rfl (Qaf (Qav ?_))))))))
 refine ⟨_,Qar (V:=.slice an out.length cn) Tryz.results35 rfl,?_⟩
 have hX:out=Qal l v:=by rw [hout,Qcc (by omega)]
 rw [hX] at hs ⊢
 exact ⟨(an,cn),rfl,hs.only 1 rfl,trivial⟩
end Tt
end Go.Proofs
namespace Go.Proofs
open Go Go.Vx Go.RowKit
namespace Tt
theorem Qrp (w:World) (a:Option Addr) (c:Nat) (l:List Cen) (y:Cen) (hlen:l.length<=10000) (hr:Rd w (.slice a l.length c) 7 (l.map cec)):Calls Tryz.prog 56 #[.slice a l.length c,.agg (cec y).toArray] w (fun e w'=>∃ x:Option Addr × Nat,e = .returned (.slice x.1 (QdB y l).length x.2)/\Own w no w' [row (.slice x.1 (QdB y l).length x.2) ((QdB y l).map cec) 119 7]/\True):=by
 refine Qaj (n:=42) Tryz.func56 rfl Tryz.ntmps56 rfl ?_
 have hs:=Own.start w
 refine Qah (Qab (Qaa (QaR (V:=.agg (cec y).toArray) (cs:=cec y) rfl rfl hs fun b1 w2 hs=>(Qaa (Qad (V:=.slice none 0 0) rfl (Qaf (Qah (Qab (Qaa (Qad (V:=.slice none 0 0) rfl (Qaf (Qah (Qab (Qaa (Qad (V:=.bool false) rfl (Qaf (Qah (Qah (Qab (Qaa (Qad (V:=I6 0) rfl (Qaf (Qan ?_)))))))))))))))))))))))
 replace hs:=hs.more (row (.slice none 0 0) (List.map cec []) 119 7) (Qbk _ _ _ _)
 refine QaA (fun J μ J' w'=>∃ (Jo:Env) (k:Nat) (an:Option Addr) (cn:Nat) (out:List Cen) (dn:Bool),J'=upd (upd (upd (mix (sq 5 30) Jo J) 7 (I6 (k:Int))) 5 (.slice an out.length cn)) 6 (.bool dn)/\(k<=l.length)/\(out.length<=2*k)/\(QdB y l=out++cond dn (l.drop k) (QdB y (l.drop k)))/\μ=l.length-k/\Own w no w' [blk b1 (cec y) 119,row (.slice an out.length cn) (out.map cec) 119 7]) ?_ ?_
 ·exact ⟨_,_,0,none,0,[],false,Qai (Qai (Qai (Qap (ds:=(sq 5 30)) (Agr.refl _ _)) rfl) rfl) rfl,(by omega),(Nat.zero_le _),rfl,rfl,hs⟩
 rintro μ J' w3 ⟨Jo,k,an,cn,out,dn,rfl,hk,hol,hput,rfl,hs⟩
 refine Qah (Qah (Qab (Qaa (Qac (V:=I6 (k:Int)) rfl (Qaa (Qac (V:=.slice a l.length c) rfl (Qaa (Qa4 (n:=l.length) QcX (Rd.own' hr hs) (by simp) rfl (Qaa (QaQ rfl rfl (Qaf (Qao (t:=decide ((k:Int)<((l.length:Nat):Int))) rfl (fun c4=>?_) (fun c4=>?_)))))))))))))
 ·
  replace c4:=QQ1 c4
  refine Qaq (Qah (Qan (Qah (Qah (QaH HM [some 14,some 15,some 16,some 17,some 18,some 19,some 20,some 21,some 22,some 23] [] [0,1,3,7,7,7,55,119,255,511] [pv (.bool dn),pv (.bool (!dn)),pv (.bool (!dn)),pg ((!dn) == true) (.agg (cec y).toArray),pg ((!dn) == true) (.slice a l.length c),pg ((!dn) == true) (I6 (k:Int)),pg ((!dn) == true) (.pointer (some ⟨bkS (.slice a l.length c),ofS (.slice a l.length c)+(k:Int).toNat*7,none⟩)),pg ((!dn) == true) (.agg (cec (gd l k)).toArray),pg ((!dn) == true) (.bool (Qbi y (gd l k))),pv (.bool ((!dn)&&(Qbi y (gd l k))))] (fun _ _=>_) [9] (by kernel_rfl) hs ⟨?_,?_,?_,?_,?_,?_,?_,?_,?_,?_,trivial⟩ ?_)))))
  ·exact oa [] fun D J w hs=>Qac (V:=.bool dn) rfl (Zz hs)
  ·exact oa [0] fun D J w hs=>Qbw rfl (Zz hs)
  ·exact oa [1] fun D J w hs=>Qac (V:=.bool (!dn)) rfl (Zz hs)
  ·exact og [2] fun D J w hG hs=>QaJ (cs:=cec y) Qbt hs 0 rfl rfl rfl (Zz hs)
  ·exact og [2] fun D J w hG hs=>Qac (V:=.slice a l.length c) rfl (Zz hs)
  ·exact og [2] fun D J w hG hs=>Qac (V:=.int .i64 (k:Int)) rfl (Zz hs)
  ·exact oy [2,4,5] [4,5] fun D J w hG hs=>Qax QcX Qbt.1 (Rd.own' hr hs) rfl rfl (by omega) (by rw [QQ6];omega) (Zz hs)
  ·exact oy [2,6] [6] fun D J w hG hs=>Qa5 (j:=0) (vs:=cec (gd l k)) k Qbt (Rd.own' hr hs) (QaW (by omega)) rfl rfl rfl (by omega) (Zz hs)
  ·exact oy [2,3,7] [3,7] fun D J w hG hs=>Qat (vs:=[.agg (cec y).toArray,.agg (cec (gd l k)).toArray]) (V:=.bool (Qbi y (gd l k))) Qtw rfl rfl (Qks _ y (gd l k)) hs fun _ hs=>Zz hs
  ·exact oa [2,8] fun D J w hs=>Qa2 (h':=Qbi y (gd l k)) rfl rfl rfl (Zz hs)
  rintro J1 w6 J2 hJ hs
  replace hJ:J2=upd (mix (sq 14 10) J1 _) 23 (.bool ((!dn)&&(Qbi y (gd l k)))):=hJ
  subst hJ
  refine Qao (t:=(!dn)&&(Qbi y (gd l k))) rfl (fun c7=>?_) (fun c7=>?_)
  ·
   have c7r:=QbC c7
   replace c7:=QbA c7
   replace c7:=Qbp c7
   refine Qah (Qab (Qaa (Qac (V:=.slice an out.length cn) rfl (Qaa (QaJ (cs:=cec y) Qbt hs 0 rfl rfl rfl (Qaa (Qfb (vals:=[.agg (cec y).toArray]) (ls:=List.map cec ([y]:List Cen)) QgH rfl rfl rfl (Qbd (enc:=cec) (fun _=>rfl) _) (QaK Qa7 _) (QQ8 rfl) hs fun b8 w9 hs=>(Qaa (Qb3 (ls':=(out++[y]).map cec) (n:=(out++[y]).length) QgH hs 1 rfl rfl rfl (hs.rd 2 rfl) (QaK Qa7 _) (by simp only [QQ6,QQ7,List.length_cons,List.length_nil];omega) (by simp) (by simp) fun a10 c10 w11 hs=>(Qaa (Qad (V:=.slice a10 ((out++[y]).length) c10) rfl (Qaf (Qab (Qaa (Qad (V:=.bool true) rfl (Qaf (Qab (Qaa (Qac (V:=.slice a10 ((out++[y]).length) c10) rfl (Qaa (Qac (V:=.slice a l.length c) rfl (Qaa (Qac (V:=I6 (k:Int)) rfl (Qaa (Qax QcX Qbt.1 (Rd.own' hr hs) rfl rfl (by omega) (by rw [QQ6];omega) (Qaa (Qa5 (j:=0) (vs:=cec (gd l k)) k Qbt (Rd.own' hr hs) (QaW (by omega)) rfl rfl rfl (by omega) (Qaa (Qfb (vals:=[.agg (cec (gd l k)).toArray]) (ls:=List.map cec ([gd l k]:List Cen)) QgH rfl rfl rfl (Qbd (enc:=cec) (fun _=>rfl) _) (QaK Qa7 _) (QQ8 rfl) hs fun b12 w13 hs=>?_)))))))))))))))))))))))))))))
   replace hs:Own w no w13 [blk b1 (cec y) 119,row (.slice a10 ((out++[y]).length) c10) ((out++[y]).map cec) 119 7,row (.slice (some ⟨b8,0,none⟩) 1 1) ([y].map cec) 119 7,row (.slice (some ⟨b12,0,none⟩) 1 1) ([gd l k].map cec) 119 7]:=hs
   refine Qaa (Qb3 (ls':=((out++[y])++[gd l k]).map cec) (n:=((out++[y])++[gd l k]).length) QgH hs 1 rfl rfl rfl (hs.rd 3 rfl) (QaK Qa7 _) (by simp only [QQ6,QQ7,List.length_cons,List.length_nil];omega) (by simp) (by simp) fun a14 c14 w15 hs=>(Qaa (Qad (V:=.slice a14 (((out++[y])++[gd l k]).length) c14) rfl (Qaf (Qab (Qaa (Qac (V:=I6 (k:Int)) rfl (Qaa (QaD (a:=(k:Int)) (b:=1) (c:=((k+1:Nat):Int)) rfl rfl (Qak (by omega) (by omega)) (Qaa (Qad (V:=I6 ((k+1:Nat):Int)) rfl (Qaf ?_))))))))))))
   refine ⟨_,?_,_,k+1,a14,c14,(out++[y])++[gd l k],true,Qai (Qai (Qai (Qap (ds:=(sq 5 30)) (by repeat (first|exact Agr.refl _ _|refine Agr.upd ?_ rfl|refine Agr.mix ?_ rfl))) rfl) rfl) rfl,(by omega),(by simp only [QQ7,List.length_singleton];omega),(QrA hput (by omega) c7 c7r),rfl,hs.take 2⟩
   omega
  refine Qaq (Qab (Qaa (Qac (V:=.slice an out.length cn) rfl (Qaa (Qac (V:=.slice a l.length c) rfl (Qaa (Qac (V:=I6 (k:Int)) rfl (Qaa (Qax QcX Qbt.1 (Rd.own' hr hs) rfl rfl (by omega) (by rw [QQ6];omega) (Qaa (Qa5 (j:=0) (vs:=cec (gd l k)) k Qbt (Rd.own' hr hs) (QaW (by omega)) rfl rfl rfl (by omega) (Qaa (Qfb (vals:=[.agg (cec (gd l k)).toArray]) (ls:=List.map cec ([gd l k]:List Cen)) QgH rfl rfl rfl (Qbd (enc:=cec) (fun _=>rfl) _) (QaK Qa7 _) (QQ8 rfl) hs fun b16 w17 hs=>(Qaa (Qb3 (ls':=(out++[gd l k]).map cec) (n:=(out++[gd l k]).length) QgH hs 1 rfl rfl rfl (hs.rd 2 rfl) (QaK Qa7 _) (by simp only [QQ6,QQ7,List.length_cons,List.length_nil];omega) (by simp) (by simp) fun a18 c18 w19 hs=>(Qaa (Qad (V:=.slice a18 ((out++[gd l k]).length) c18) rfl (Qaf (Qab (Qaa (Qac (V:=I6 (k:Int)) rfl (Qaa (QaD (a:=(k:Int)) (b:=1) (c:=((k+1:Nat):Int)) rfl rfl (Qak (by omega) (by omega)) (Qaa (Qad (V:=I6 ((k+1:Nat):Int)) rfl (Qaf ?_))))))))))))))))))))))))))
  refine ⟨_,?_,_,k+1,a18,c18,out++[gd l k],dn,Qai (Qai (Qai (Qap (ds:=(sq 5 30)) (by repeat (first|exact Agr.refl _ _|refine Agr.upd ?_ rfl|refine Agr.mix ?_ rfl))) rfl) rfl) rfl,(by omega),(by simp only [QQ7,List.length_singleton];omega),(Qs7 hput (by omega) c7),rfl,hs.take 2⟩
  omega
 replace c4:=QQ2 c4
 refine QaG (Qah (Qah (Qab (Qaa (Qac (V:=.bool dn) rfl (Qaa (Qbw rfl (Qaf (Qao (t:=!dn) rfl (fun c20=>?_) (fun c20=>?_))))))))))
 ·
  replace c20:=Qbp c20
  refine Qab (Qaa (Qac (V:=.slice an out.length cn) rfl (Qaa (QaJ (cs:=cec y) Qbt hs 0 rfl rfl rfl (Qaa (Qfb (vals:=[.agg (cec y).toArray]) (ls:=List.map cec ([y]:List Cen)) QgH rfl rfl rfl (Qbd (enc:=cec) (fun _=>rfl) _) (QaK Qa7 _) (QQ8 rfl) hs fun b21 w22 hs=>(Qaa (Qb3 (ls':=(out++[y]).map cec) (n:=(out++[y]).length) QgH hs 1 rfl rfl rfl (hs.rd 2 rfl) (QaK Qa7 _) (by simp only [QQ6,QQ7,List.length_cons,List.length_nil];omega) (by simp) (by simp) fun a23 c23 w24 hs=>(Qaa (Qad (V:=.slice a23 ((out++[y]).length) c23) rfl (Qaf (Qah (Qab (Qaa (Qac (V:=.slice a23 ((out++[y]).length) c23) rfl (Qaa (Qad (V:=.slice a23 ((out++[y]).length) c23) rfl (Qaf (Qav ?_)))))))))))))))))))
  refine ⟨_,Qar (V:=.slice a23 ((out++[y]).length) c23) Tryz.results56 rfl,?_⟩
  have hX:=(Qna hput (by omega)).2 c20
  rw [← hX] at hs ⊢
  exact ⟨(a23,c23),rfl,hs.only 1 rfl,trivial⟩
 replace c20:=Qbf c20
 refine Qaq (Qah (Qab (Qaa (Qac (V:=.slice an out.length cn) rfl (Qaa (Qad (V:=.slice an out.length cn) rfl (Qaf (Qav ?_))))))))
 refine ⟨_,Qar (V:=.slice an out.length cn) Tryz.results56 rfl,?_⟩
 have hX:=(Qna hput (by omega)).1 c20
 rw [← hX] at hs ⊢
 exact ⟨(an,cn),rfl,hs.only 1 rfl,trivial⟩
theorem Qla (w:World) (a:Option Addr) (ca:Nat) (l:List Lst) (c t:Int) (hlen:l.length<=10000) (hT:Qdy l) (hr:Rd w (.slice a l.length ca) 2 (l.map lsc)):Calls Tryz.prog 54 #[.slice a l.length ca,.int .u16 c,.int .u32 t] w (fun e w'=>∃ x:Option Addr × Nat,e = .returned (.slice x.1 (QcY c t l).length x.2)/\Own w no w' [row (.slice x.1 (QcY c t l).length x.2) ((QcY c t l).map lsc) 125 2]/\True):=by
 refine Qaj (n:=57) Tryz.func54 rfl Tryz.ntmps54 rfl ?_
 have hs:=Own.start w
 refine Qah (Qab (Qaa (Qad (V:=.slice none 0 0) rfl (Qaf (Qah (Qab (Qaa (Qad (V:=.slice none 0 0) rfl (Qaf (Qah (Qab (Qaa (Qad (V:=.bool false) rfl (Qaf (Qah (Qah (Qab (Qaa (Qad (V:=I6 0) rfl (Qaf (Qan ?_)))))))))))))))))))))
 replace hs:=hs.more (row (.slice none 0 0) (List.map lsc []) 125 2) (Qbk _ _ _ _)
 refine QaA (fun J μ J' w'=>∃ (Jo:Env) (k:Nat) (an:Option Addr) (cn:Nat) (out:List Lst) (dn:Bool),J'=upd (upd (upd (mix (sq 7 41) Jo J) 9 (I6 (k:Int))) 7 (.slice an out.length cn)) 8 (.bool dn)/\(k<=l.length)/\(out.length<=2*k)/\(TkI l out (QcY c t l) c t dn k)/\μ=l.length-k/\Own w no w' [row (.slice an out.length cn) (out.map lsc) 125 2]) ?_ ?_
 ·exact ⟨_,_,0,none,0,[],false,Qai (Qai (Qai (Qap (ds:=(sq 7 41)) (Agr.refl _ _)) rfl) rfl) rfl,(by omega),(Nat.zero_le _),(⟨rfl,fun h=>nomatch h⟩),rfl,hs⟩
 rintro μ J' w1 ⟨Jo,k,an,cn,out,dn,rfl,hk,hol,htk,rfl,hs⟩
 refine Qah (Qah (Qab (Qaa (Qac (V:=I6 (k:Int)) rfl (Qaa (Qac (V:=.slice a l.length ca) rfl (Qaa (Qa4 (n:=l.length) Qe6 (Rd.own' hr hs) (by simp) rfl (Qaa (QaQ rfl rfl (Qaf (Qao (t:=decide ((k:Int)<((l.length:Nat):Int))) rfl (fun c2=>?_) (fun c2=>?_)))))))))))))
 ·
  replace c2:=QQ1 c2
  refine Qaq (Qah (Qan (Qah (Qab (Qaa (Qac (V:=.slice a l.length ca) rfl (Qaa (Qac (V:=I6 (k:Int)) rfl (Qaa (Qax Qe6 QcR.1 (Rd.own' hr hs) rfl rfl (by omega) (by rw [QQ6];omega) (Qaa (Qa5 (j:=0) (vs:=lsc (gd l k)) k QcR (Rd.own' hr hs) (QaW (by omega)) rfl rfl rfl (by omega) (Qaa (QaM (cs:=lsc (⟨0,0⟩:Lst)) QpI rfl hs fun b3 w4 hs=>(Qaa (QcH (V:=.agg (lsc (gd l k)).toArray) (vs:=lsc (gd l k)) (cs':=lsc (gd l k)) QcR.1 hs 1 rfl rfl rfl rfl rfl (QQ8 rfl) (QbS _) (QaC rfl) fun w5 hs=>(Qaf (Qah (Qah (Qab (Qaa (Qae Qec rfl (Qaa (QaE (V:=I7 ((gd l k).cart)) Qas hs 1 rfl rfl rfl (Qaa (Qac (V:=I7 c) rfl (Qaa (QaS rfl rfl (Qaf (Qao (t:=decide ((gd l k).cart=c)) rfl (fun c6=>?_) (fun c6=>?_)))))))))))))))))))))))))))))))
  ·
   replace c6:=QQ1 c6
   refine Qah (Qab (Qaa (Qae QfP rfl (Qaa (QaE (V:=.int .u32 ((gd l k).tick)) QaY hs 1 rfl rfl rfl (Qaa (Qac (V:=.int .u32 t) rfl (Qaa (Qr4 rfl rfl (Qaa (Qae QfP rfl (Qaa (Qc2 (V:=.int .u32 (max ((gd l k).tick) t)) (cs':=lsc (⟨(gd l k).cart,max ((gd l k).tick) t⟩:Lst)) QaY hs 1 rfl rfl rfl rfl (QQ8 rfl) rfl fun w7 hs=>(Qaf (Qab (Qaa (Qad (V:=.bool true) rfl (Qaf (Qah (Qah (Qbh [some 30,some 31,some 32,some 33,some 34,some 35,some 36,some 37] [] [0,1,3,7,15,7,63,127] [pv (.bool true),pv (.bool false),pv (.bool false),pg false (.bool true),pg false (.bool true),pg false (.bool true),pg false (.bool true),pv (.bool false)] (fun _ _=>_) [7] (by kernel_rfl) hs ⟨?_,?_,?_,?_,?_,?_,?_,?_,trivial⟩ ?_)))))))))))))))))))))
   ·exact oa [] fun D J w hs=>Qac (V:=.bool true) rfl (Zz hs)
   ·exact oa [0] fun D J w hs=>Qbw rfl (Zz hs)
   ·exact oa [1] fun D J w hs=>Qac (V:=.bool false) rfl (Zz hs)
   ·exact obg [] [] false rfl (fun _=>rfl) rfl (fun _ _ _ _ h=>h) (fun _ _ _ h=>nomatch h)
   ·exact obg [] [] false rfl (fun _=>rfl) rfl (fun _ _ _ _ h=>h) (fun _ _ _ h=>nomatch h)
   ·exact obg [] [] false rfl (fun _=>rfl) rfl (fun _ _ _ _ h=>h) (fun _ _ _ h=>nomatch h)
   ·exact obg [] [] false rfl (fun _=>rfl) rfl (fun _ _ _ _ h=>h) (fun _ _ _ h=>nomatch h)
   ·exact oa [2] fun D J w hs=>QcS (V:=.bool false) rfl rfl (Zz hs)
   rintro J1 w8 J2 hJ hs
   replace hJ:J2=upd (mix (sq 30 8) J1 _) 37 (.bool false):=hJ
   subst hJ
   refine Qcr rfl ?_
   refine Qaq (Qab (Qaa (Qac (V:=.slice an out.length cn) rfl (Qaa (QaJ (cs:=lsc (⟨(gd l k).cart,max ((gd l k).tick) t⟩:Lst)) QcR hs 1 rfl rfl rfl (Qaa (Qfb (vals:=[.agg (lsc (⟨(gd l k).cart,max ((gd l k).tick) t⟩:Lst)).toArray]) (ls:=List.map lsc ([(⟨(gd l k).cart,max ((gd l k).tick) t⟩:Lst)]:List Lst)) QgN rfl rfl rfl (Qbd (enc:=lsc) (fun _=>rfl) _) (QaK QbS _) (QQ8 rfl) hs fun b9 w10 hs=>?_)))))))
   replace hs:Own w no w10 [row (.slice an out.length cn) (out.map lsc) 125 2,blk b3 (lsc (⟨(gd l k).cart,max ((gd l k).tick) t⟩:Lst)) 125,row (.slice (some ⟨b9,0,none⟩) 1 1) ([(⟨(gd l k).cart,max ((gd l k).tick) t⟩:Lst)].map lsc) 125 2]:=hs
   refine Qaa (Qb3 (ls':=(out++[(⟨(gd l k).cart,max ((gd l k).tick) t⟩:Lst)]).map lsc) (n:=(out++[(⟨(gd l k).cart,max ((gd l k).tick) t⟩:Lst)]).length) QgN hs 0 rfl rfl rfl (hs.rd 2 rfl) (QaK QbS _) (by simp only [QQ6,QQ7,List.length_cons,List.length_nil];omega) (by simp) (by simp) fun a11 c11 w12 hs=>(Qaa (Qad (V:=.slice a11 ((out++[(⟨(gd l k).cart,max ((gd l k).tick) t⟩:Lst)]).length) c11) rfl (Qaf (Qab (Qaa (Qac (V:=I6 (k:Int)) rfl (Qaa (QaD (a:=(k:Int)) (b:=1) (c:=((k+1:Nat):Int)) rfl rfl (Qak (by omega) (by omega)) (Qaa (Qad (V:=I6 ((k+1:Nat):Int)) rfl (Qaf ?_))))))))))))
   refine ⟨_,?_,_,k+1,a11,c11,out++[(⟨(gd l k).cart,max ((gd l k).tick) t⟩:Lst)],true,Qai (Qai (Qai (Qap (ds:=(sq 7 41)) (by repeat (first|exact Agr.refl _ _|refine Agr.upd ?_ rfl|refine Agr.mix ?_ rfl))) rfl) rfl) rfl,(by omega),(by simp only [QQ7,List.length_singleton];omega),(QvE htk hT (by omega) c6),rfl,hs.take 1⟩
   omega
  replace c6:=QQ2 c6
  refine Qaq (Qah (Qah (Qbh [some 30,some 31,some 32,some 33,some 34,some 35,some 36,some 37] [] [0,1,3,7,15,7,63,127] [pv (.bool dn),pv (.bool (!dn)),pv (.bool (!dn)),pg ((!dn) == true) (Pq b3 (0+0)),pg ((!dn) == true) (I7 ((gd l k).cart)),pg ((!dn) == true) (I7 c),pg ((!dn) == true) (.bool (decide (c<(gd l k).cart))),pv (.bool ((!dn)&&(decide (c<(gd l k).cart))))] (fun _ _=>_) [7] (by kernel_rfl) hs ⟨?_,?_,?_,?_,?_,?_,?_,?_,trivial⟩ ?_)))
  ·exact oa [] fun D J w hs=>Qac (V:=.bool dn) rfl (Zz hs)
  ·exact oa [0] fun D J w hs=>Qbw rfl (Zz hs)
  ·exact oa [1] fun D J w hs=>Qac (V:=.bool (!dn)) rfl (Zz hs)
  ·exact og [2] fun D J w hG hs=>Qae Qec rfl (Zz hs)
  ·exact oy [2,3] [3] fun D J w hG hs=>QaE (V:=.int .u16 ((gd l k).cart)) Qas hs 1 rfl rfl rfl (Zz hs)
  ·exact og [2] fun D J w hG hs=>Qac (V:=.int .u16 c) rfl (Zz hs)
  ·exact oy [2,4,5] [4,5] fun D J w hG hs=>QbP rfl rfl (Zz hs)
  ·exact oa [2,6] fun D J w hs=>Qa2 (h':=decide (c<(gd l k).cart)) rfl rfl rfl (Zz hs)
  rintro J1 w13 J2 hJ hs
  replace hJ:J2=upd (mix (sq 30 8) J1 _) 37 (.bool ((!dn)&&(decide (c<(gd l k).cart)))):=hJ
  subst hJ
  refine Qao (t:=(!dn)&&(decide (c<(gd l k).cart))) rfl (fun c14=>?_) (fun c14=>?_)
  ·
   have c14r:=QbC c14
   replace c14:=QbA c14
   replace c14:=Qbp c14
   replace c14r:=QQ1 c14r
   refine Qah (Qab (Qaa (Qac (V:=.slice an out.length cn) rfl (Qaa (Qac (V:=I7 c) rfl (Qaa (Qac (V:=.int .u32 t) rfl (Qaa (Qbx (vs:=[(0,I7 c),(1,.int .u32 t)]) (cs:=lsc (⟨c,t⟩:Lst)) QpR (rfl) rfl (Qaa (Qfb (vals:=[.agg (lsc (⟨c,t⟩:Lst)).toArray]) (ls:=List.map lsc ([(⟨c,t⟩:Lst)]:List Lst)) QgN rfl rfl rfl (Qbd (enc:=lsc) (fun _=>rfl) _) (QaK QbS _) (QQ8 rfl) hs fun b15 w16 hs=>(Qaa (Qb3 (ls':=(out++[(⟨c,t⟩:Lst)]).map lsc) (n:=(out++[(⟨c,t⟩:Lst)]).length) QgN hs 0 rfl rfl rfl (hs.rd 2 rfl) (QaK QbS _) (by simp only [QQ6,QQ7,List.length_cons,List.length_nil];omega) (by simp) (by simp) fun a17 c17 w18 hs=>?_)))))))))))))
   replace hs:Own w no w18 [row (.slice a17 ((out++[(⟨c,t⟩:Lst)]).length) c17) ((out++[(⟨c,t⟩:Lst)]).map lsc) 125 2,blk b3 (lsc (gd l k)) 125,row (.slice (some ⟨b15,0,none⟩) 1 1) ([(⟨c,t⟩:Lst)].map lsc) 125 2]:=hs
   refine Qaa (Qad (V:=.slice a17 ((out++[(⟨c,t⟩:Lst)]).length) c17) rfl (Qaf (Qab (Qaa (Qad (V:=.bool true) rfl (Qaf (Qab (Qaa (Qac (V:=.slice a17 ((out++[(⟨c,t⟩:Lst)]).length) c17) rfl (Qaa (QaJ (cs:=lsc (gd l k)) QcR hs 1 rfl rfl rfl (Qaa (Qfb (vals:=[.agg (lsc (gd l k)).toArray]) (ls:=List.map lsc ([gd l k]:List Lst)) QgN rfl rfl rfl (Qbd (enc:=lsc) (fun _=>rfl) _) (QaK QbS _) (QQ8 rfl) hs fun b19 w20 hs=>(Qaa (Qb3 (ls':=((out++[(⟨c,t⟩:Lst)])++[gd l k]).map lsc) (n:=((out++[(⟨c,t⟩:Lst)])++[gd l k]).length) QgN hs 0 rfl rfl rfl (hs.rd 3 rfl) (QaK QbS _) (by simp only [QQ6,QQ7,List.length_cons,List.length_nil];omega) (by simp) (by simp) fun a21 c21 w22 hs=>(Qaa (Qad (V:=.slice a21 (((out++[(⟨c,t⟩:Lst)])++[gd l k]).length) c21) rfl (Qaf (Qab (Qaa (Qac (V:=I6 (k:Int)) rfl (Qaa (QaD (a:=(k:Int)) (b:=1) (c:=((k+1:Nat):Int)) rfl rfl (Qak (by omega) (by omega)) (Qaa (Qad (V:=I6 ((k+1:Nat):Int)) rfl (Qaf ?_))))))))))))))))))))))))))
   refine ⟨_,?_,_,k+1,a21,c21,(out++[(⟨c,t⟩:Lst)])++[gd l k],true,Qai (Qai (Qai (Qap (ds:=(sq 7 41)) (by repeat (first|exact Agr.refl _ _|refine Agr.upd ?_ rfl|refine Agr.mix ?_ rfl))) rfl) rfl) rfl,(by omega),(by simp only [QQ7,List.length_singleton];omega),(QsM htk hT (by omega) c6 c14 c14r),rfl,hs.take 1⟩
   omega
  refine Qaq (Qab (Qaa (Qac (V:=.slice an out.length cn) rfl (Qaa (QaJ (cs:=lsc (gd l k)) QcR hs 1 rfl rfl rfl (Qaa (Qfb (vals:=[.agg (lsc (gd l k)).toArray]) (ls:=List.map lsc ([gd l k]:List Lst)) QgN rfl rfl rfl (Qbd (enc:=lsc) (fun _=>rfl) _) (QaK QbS _) (QQ8 rfl) hs fun b23 w24 hs=>(Qaa (Qb3 (ls':=(out++[gd l k]).map lsc) (n:=(out++[gd l k]).length) QgN hs 0 rfl rfl rfl (hs.rd 2 rfl) (QaK QbS _) (by simp only [QQ6,QQ7,List.length_cons,List.length_nil];omega) (by simp) (by simp) fun a25 c25 w26 hs=>?_)))))))))
  replace hs:Own w no w26 [row (.slice a25 ((out++[gd l k]).length) c25) ((out++[gd l k]).map lsc) 125 2,blk b3 (lsc (gd l k)) 125,row (.slice (some ⟨b23,0,none⟩) 1 1) ([gd l k].map lsc) 125 2]:=hs
  refine Qaa (Qad (V:=.slice a25 ((out++[gd l k]).length) c25) rfl (Qaf (Qab (Qaa (Qac (V:=I6 (k:Int)) rfl (Qaa (QaD (a:=(k:Int)) (b:=1) (c:=((k+1:Nat):Int)) rfl rfl (Qak (by omega) (by omega)) (Qaa (Qad (V:=I6 ((k+1:Nat):Int)) rfl (Qaf ?_))))))))))
  refine ⟨_,?_,_,k+1,a25,c25,out++[gd l k],dn,Qai (Qai (Qai (Qap (ds:=(sq 7 41)) (by repeat (first|exact Agr.refl _ _|refine Agr.upd ?_ rfl|refine Agr.mix ?_ rfl))) rfl) rfl) rfl,(by omega),(by simp only [QQ7,List.length_singleton];omega),(QuC htk (by omega) c6 c14),rfl,hs.take 1⟩
  omega
 replace c2:=QQ2 c2
 refine QaG (Qah (Qah (Qab (Qaa (Qac (V:=.bool dn) rfl (Qaa (Qbw rfl (Qaf (Qao (t:=!dn) rfl (fun c27=>?_) (fun c27=>?_))))))))))
 ·
  replace c27:=Qbp c27
  refine Qab (Qaa (Qac (V:=.slice an out.length cn) rfl (Qaa (Qac (V:=I7 c) rfl (Qaa (Qac (V:=.int .u32 t) rfl (Qaa (Qbx (vs:=[(0,I7 c),(1,.int .u32 t)]) (cs:=lsc (⟨c,t⟩:Lst)) QpR (rfl) rfl (Qaa (Qfb (vals:=[.agg (lsc (⟨c,t⟩:Lst)).toArray]) (ls:=List.map lsc ([(⟨c,t⟩:Lst)]:List Lst)) QgN rfl rfl rfl (Qbd (enc:=lsc) (fun _=>rfl) _) (QaK QbS _) (QQ8 rfl) hs fun b28 w29 hs=>(Qaa (Qb3 (ls':=(out++[(⟨c,t⟩:Lst)]).map lsc) (n:=(out++[(⟨c,t⟩:Lst)]).length) QgN hs 0 rfl rfl rfl (hs.rd 1 rfl) (QaK QbS _) (by simp only [QQ6,QQ7,List.length_cons,List.length_nil];omega) (by simp) (by simp) fun a30 c30 w31 hs=>(Qaa (Qad (V:=.slice a30 ((out++[(⟨c,t⟩:Lst)]).length) c30) rfl (Qaf (Qah (Qab (Qaa (Qac (V:=.slice a30 ((out++[(⟨c,t⟩:Lst)]).length) c30) rfl (Qaa (Qad (V:=.slice a30 ((out++[(⟨c,t⟩:Lst)]).length) c30) rfl (Qaf (Qav ?_)))))))))))))))))))))))
  refine ⟨_,Qar (V:=.slice a30 ((out++[(⟨c,t⟩:Lst)]).length) c30) Tryz.results54 rfl,?_⟩
  have hX:=(Qp6 htk (by omega)).2 c27
  rw [← hX] at hs ⊢
  exact ⟨(a30,c30),rfl,hs.only 0 rfl,trivial⟩
 replace c27:=Qbf c27
 refine Qaq (Qah (Qab (Qaa (Qac (V:=.slice an out.length cn) rfl (Qaa (Qad (V:=.slice an out.length cn) rfl (Qaf (Qav ?_))))))))
 refine ⟨_,Qar (V:=.slice an out.length cn) Tryz.results54 rfl,?_⟩
 have hX:=(Qp6 htk (by omega)).1 c27
 rw [← hX] at hs ⊢
 exact ⟨(an,cn),rfl,hs.only 0 rfl,trivial⟩
end Tt
end Go.Proofs
namespace Go.Proofs
open Go Go.Vx Go.RowKit
namespace Tt
theorem QlM (w:World) (p:Pst) (a1:Option Addr) (c1:Nat) (a2:Option Addr) (c2:Nat) (a3:Option Addr) (c3:Nat) (cut:Vec) (hcut:QbW cut) (hok:QcW p) (hle:p.base.ents.length<=400) (hlt:p.base.ticks.length<=400) (hlo:p.ops.length<=400) (hr1:Rd w (.slice a1 p.base.ents.length c1) 7 (p.base.ents.map cec)) (hr2:Rd w (.slice a2 p.base.ticks.length c2) 2 (p.base.ticks.map lsc)) (hr3:Rd w (.slice a3 p.ops.length c3) 23 (p.ops.map oc)):Calls Tryz.prog 14 #[.agg (((vc p.base.known)++[(.slice a1 p.base.ents.length c1:Value),(.slice a2 p.base.ticks.length c2:Value) ])++[(.slice a3 p.ops.length c3:Value) ]++(vc p.known)).toArray,.agg (vc cut).toArray] w (fun e w'=>∃ x:((Option Addr × Nat) × (Option Addr × Nat)) × Bool,e = .returned (.tuple #[.agg (vc (Qag p cut).known++[(.slice x.1.1.1 ((Qag p cut).ents).length x.1.1.2:Value),(.slice x.1.2.1 ((Qag p cut).ticks).length x.1.2.2:Value)]).toArray,.int .i64 (Qbc p cut)])/\Own w no w' [row (.slice x.1.1.1 ((Qag p cut).ents).length x.1.1.2) ((Qag p cut).ents.map cec) 119 7,cond x.2 emp (row (.slice x.1.2.1 ((Qag p cut).ticks).length x.1.2.2) ((Qag p cut).ticks.map lsc) 125 2)]/\(x.2=true->x.1.2=(a2,c2)/\(Qag p cut).ticks=p.base.ticks)):=by
 refine Qaj (n:=94) Tryz.func14 rfl Tryz.ntmps14 rfl ?_
 have hs:=Own.start w
 have ⟨hokb,hoko,hokk⟩:=hok
 have hn1:=hr1.sml
 have hn2:=hr2.sml
 have hn3:=hr3.sml
 refine Qah (Qab (Qaa (QaR (V:=.agg (((vc p.base.known)++[(.slice a1 p.base.ents.length c1:Value),(.slice a2 p.base.ticks.length c2:Value) ])++[(.slice a3 p.ops.length c3:Value) ]++(vc p.known)).toArray) (cs:=((vc p.base.known)++[(.slice a1 p.base.ents.length c1:Value),(.slice a2 p.base.ticks.length c2:Value) ])++[(.slice a3 p.ops.length c3:Value) ]++(vc p.known)) rfl rfl hs fun b1 w2 hs=>(Qaa (QaR (V:=.agg (vc cut).toArray) (cs:=vc cut) rfl rfl hs fun b3 w4 hs=>(Qaa (QaM (cs:=(vc vzero)++[(.slice none 0 0:Value),(.slice none 0 0:Value) ]) QtT rfl hs fun b5 w6 hs=>(Qaa (Qad (V:=I6 0) rfl (Qaf (Qah (Qab (Qaa (QaJ (cs:=((vc p.base.known)++[(.slice a1 p.base.ents.length c1:Value),(.slice a2 p.base.ticks.length c2:Value) ])++[(.slice a3 p.ops.length c3:Value) ]++(vc p.known)) QkB hs 0 rfl rfl rfl (Qaa (QaJ (cs:=vc cut) QbB hs 1 rfl rfl rfl (Qaa (Qat (vs:=[.agg (((vc p.base.known)++[(.slice a1 p.base.ents.length c1:Value),(.slice a2 p.base.ticks.length c2:Value) ])++[(.slice a3 p.ops.length c3:Value) ]++(vc p.known)).toArray,.agg (vc cut).toArray]) (V:=I6 (Qbc p cut)) Qvn rfl rfl ?hc hs fun w7 hs=>?_))))))))))))))))))
 case hc=>exact (Qry _ p a1 c1 a2 c2 a3 c3 cut hcut hok (Rd.own' hr1 hs) (Rd.own' hr2 hs) (Rd.own' hr3 hs))
 refine Qaa (Qad (V:=I6 (Qbc p cut)) rfl (Qaf (Qah (Qah (Qab (Qaa (Qac (V:=I6 (Qbc p cut)) rfl (Qaa (Qch rfl rfl (Qaf (Qao (t:=!decide (Qbc p cut=0)) rfl (fun c8=>?_) (fun c8=>?_))))))))))))
 ·
  replace c8:=Qbp c8
  replace c8:=QQ2 c8
  refine Qah (Qab (Qaa (Qcz (vs:=[]) (cs:=(vc vzero)++[(.slice none 0 0:Value),(.slice none 0 0:Value) ]) [vc vzero,[(.slice none 0 0:Value)],[(.slice none 0 0:Value)]] [vc vzero,[(.slice none 0 0:Value)],[(.slice none 0 0:Value)]] Qt5 rfl (rfl) rfl rfl (Qaa (Qac (V:=I6 (Qbc p cut)) rfl (Qaa (QcH (V:=.agg ((vc vzero)++[(.slice none 0 0:Value),(.slice none 0 0:Value) ]).toArray) (vs:=(vc vzero)++[(.slice none 0 0:Value),(.slice none 0 0:Value) ]) (cs':=(vc vzero)++[(.slice none 0 0:Value),(.slice none 0 0:Value) ]) Qez.1 hs 2 rfl rfl rfl rfl rfl (QQ8 rfl) (QbQ (Qcv _) (Qaw rfl (Qaw rfl Qbg))) (QaC rfl) fun w9 hs=>?_)))))))
  replace hs:Own w no w9 [blk b1 (((vc p.base.known)++[(.slice a1 p.base.ents.length c1:Value),(.slice a2 p.base.ticks.length c2:Value) ])++[(.slice a3 p.ops.length c3:Value) ]++(vc p.known)) 31,blk b3 (vc cut) 24,blk b5 ((vc vzero)++[(.slice none 0 0:Value),(.slice none 0 0:Value) ]) 28]:=hs
  refine Qaa (Qad (V:=I6 (Qbc p cut)) rfl (Qaf (Qav ?_)))
  refine ⟨_,Qdr (cs:=(vc vzero)++[(.slice none 0 0:Value),(.slice none 0 0:Value) ]) (V:=I6 (Qbc p cut)) Tryz.results14 Qez hs 2 rfl rfl rfl rfl,?_⟩
  rw [QiK c8]
  exact ⟨(((none,0),(none,0)),false),rfl,((hs.take 0).more _ (Qbk _ _ 119 7)).more _ (Qbk _ _ 125 2),fun h=>nomatch h⟩
 replace c8:=Qbf c8
 replace c8:=QQ1 c8
 refine Qaq (Qah (Qab (Qaa (Qae Qd2 rfl (Qaa (QaE (V:=.slice a3 p.ops.length c3) Qfh hs 0 rfl rfl rfl (Qaa (QaJ (cs:=vc cut) QbB hs 1 rfl rfl rfl (Qaa (Qbo (vs:=[.slice a3 p.ops.length c3,.agg (vc cut).toArray]) (V:=fun x:Option Addr × Nat=>.slice x.1 (Qal p.ops cut).length x.2) Qvi rfl rfl (QlI _ cut a3 c3 p.ops hoko (by omega) (Rd.own' hr3 hs)) hs fun x10 w11 hs _=>?_))))))))))
 replace hs:Own w no w11 [blk b1 (((vc p.base.known)++[(.slice a1 p.base.ents.length c1:Value),(.slice a2 p.base.ticks.length c2:Value) ])++[(.slice a3 p.ops.length c3:Value) ]++(vc p.known)) 31,blk b3 (vc cut) 24,blk b5 ((vc vzero)++[(.slice none 0 0:Value),(.slice none 0 0:Value) ]) 28,row (.slice x10.1 ((Qal p.ops cut).length) x10.2) ((Qal p.ops cut).map oc) 98 23]:=hs
 refine Qaa (Qad (V:=.slice x10.1 ((Qal p.ops cut).length) x10.2) rfl (Qaf (Qah (Qab (Qaa (Qad (V:=.slice none 0 0) rfl (Qaf (Qah (Qab (Qaa (Qae QdZ rfl (Qaa (Qae QcJ rfl (Qaa (QaE (V:=.slice a2 p.base.ticks.length c2) QfH hs 0 rfl rfl rfl (Qaa (Qad (V:=.slice a2 p.base.ticks.length c2) rfl (Qaf (Qah (Qah (Qab (Qaa (Qad (V:=I6 0) rfl (Qaf (Qan ?_)))))))))))))))))))))))))
 have hr0:=(QdW c8).1
 obtain ⟨hopsC,hrb⟩:=Qcx hr0
 have hul:=QiQ p.ops cut
 replace hs:=hs.more (row (.slice none 0 0) (List.map cec []) 119 7) (Qbk _ _ _ _)
 refine QaA (fun J μ J' w'=>∃ (Jo:Env) (k:Nat) (a7:Option Addr) (cb7:Nat) (L7:List Cen),J'=upd (upd (mix ([8,10,11]++sq 28 23) Jo J) 10 (I6 (k:Int))) 8 (.slice a7 L7.length cb7)/\(k<=p.base.ents.length)/\(L7=(p.base.ents.take k).filter (QcM (Qal p.ops cut)))/\(L7.length<=k)/\μ=p.base.ents.length-k/\Own w no w' [blk b1 (((vc p.base.known)++[(.slice a1 p.base.ents.length c1:Value),(.slice a2 p.base.ticks.length c2:Value) ])++[(.slice a3 p.ops.length c3:Value) ]++(vc p.known)) 31,blk b3 (vc cut) 24,blk b5 ((vc vzero)++[(.slice none 0 0:Value),(.slice none 0 0:Value) ]) 28,row (.slice x10.1 ((Qal p.ops cut).length) x10.2) ((Qal p.ops cut).map oc) 98 23,row (.slice a7 L7.length cb7) (L7.map cec) 119 7]) ?_ ?_
 ·exact ⟨_,_,0,none,0,[],Qai (Qai (Qap (ds:=([8,10,11]++sq 28 23)) (Agr.refl _ _)) rfl) rfl,(by omega),rfl,(Nat.le_refl _),rfl,hs⟩
 rintro μ J' w12 ⟨Jo,k,a7,cb7,L7,rfl,hk,hL7,hn7,rfl,hs⟩
 refine Qah (Qah (Qab (Qaa (Qac (V:=I6 (k:Int)) rfl (Qaa (Qae QdZ rfl (Qaa (Qae QbR rfl (Qaa (QaE (V:=.slice a1 p.base.ents.length c1) QdH hs 0 rfl rfl rfl (Qaa (Qa4 (n:=p.base.ents.length) QcX (Rd.own' hr1 hs) (by simp) rfl (Qaa (QaQ rfl rfl (Qaf (Qao (t:=decide ((k:Int)<((p.base.ents.length:Nat):Int))) rfl (fun c13=>?_) (fun c13=>?_)))))))))))))))))
 ·
  replace c13:=QQ1 c13
  refine Qaq (Qah (Qan (Qah ?_)))
  have hdk:=(hokb.2.1 _ (QbK (l:=p.base.ents) (i:=k) (by omega))).2.2.2.2.1
  refine Qab (Qaa (Qae QdZ rfl (Qaa (Qae QbR rfl (Qaa (QaE (V:=.slice a1 p.base.ents.length c1) QdH hs 0 rfl rfl rfl (Qaa (Qac (V:=I6 (k:Int)) rfl (Qaa (Qax QcX Qbt.1 (Rd.own' hr1 hs) rfl rfl (by omega) (by rw [QQ6];omega) (Qaa (Qa5 (j:=0) (vs:=cec (gd p.base.ents k)) k Qbt (Rd.own' hr1 hs) (QaW (by omega)) rfl rfl rfl (by omega) (Qaa (QaM (cs:=cec (⟨0,0,0,0,(⟨0,0⟩:Dot),0⟩:Cen)) QmH rfl hs fun b14 w15 hs=>(Qaa (QcH (V:=.agg (cec (gd p.base.ents k)).toArray) (vs:=cec (gd p.base.ents k)) (cs':=cec (gd p.base.ents k)) Qbt.1 hs 5 rfl rfl rfl rfl rfl (QQ8 rfl) (Qa7 _) (QaC rfl) fun w16 hs=>(Qaf (Qah (Qab (Qaa (Qac (V:=.slice x10.1 ((Qal p.ops cut).length) x10.2) rfl (Qaa (QaJ (cs:=cec (gd p.base.ents k)) Qbt hs 5 rfl rfl rfl (Qaa (Qat (vs:=[.agg (cec (gd p.base.ents k)).toArray]) (V:=.agg (oc (Qbj (gd p.base.ents k))).toArray) QuJ rfl rfl ?hc hs fun w17 hs=>?_)))))))))))))))))))))))))
  case hc=>exact (QnI _ (gd p.base.ents k))
  refine Qaa (Qat (vs:=[.slice x10.1 ((Qal p.ops cut).length) x10.2,.agg (oc (Qbj (gd p.base.ents k))).toArray]) (V:=.bool ((Qal p.ops cut).any fun x=>QaU x (Qbj (gd p.base.ents k)))) QsQ rfl rfl ?hc hs fun w18 hs=>?_)
  case hc=>exact (Qko _ x10.1 x10.2 (Qal p.ops cut) (Qbj (gd p.base.ents k)) (by assumption) (hs.rd 3 rfl))
  refine Qaa (Qbw rfl (Qaf (Qao (t:=!((Qal p.ops cut).any fun x=>QaU x (Qbj (gd p.base.ents k)))) rfl (fun c19=>?_) (fun c19=>?_))))
  ·
   replace c19:=Qbp c19
   refine Qab (Qaa (Qac (V:=.slice a7 L7.length cb7) rfl (Qaa (QaJ (cs:=cec (gd p.base.ents k)) Qbt hs 5 rfl rfl rfl (Qaa (Qfb (vals:=[.agg (cec (gd p.base.ents k)).toArray]) (ls:=List.map cec ([gd p.base.ents k]:List Cen)) QgH rfl rfl rfl (Qbd (enc:=cec) (fun _=>rfl) _) (QaK Qa7 _) (QQ8 rfl) hs fun b20 w21 hs=>(Qaa (Qb3 (ls':=(L7++[gd p.base.ents k]).map cec) (n:=(L7++[gd p.base.ents k]).length) QgH hs 4 rfl rfl rfl (hs.rd 6 rfl) (QaK Qa7 _) (by simp only [QQ6,QQ7,List.length_cons,List.length_nil];omega) (by simp) (by simp) fun a22 c22 w23 hs=>?_))))))))
   replace hs:Own w no w23 [blk b1 (((vc p.base.known)++[(.slice a1 p.base.ents.length c1:Value),(.slice a2 p.base.ticks.length c2:Value) ])++[(.slice a3 p.ops.length c3:Value) ]++(vc p.known)) 31,blk b3 (vc cut) 24,blk b5 ((vc vzero)++[(.slice none 0 0:Value),(.slice none 0 0:Value) ]) 28,row (.slice x10.1 ((Qal p.ops cut).length) x10.2) ((Qal p.ops cut).map oc) 98 23,row (.slice a22 ((L7++[gd p.base.ents k]).length) c22) ((L7++[gd p.base.ents k]).map cec) 119 7,blk b14 (cec (gd p.base.ents k)) 119,row (.slice (some ⟨b20,0,none⟩) 1 1) ([gd p.base.ents k].map cec) 119 7]:=hs
   refine Qaa (Qad (V:=.slice a22 ((L7++[gd p.base.ents k]).length) c22) rfl (Qaf (Qab (Qaa (Qac (V:=I6 (k:Int)) rfl (Qaa (QaD (a:=(k:Int)) (b:=1) (c:=((k+1:Nat):Int)) rfl rfl (Qak (by omega) (by omega)) (Qaa (Qad (V:=I6 ((k+1:Nat):Int)) rfl (Qaf ?_))))))))))
   refine ⟨_,?_,_,k+1,a22,c22,L7++[gd p.base.ents k],Qai (Qai (Qap (ds:=([8,10,11]++sq 28 23)) (by repeat (first|exact Agr.refl _ _|refine Agr.upd ?_ rfl|refine Agr.mix ?_ rfl))) rfl) rfl,(by omega),(QeV hL7 (by omega) (by rw [QiC,c19];rfl)),(by rw [QQ7,List.length_singleton];omega),rfl,hs.take 5⟩
   omega
  replace c19:=Qbf c19
  refine Qaq (Qab (Qaa (Qac (V:=I6 (k:Int)) rfl (Qaa (QaD (a:=(k:Int)) (b:=1) (c:=((k+1:Nat):Int)) rfl rfl (Qak (by omega) (by omega)) (Qaa (Qad (V:=I6 ((k+1:Nat):Int)) rfl (Qaf ?_))))))))
  refine ⟨_,?_,_,k+1,a7,cb7,L7,Qai (Qai (Qap (ds:=([8,10,11]++sq 28 23)) (by repeat (first|exact Agr.refl _ _|refine Agr.upd ?_ rfl|refine Agr.mix ?_ rfl))) rfl) rfl,(by omega),(QdX hL7 (by omega) (by rw [QiC,c19];rfl)),(by omega),rfl,hs.take 5⟩
  omega
 replace c13:=QQ2 c13
 refine QaG (Qah (Qah (Qab (Qaa (Qad (V:=I6 0) rfl (Qaf (Qan ?_)))))))
 have hL70:L7=p.base.ents.filter (QcM (Qal p.ops cut)):=by rw [hL7,Qcc (by omega)]
 replace hs:=hs.more emp trivial
 refine QaA (fun J μ J' w'=>∃ (Jo:Env) (k2:Nat) (a6:Option Addr) (cb6:Nat) (L6:List Cen) (z:Bool) (a9:Option Addr) (cb9:Nat) (T9:List Lst),J'=upd (upd (upd (mix ([8,9,12,13]++sq 51 39) Jo J) 12 (I6 (k2:Int))) 8 (.slice a6 L6.length cb6)) 9 (.slice a9 T9.length cb9)/\(k2<=(Qal p.ops cut).length)/\(L6=Qcd ((Qbz p.base.ents ((Qal p.ops cut).take k2)).filter (QcM (Qal p.ops cut))))/\(T9=QbN p.base.ticks ((Qal p.ops cut).take k2))/\(z=true->((a9,cb9)=(a2,c2)/\T9=p.base.ticks))/\(L6.length<=p.base.ents.length+k2)/\μ=(Qal p.ops cut).length-k2/\Own w no w' [blk b1 (((vc p.base.known)++[(.slice a1 p.base.ents.length c1:Value),(.slice a2 p.base.ticks.length c2:Value) ])++[(.slice a3 p.ops.length c3:Value) ]++(vc p.known)) 31,blk b3 (vc cut) 24,blk b5 ((vc vzero)++[(.slice none 0 0:Value),(.slice none 0 0:Value) ]) 28,row (.slice x10.1 ((Qal p.ops cut).length) x10.2) ((Qal p.ops cut).map oc) 98 23,row (.slice a6 L6.length cb6) (L6.map cec) 119 7,cond z emp (row (.slice a9 T9.length cb9) (T9.map lsc) 125 2)]) ?_ ?_
 ·exact ⟨_,_,0,a7,cb7,L7,true,a2,c2,p.base.ticks,Qai (Qai (Qai (Qap (ds:=([8,9,12,13]++sq 51 39)) (Agr.refl _ _)) rfl) rfl) rfl,(by omega),(QmQ hr0 _ hL70),rfl,(fun _=>⟨rfl,rfl⟩),(by omega),rfl,hs⟩
 rintro μ J' w24 ⟨Jo,k2,a6,cb6,L6,z,a9,cb9,T9,rfl,hk2,hL6,hT9,hz9,hn6,rfl,hs⟩
 have hrz:z=true->Rd w (.slice a9 T9.length cb9) 2 (T9.map lsc):=fun h=>by
  obtain ⟨e1,e2⟩:=hz9 h
  rw [Prod.mk.injEq] at e1
  rw [e1.1,e1.2,e2];exact hr2
 have hT8:Qdy T9:=by rw [hT9];exact Qcw hrb.rt _
 have hl9:T9.length<=3000:=by have:=Qhf (s:=p.base.ticks) ((Qal p.ops cut).take k2);rw [← hT9,List.length_take] at this;omega
 refine Qah (Qah (Qab (Qaa (Qac (V:=I6 (k2:Int)) rfl (Qaa (Qac (V:=.slice x10.1 ((Qal p.ops cut).length) x10.2) rfl (Qaa (Qa4 (n:=(Qal p.ops cut).length) QdK (hs.rd 3 rfl) (by simp) rfl (Qaa (QaQ rfl rfl (Qaf (Qao (t:=decide ((k2:Int)<(((Qal p.ops cut).length:Nat):Int))) rfl (fun c25=>?_) (fun c25=>?_)))))))))))))
 ·
  replace c25:=QQ1 c25
  refine Qaq (Qah (Qan (Qah ?_)))
  have hOk:=hoko _ (Qdv (QbK (l:=(Qal p.ops cut)) (i:=k2) (by omega)))
  have hdk:=hOk.1
  have hxk:=hOk.2.2.2.2.2.2
  refine Qab (Qaa (Qac (V:=.slice x10.1 ((Qal p.ops cut).length) x10.2) rfl (Qaa (Qac (V:=I6 (k2:Int)) rfl (Qaa (Qax QdK QbY.1 (hs.rd 3 rfl) rfl rfl (by omega) (by rw [QQ6];omega) (Qaa (Qa5 (j:=0) (vs:=oc (gd (Qal p.ops cut) k2)) k2 QbY (hs.rd 3 rfl) (QaW (by omega)) rfl rfl rfl (by omega) (Qaa (QaM (cs:=oc (⟨(⟨0,0⟩:Dot),0,0,0,0,0,vzero⟩:Opn)) Ql9 rfl hs fun b26 w27 hs=>(Qaa (QcH (V:=.agg (oc (gd (Qal p.ops cut) k2)).toArray) (vs:=oc (gd (Qal p.ops cut) k2)) (cs':=oc (gd (Qal p.ops cut) k2)) QbY.1 hs 6 rfl rfl rfl rfl rfl (QQ8 rfl) (Qep _) (QaC rfl) fun w28 hs=>(Qaf (Qah (Qab (Qaa (Qac (V:=.slice a9 T9.length cb9) rfl (Qaa (Qae QdE rfl (Qaa (QaE (V:=I7 ((gd (Qal p.ops cut) k2).cart)) Qas hs 6 rfl rfl rfl (Qaa (Qae QhO rfl (Qaa (QaE (V:=.int .u32 ((gd (Qal p.ops cut) k2).tick)) QaY hs 6 rfl rfl rfl (Qaa (Qbo (vs:=[.slice a9 T9.length cb9,I7 ((gd (Qal p.ops cut) k2).cart),.int .u32 ((gd (Qal p.ops cut) k2).tick)]) (V:=fun x:Option Addr × Nat=>.slice x.1 (QcY ((gd (Qal p.ops cut) k2).cart) ((gd (Qal p.ops cut) k2).tick) T9).length x.2) Qvt rfl rfl (Qla _ a9 cb9 T9 ((gd (Qal p.ops cut) k2).cart) ((gd (Qal p.ops cut) k2).tick) (by omega) hT8 (hs.rdC 5 rfl hrz)) hs fun x29 w30 hs _=>(Qaa (Qad (V:=.slice x29.1 ((QcY ((gd (Qal p.ops cut) k2).cart) ((gd (Qal p.ops cut) k2).tick) T9).length) x29.2) rfl (Qaf (Qah (Qbh [some 67,some 68,some 69,some 70,some 71,some 72,some 73,some 74] [] [0,1,3,7,7,31,63,127] [pv (.agg (oc (gd (Qal p.ops cut) k2)).toArray),pv (.bool (Qa0 (gd (Qal p.ops cut) k2))),pv (.bool (Qa0 (gd (Qal p.ops cut) k2))),pg ((Qa0 (gd (Qal p.ops cut) k2)) == true) (.slice x10.1 ((Qal p.ops cut).length) x10.2),pg ((Qa0 (gd (Qal p.ops cut) k2)) == true) (.agg (oc (gd (Qal p.ops cut) k2)).toArray),pg ((Qa0 (gd (Qal p.ops cut) k2)) == true) (.bool ((Qal p.ops cut).any fun x=>QaU x (gd (Qal p.ops cut) k2))),pg ((Qa0 (gd (Qal p.ops cut) k2)) == true) (.bool (!((Qal p.ops cut).any fun x=>QaU x (gd (Qal p.ops cut) k2)))),pv (.bool ((Qa0 (gd (Qal p.ops cut) k2))&&(!((Qal p.ops cut).any fun x=>QaU x (gd (Qal p.ops cut) k2)))))] (fun _ _=>_) [7] (by kernel_rfl) hs ⟨?_,?_,?_,?_,?_,?_,?_,?_,trivial⟩ ?_))))))))))))))))))))))))))))))))
  ·exact oa [] fun D J w hs=>QaJ (cs:=oc (gd (Qal p.ops cut) k2)) QbY hs 6 rfl rfl rfl (Zz hs)
  ·exact oa [0] fun D J w hs=>Qat (vs:=[.agg (oc (gd (Qal p.ops cut) k2)).toArray]) (V:=.bool (Qa0 (gd (Qal p.ops cut) k2))) Qui rfl rfl (QjN _ (gd (Qal p.ops cut) k2)) hs fun _ hs=>Zz hs
  ·exact oa [1] fun D J w hs=>Qac (V:=.bool (Qa0 (gd (Qal p.ops cut) k2))) rfl (Zz hs)
  ·exact og [2] fun D J w hG hs=>Qac (V:=.slice x10.1 ((Qal p.ops cut).length) x10.2) rfl (Zz hs)
  ·exact og [2] fun D J w hG hs=>QaJ (cs:=oc (gd (Qal p.ops cut) k2)) QbY hs 6 rfl rfl rfl (Zz hs)
  ·exact oy [2,3,4] [3,4] fun D J w hG hs=>Qat (vs:=[.slice x10.1 ((Qal p.ops cut).length) x10.2,.agg (oc (gd (Qal p.ops cut) k2)).toArray]) (V:=.bool ((Qal p.ops cut).any fun x=>QaU x (gd (Qal p.ops cut) k2))) QsQ rfl rfl (Qko _ x10.1 x10.2 (Qal p.ops cut) (gd (Qal p.ops cut) k2) (by assumption) (hs.rd 3 rfl)) hs fun _ hs=>Zz hs
  ·exact oy [2,5] [5] fun D J w hG hs=>Qbw rfl (Zz hs)
  ·exact oa [2,6] fun D J w hs=>Qa2 (h':=!((Qal p.ops cut).any fun x=>QaU x (gd (Qal p.ops cut) k2))) rfl rfl rfl (Zz hs)
  rintro J1 w33 J2 hJ hs
  replace hJ:J2=upd (mix (sq 67 8) J1 _) 74 (.bool ((Qa0 (gd (Qal p.ops cut) k2))&&(!((Qal p.ops cut).any fun x=>QaU x (gd (Qal p.ops cut) k2))))):=hJ
  subst hJ
  refine Qao (t:=(Qa0 (gd (Qal p.ops cut) k2))&&(!((Qal p.ops cut).any fun x=>QaU x (gd (Qal p.ops cut) k2)))) rfl (fun c34=>?_) (fun c34=>?_)
  ·
   have c34r:=QbC c34
   replace c34:=QbA c34
   replace c34r:=Qbp c34r
   replace hs:=hs.more emp trivial
   refine QaH HM [some 75,some 76,some 77,some 78,some 79,some 80,some 81,some 82,some 83,some 84,some 85,some 86,some 87,some 88,some 89,some 8] [[],[],[],[],[],[],[],[],[],[],[],[],[],[],[89],[89]] [0,0,2,0,8,0,32,0,128,0,512,0,2048,8190,16383,32767] [pv (.slice a6 L6.length cb6),pv (Pq b26 (0+3)),pv (I7 ((gd (Qal p.ops cut) k2).cart)),pv (Pq b26 (0+4)),pv (I7 ((gd (Qal p.ops cut) k2).item)),pv (Pq b26 (0+5)),pv (I7 ((gd (Qal p.ops cut) k2).qty)),pv (Pq b26 (0+2)),pv (.int .u8 ((gd (Qal p.ops cut) k2).kind)),pv (Pq b26 (0+0)),pv (.agg (dc ((gd (Qal p.ops cut) k2).dot)).toArray),pv (.agg (oc (gd (Qal p.ops cut) k2)).toArray),pv (.int .u64 (QcK (gd (Qal p.ops cut) k2))),pv (.agg (cec (⟨(gd (Qal p.ops cut) k2).cart,(gd (Qal p.ops cut) k2).item,(gd (Qal p.ops cut) k2).qty,(gd (Qal p.ops cut) k2).kind,(gd (Qal p.ops cut) k2).dot,QcK (gd (Qal p.ops cut) k2)⟩:Cen)).toArray),(true,fun J=>.slice (aOf (J 89)) ((QdB (⟨(gd (Qal p.ops cut) k2).cart,(gd (Qal p.ops cut) k2).item,(gd (Qal p.ops cut) k2).qty,(gd (Qal p.ops cut) k2).kind,(gd (Qal p.ops cut) k2).dot,QcK (gd (Qal p.ops cut) k2)⟩:Cen) L6).length) (cOf (J 89))),(true,fun J=>.slice (aOf (J 89)) ((QdB (⟨(gd (Qal p.ops cut) k2).cart,(gd (Qal p.ops cut) k2).item,(gd (Qal p.ops cut) k2).qty,(gd (Qal p.ops cut) k2).kind,(gd (Qal p.ops cut) k2).dot,QcK (gd (Qal p.ops cut) k2)⟩:Cen) L6).length) (cOf (J 89)))] (fun D J=>[blk b1 (((vc p.base.known)++[(.slice a1 p.base.ents.length c1:Value),(.slice a2 p.base.ticks.length c2:Value) ])++[(.slice a3 p.ops.length c3:Value) ]++(vc p.known)) 31,blk b3 (vc cut) 24,blk b5 ((vc vzero)++[(.slice none 0 0:Value),(.slice none 0 0:Value) ]) 28,row (.slice x10.1 ((Qal p.ops cut).length) x10.2) ((Qal p.ops cut).map oc) 98 23,row (.slice a6 L6.length cb6) (L6.map cec) 119 7,cond z emp (row (.slice a9 T9.length cb9) (T9.map lsc) 125 2),blk b26 (oc (gd (Qal p.ops cut) k2)) 98,row (.slice x29.1 ((QcY ((gd (Qal p.ops cut) k2).cart) ((gd (Qal p.ops cut) k2).tick) T9).length) x29.2) ((QcY ((gd (Qal p.ops cut) k2).cart) ((gd (Qal p.ops cut) k2).tick) T9).map lsc) 125 2,cond (D 14) (row (.slice (aOf (J 89)) ((QdB (⟨(gd (Qal p.ops cut) k2).cart,(gd (Qal p.ops cut) k2).item,(gd (Qal p.ops cut) k2).qty,(gd (Qal p.ops cut) k2).kind,(gd (Qal p.ops cut) k2).dot,QcK (gd (Qal p.ops cut) k2)⟩:Cen) L6).length) (cOf (J 89))) ((QdB (⟨(gd (Qal p.ops cut) k2).cart,(gd (Qal p.ops cut) k2).item,(gd (Qal p.ops cut) k2).qty,(gd (Qal p.ops cut) k2).kind,(gd (Qal p.ops cut) k2).dot,QcK (gd (Qal p.ops cut) k2)⟩:Cen) L6).map cec) 119 7) (emp)]) [15] (by kernel_rfl) hs ⟨?_,?_,?_,?_,?_,?_,?_,?_,?_,?_,?_,?_,?_,?_,?_,?_,trivial⟩ ?_
   ·exact ob [] [15] rfl rfl fun D J w hs=>Qac (V:=.slice a6 L6.length cb6) rfl (Zz hs)
   ·exact oa [] fun D J w hs=>Qae QdE rfl (Zz hs)
   ·exact oa [1] fun D J w hs=>QaE (V:=.int .u16 ((gd (Qal p.ops cut) k2).cart)) Qas hs 6 rfl rfl rfl (Zz hs)
   ·exact oa [] fun D J w hs=>Qae QcO rfl (Zz hs)
   ·exact oa [3] fun D J w hs=>QaE (V:=.int .u16 ((gd (Qal p.ops cut) k2).item)) Qas hs 6 rfl rfl rfl (Zz hs)
   ·exact oa [] fun D J w hs=>Qae Qdk rfl (Zz hs)
   ·exact oa [5] fun D J w hs=>QaE (V:=.int .u16 ((gd (Qal p.ops cut) k2).qty)) Qas hs 6 rfl rfl rfl (Zz hs)
   ·exact oa [] fun D J w hs=>Qae QbO rfl (Zz hs)
   ·exact oa [7] fun D J w hs=>QaE (V:=.int .u8 ((gd (Qal p.ops cut) k2).kind)) QcF hs 6 rfl rfl rfl (Zz hs)
   ·exact oa [] fun D J w hs=>Qae Qb0 rfl (Zz hs)
   ·exact oa [9] fun D J w hs=>QbU (vs:=dc ((gd (Qal p.ops cut) k2).dot)) QcL hs 6 rfl rfl rfl rfl (Zz hs)
   ·exact oa [] fun D J w hs=>QaJ (cs:=oc (gd (Qal p.ops cut) k2)) QbY hs 6 rfl rfl rfl (Zz hs)
   ·exact oa [11] fun D J w hs=>Qat (vs:=[.agg (oc (gd (Qal p.ops cut) k2)).toArray]) (V:=.int .u64 (QcK (gd (Qal p.ops cut) k2))) Qum rfl rfl (QkS _ (gd (Qal p.ops cut) k2) hxk) hs fun _ hs=>Zz hs
   ·exact oa [2,4,6,8,10,12] fun D J w hs=>Qbx (vs:=[(0,.int .u16 ((gd (Qal p.ops cut) k2).cart)),(1,.int .u16 ((gd (Qal p.ops cut) k2).item)),(2,.int .u16 ((gd (Qal p.ops cut) k2).qty)),(3,.int .u8 ((gd (Qal p.ops cut) k2).kind)),(4,.agg (dc ((gd (Qal p.ops cut) k2).dot)).toArray),(5,.int .u64 (QcK (gd (Qal p.ops cut) k2)))]) (cs:=cec (⟨(gd (Qal p.ops cut) k2).cart,(gd (Qal p.ops cut) k2).item,(gd (Qal p.ops cut) k2).qty,(gd (Qal p.ops cut) k2).kind,(gd (Qal p.ops cut) k2).dot,QcK (gd (Qal p.ops cut) k2)⟩:Cen)) Qsl (rfl) rfl (Zz hs)
   ·exact oa [0,13] fun D J w hs=>Qbo (vs:=[.slice a6 L6.length cb6,.agg (cec (⟨(gd (Qal p.ops cut) k2).cart,(gd (Qal p.ops cut) k2).item,(gd (Qal p.ops cut) k2).qty,(gd (Qal p.ops cut) k2).kind,(gd (Qal p.ops cut) k2).dot,QcK (gd (Qal p.ops cut) k2)⟩:Cen)).toArray]) (V:=fun x:Option Addr × Nat=>.slice x.1 (QdB (⟨(gd (Qal p.ops cut) k2).cart,(gd (Qal p.ops cut) k2).item,(gd (Qal p.ops cut) k2).qty,(gd (Qal p.ops cut) k2).kind,(gd (Qal p.ops cut) k2).dot,QcK (gd (Qal p.ops cut) k2)⟩:Cen) L6).length x.2) Qu6 rfl rfl (Qrp _ a6 cb6 L6 (⟨(gd (Qal p.ops cut) k2).cart,(gd (Qal p.ops cut) k2).item,(gd (Qal p.ops cut) k2).qty,(gd (Qal p.ops cut) k2).kind,(gd (Qal p.ops cut) k2).dot,QcK (gd (Qal p.ops cut) k2)⟩:Cen) (by omega) (hs.rd 4 rfl)) hs fun _ _ hs _=>⟨rfl,hs.put 8 (QQ8 rfl)⟩
   ·exact oa [14] fun D J w hs=>Qad (V:=.slice (aOf (J 89)) ((QdB (⟨(gd (Qal p.ops cut) k2).cart,(gd (Qal p.ops cut) k2).item,(gd (Qal p.ops cut) k2).qty,(gd (Qal p.ops cut) k2).kind,(gd (Qal p.ops cut) k2).dot,QcK (gd (Qal p.ops cut) k2)⟩:Cen) L6).length) (cOf (J 89))) rfl (Zz hs)
   rintro J1 w37 J2 hJ hs
   replace hJ:J2=upd (mix (sq 75 15++[8]) J1 _) 8 (.slice (aOf (J1 89)) ((QdB (⟨(gd (Qal p.ops cut) k2).cart,(gd (Qal p.ops cut) k2).item,(gd (Qal p.ops cut) k2).qty,(gd (Qal p.ops cut) k2).kind,(gd (Qal p.ops cut) k2).dot,QcK (gd (Qal p.ops cut) k2)⟩:Cen) L6).length) (cOf (J1 89))):=hJ
   replace hs:Own w no w37 [blk b1 (((vc p.base.known)++[(.slice a1 p.base.ents.length c1:Value),(.slice a2 p.base.ticks.length c2:Value) ])++[(.slice a3 p.ops.length c3:Value) ]++(vc p.known)) 31,blk b3 (vc cut) 24,blk b5 ((vc vzero)++[(.slice none 0 0:Value),(.slice none 0 0:Value) ]) 28,row (.slice x10.1 ((Qal p.ops cut).length) x10.2) ((Qal p.ops cut).map oc) 98 23,row (.slice a6 L6.length cb6) (L6.map cec) 119 7,cond z emp (row (.slice a9 T9.length cb9) (T9.map lsc) 125 2),blk b26 (oc (gd (Qal p.ops cut) k2)) 98,row (.slice x29.1 ((QcY ((gd (Qal p.ops cut) k2).cart) ((gd (Qal p.ops cut) k2).tick) T9).length) x29.2) ((QcY ((gd (Qal p.ops cut) k2).cart) ((gd (Qal p.ops cut) k2).tick) T9).map lsc) 125 2,row (.slice (aOf (J1 89)) ((QdB (⟨(gd (Qal p.ops cut) k2).cart,(gd (Qal p.ops cut) k2).item,(gd (Qal p.ops cut) k2).qty,(gd (Qal p.ops cut) k2).kind,(gd (Qal p.ops cut) k2).dot,QcK (gd (Qal p.ops cut) k2)⟩:Cen) L6).length) (cOf (J1 89))) ((QdB (⟨(gd (Qal p.ops cut) k2).cart,(gd (Qal p.ops cut) k2).item,(gd (Qal p.ops cut) k2).qty,(gd (Qal p.ops cut) k2).kind,(gd (Qal p.ops cut) k2).dot,QcK (gd (Qal p.ops cut) k2)⟩:Cen) L6).map cec) 119 7]:=hs
   generalize (aOf (J1 89))=a38 at hJ hs
   generalize (cOf (J1 89))=c39 at hJ hs
   subst hJ
   refine Qab (Qaa (Qac (V:=I6 (k2:Int)) rfl (Qaa (QaD (a:=(k2:Int)) (b:=1) (c:=((k2+1:Nat):Int)) rfl rfl (Qak (by omega) (by omega)) (Qaa (Qad (V:=I6 ((k2+1:Nat):Int)) rfl (Qaf ?_)))))))
   have ho:=hs.sel [0,1,2,3,8,7] (L':=[blk b1 (((vc p.base.known)++[(.slice a1 p.base.ents.length c1:Value),(.slice a2 p.base.ticks.length c2:Value) ])++[(.slice a3 p.ops.length c3:Value) ]++(vc p.known)) 31,blk b3 (vc cut) 24,blk b5 ((vc vzero)++[(.slice none 0 0:Value),(.slice none 0 0:Value) ]) 28,row (.slice x10.1 ((Qal p.ops cut).length) x10.2) ((Qal p.ops cut).map oc) 98 23,row (.slice a38 ((QdB (⟨(gd (Qal p.ops cut) k2).cart,(gd (Qal p.ops cut) k2).item,(gd (Qal p.ops cut) k2).qty,(gd (Qal p.ops cut) k2).kind,(gd (Qal p.ops cut) k2).dot,QcK (gd (Qal p.ops cut) k2)⟩:Cen) L6).length) c39) ((QdB (⟨(gd (Qal p.ops cut) k2).cart,(gd (Qal p.ops cut) k2).item,(gd (Qal p.ops cut) k2).qty,(gd (Qal p.ops cut) k2).kind,(gd (Qal p.ops cut) k2).dot,QcK (gd (Qal p.ops cut) k2)⟩:Cen) L6).map cec) 119 7,row (.slice x29.1 ((QcY ((gd (Qal p.ops cut) k2).cart) ((gd (Qal p.ops cut) k2).tick) T9).length) x29.2) ((QcY ((gd (Qal p.ops cut) k2).cart) ((gd (Qal p.ops cut) k2).tick) T9).map lsc) 125 2]) (by decide) rfl
   replace hs:=ho
   refine ⟨_,?_,_,k2+1,a38,c39,QdB (⟨(gd (Qal p.ops cut) k2).cart,(gd (Qal p.ops cut) k2).item,(gd (Qal p.ops cut) k2).qty,(gd (Qal p.ops cut) k2).kind,(gd (Qal p.ops cut) k2).dot,QcK (gd (Qal p.ops cut) k2)⟩:Cen) L6,false,x29.1,x29.2,QcY ((gd (Qal p.ops cut) k2).cart) ((gd (Qal p.ops cut) k2).tick) T9,Qai (Qai (Qai (Qap (ds:=([8,9,12,13]++sq 51 39)) (by repeat (first|exact Agr.refl _ _|refine Agr.upd ?_ rfl|refine Agr.mix ?_ rfl))) rfl) rfl) rfl,(by omega),(Qrl hL6 (by omega) c34 c34r),(QiH hT9 (by omega)),(fun h=>nomatch h),(by rw [QhA];omega),rfl,hs.take 6⟩
   omega
  refine Qaq (Qab (Qaa (Qac (V:=I6 (k2:Int)) rfl (Qaa (QaD (a:=(k2:Int)) (b:=1) (c:=((k2+1:Nat):Int)) rfl rfl (Qak (by omega) (by omega)) (Qaa (Qad (V:=I6 ((k2+1:Nat):Int)) rfl (Qaf ?_))))))))
  have ho:=hs.sel [0,1,2,3,4,7] (L':=[blk b1 (((vc p.base.known)++[(.slice a1 p.base.ents.length c1:Value),(.slice a2 p.base.ticks.length c2:Value) ])++[(.slice a3 p.ops.length c3:Value) ]++(vc p.known)) 31,blk b3 (vc cut) 24,blk b5 ((vc vzero)++[(.slice none 0 0:Value),(.slice none 0 0:Value) ]) 28,row (.slice x10.1 ((Qal p.ops cut).length) x10.2) ((Qal p.ops cut).map oc) 98 23,row (.slice a6 L6.length cb6) (L6.map cec) 119 7,row (.slice x29.1 ((QcY ((gd (Qal p.ops cut) k2).cart) ((gd (Qal p.ops cut) k2).tick) T9).length) x29.2) ((QcY ((gd (Qal p.ops cut) k2).cart) ((gd (Qal p.ops cut) k2).tick) T9).map lsc) 125 2]) (by decide) rfl
  replace hs:=ho
  refine ⟨_,?_,_,k2+1,a6,cb6,L6,false,x29.1,x29.2,QcY ((gd (Qal p.ops cut) k2).cart) ((gd (Qal p.ops cut) k2).tick) T9,Qai (Qai (Qai (Qap (ds:=([8,9,12,13]++sq 51 39)) (by repeat (first|exact Agr.refl _ _|refine Agr.upd ?_ rfl|refine Agr.mix ?_ rfl))) rfl) rfl) rfl,(by omega),(QnS hL6 (by omega) c34),(QiH hT9 (by omega)),(fun h=>nomatch h),(by omega),rfl,hs.take 6⟩
  omega
 replace c25:=QQ2 c25
 refine QaG (Qah (Qab (Qaa (QaJ (cs:=vc cut) QbB hs 1 rfl rfl rfl (Qaa (Qac (V:=.slice a6 L6.length cb6) rfl (Qaa (Qac (V:=.slice a9 T9.length cb9) rfl (Qaa (Qcz (vs:=[(0,.agg (vc cut).toArray),(1,.slice a6 L6.length cb6),(2,.slice a9 T9.length cb9)]) (cs:=(vc cut)++[(.slice a6 L6.length cb6:Value),(.slice a9 T9.length cb9:Value) ]) [vc vzero,[(.slice none 0 0:Value)],[(.slice none 0 0:Value)]] [vc cut,[(.slice a6 L6.length cb6:Value)],[(.slice a9 T9.length cb9:Value)]] Qt5 rfl (rfl) rfl rfl (Qaa (QcH (V:=.agg ((vc cut)++[(.slice a6 L6.length cb6:Value),(.slice a9 T9.length cb9:Value) ]).toArray) (vs:=(vc cut)++[(.slice a6 L6.length cb6:Value),(.slice a9 T9.length cb9:Value) ]) (cs':=(vc cut)++[(.slice a6 L6.length cb6:Value),(.slice a9 T9.length cb9:Value) ]) Qez.1 hs 2 rfl rfl rfl rfl rfl (QQ8 rfl) (QbQ (Qcv _) (Qaw rfl (Qaw rfl Qbg))) (QaC rfl) fun w40 hs=>(Qaa (Qad (V:=I6 0) rfl (Qaf (Qav ?_))))))))))))))))
 refine ⟨_,Qdr (cs:=(vc cut)++[(.slice a6 L6.length cb6:Value),(.slice a9 T9.length cb9:Value) ]) (V:=I6 0) Tryz.results14 Qez hs 2 rfl rfl rfl rfl,?_⟩
 have hmz:=c8
 have hX:=Qll hmz (by omega) hL6 hT9
 rw [hX,hmz]
 have ho:=hs.two 4 5 (by decide) rfl rfl
 exact ⟨(((a6,cb6),(a9,cb9)),z),rfl,ho,hz9⟩
end Tt
end Go.Proofs
namespace Go.Proofs
open Go Go.Vx Go.RowKit
namespace Tt
theorem Qn3 (w:World) (x y:Cen):Calls Tryz.prog 150 #[.agg (cec x).toArray,.agg (cec y).toArray] w (fun e w'=>e = .returned (.bool (Qco x y))/\Own w no w' []):=by
 refine Qaj (n:=36) Tryz.func150 rfl Tryz.ntmps150 rfl ?_
 have hs:=Own.start w
 refine Qah (Qab (Qaa (QaR (V:=.agg (cec x).toArray) (cs:=cec x) rfl rfl hs fun b1 w2 hs=>(Qaa (QaR (V:=.agg (cec y).toArray) (cs:=cec y) rfl rfl hs fun b3 w4 hs=>(Qaa (Qad (V:=.bool false) rfl (Qaf (Qah (Qah (Qab (Qaa (Qae Qej rfl (Qaa (QaE (V:=.int .u64 x.count) Qes hs 0 rfl rfl rfl (Qaa (Qae Qej rfl (Qaa (QaE (V:=.int .u64 y.count) Qes hs 1 rfl rfl rfl (Qaa (Qch rfl rfl (Qaf (Qao (t:=!decide (x.count=y.count)) rfl (fun c5=>?_) (fun c5=>?_))))))))))))))))))))))))
 ·
  replace c5:=Qbp c5
  replace c5:=QQ2 c5
  refine Qah (Qab (Qaa (Qae Qej rfl (Qaa (QaE (V:=.int .u64 x.count) Qes hs 0 rfl rfl rfl (Qaa (Qae Qej rfl (Qaa (QaE (V:=.int .u64 y.count) Qes hs 1 rfl rfl rfl (Qaa (QaQ rfl rfl (Qaa (Qad (V:=.bool (decide (x.count<y.count))) rfl (Qaf (Qav ?_)))))))))))))))
  refine ⟨_,Qar (V:=.bool (decide (x.count<y.count))) Tryz.results150 rfl,(Zr hs ?_)⟩
  unfold Qco;rw [if_neg c5]
 replace c5:=Qbf c5
 replace c5:=QQ1 c5
 refine Qaq (Qah (Qah (Qab (Qaa (Qae QbI rfl (Qaa (Qae QbE rfl (Qaa (QaE (V:=.int .u8 x.dot.rep) QcF hs 0 rfl rfl rfl (Qaa (Qae QbI rfl (Qaa (Qae QbE rfl (Qaa (QaE (V:=.int .u8 y.dot.rep) QcF hs 1 rfl rfl rfl (Qaa (Qch rfl rfl (Qaf (Qao (t:=!decide (x.dot.rep=y.dot.rep)) rfl (fun c6=>?_) (fun c6=>?_))))))))))))))))))))
 ·
  replace c6:=Qbp c6
  replace c6:=QQ2 c6
  refine Qah (Qab (Qaa (Qae QbI rfl (Qaa (Qae QbE rfl (Qaa (QaE (V:=.int .u8 x.dot.rep) QcF hs 0 rfl rfl rfl (Qaa (Qae QbI rfl (Qaa (Qae QbE rfl (Qaa (QaE (V:=.int .u8 y.dot.rep) QcF hs 1 rfl rfl rfl (Qaa (QaQ rfl rfl (Qaa (Qad (V:=.bool (decide (x.dot.rep<y.dot.rep))) rfl (Qaf (Qav ?_)))))))))))))))))))
  refine ⟨_,Qar (V:=.bool (decide (x.dot.rep<y.dot.rep))) Tryz.results150 rfl,(Zr hs ?_)⟩
  unfold Qco;rw [if_pos c5,if_neg c6]
 replace c6:=Qbf c6
 replace c6:=QQ1 c6
 refine Qaq (Qah (Qab (Qaa (Qae QbI rfl (Qaa (Qae QbM rfl (Qaa (QaE (V:=.int .u32 x.dot.seq) QaY hs 0 rfl rfl rfl (Qaa (Qae QbI rfl (Qaa (Qae QbM rfl (Qaa (QaE (V:=.int .u32 y.dot.seq) QaY hs 1 rfl rfl rfl (Qaa (QaQ rfl rfl (Qaa (Qad (V:=.bool (decide (x.dot.seq<y.dot.seq))) rfl (Qaf (Qav ?_))))))))))))))))))))
 refine ⟨_,Qar (V:=.bool (decide (x.dot.seq<y.dot.seq))) Tryz.results150 rfl,(Zr hs ?_)⟩
 unfold Qco;rw [if_pos c5,if_pos c6]
theorem Qng (w:World) (s:Sta) (a1:Option Addr) (c1:Nat) (a2:Option Addr) (c2:Nat) (c n:Int) (hE0:∀ e∈s.ents,Qe5 e) (hr1:Rd w (.slice a1 s.ents.length c1) 7 (s.ents.map cec)) (hr2:Rd w (.slice a2 s.ticks.length c2) 2 (s.ticks.map lsc)):Calls Tryz.prog 102 #[.agg ((vc s.known)++[(.slice a1 s.ents.length c1:Value),(.slice a2 s.ticks.length c2:Value) ]).toArray,.int .u16 c,.int .i64 n] w (fun e w'=>e = .returned (.tuple #[.int .u32 (QcN (QbD s c n)),.bool (QdP s c n)])/\Own w no w' []):=by
 refine Qaj (n:=74) Tryz.func102 rfl Tryz.ntmps102 rfl ?_
 have hs:=Own.start w
 have hn1:=hr1.sml
 refine Qah (Qab (Qaa (QaR (V:=.agg ((vc s.known)++[(.slice a1 s.ents.length c1:Value),(.slice a2 s.ticks.length c2:Value) ]).toArray) (cs:=(vc s.known)++[(.slice a1 s.ents.length c1:Value),(.slice a2 s.ticks.length c2:Value) ]) rfl rfl hs fun b1 w2 hs=>(Qaa (Qad (V:=.int .u32 0) rfl (Qaa (Qad (V:=.bool false) rfl (Qaf (Qah (Qab (Qaa (Qad (V:=.int .u32 0) rfl (Qaa (Qad (V:=I6 (-1)) rfl (Qaa (Qad (V:=.bool false) rfl (Qaf (Qah (Qah (Qab (Qaa (Qad (V:=I6 0) rfl (Qaf (Qan (QaA (fun J μ J' w'=>∃ (Jo:Env) (k:Nat) (sm:Int) (bi:Int) (av:Bool),J'=upd (upd (upd (upd (mix (sq 8 53) Jo J) 11 (I6 (k:Int))) 8 (.int .u32 sm)) 9 (I6 bi)) 10 (.bool av)/\(k<=s.ents.length)/\(sm=QfQ (ofK s c n k))/\(Qe9 s c n k bi)/\(av=(s.ents.take k).any (itP c n))/\μ=s.ents.length-k/\Own w no w' [blk b1 ((vc s.known)++[(.slice a1 s.ents.length c1:Value),(.slice a2 s.ticks.length c2:Value) ]) 28]) ?_ ?_)))))))))))))))))))))))))
 ·exact ⟨_,_,0,0,-1,false,Qai (Qai (Qai (Qai (Qap (ds:=(sq 8 53)) (Agr.refl _ _)) rfl) rfl) rfl) rfl,(by omega),rfl,(.inl ⟨rfl,rfl⟩),rfl,rfl,hs⟩
 rintro μ J' w3 ⟨Jo,k,sm,bi,av,rfl,hk,hsm,hbi,hav,rfl,hs⟩
 have hbb:=QpD hbi hk
 refine Qah (Qah (Qab (Qaa (Qac (V:=I6 (k:Int)) rfl (Qaa (Qae QbR rfl (Qaa (QaE (V:=.slice a1 s.ents.length c1) QdH hs 0 rfl rfl rfl (Qaa (Qa4 (n:=s.ents.length) QcX (Rd.own' hr1 hs) (by simp) rfl (Qaa (QaQ rfl rfl (Qaf (Qao (t:=decide ((k:Int)<((s.ents.length:Nat):Int))) rfl (fun c4=>?_) (fun c4=>?_)))))))))))))))
 ·
  replace c4:=QQ1 c4
  refine Qaq (Qah (Qan (Qah (Qab (Qaa (Qae QbR rfl (Qaa (QaE (V:=.slice a1 s.ents.length c1) QdH hs 0 rfl rfl rfl (Qaa (Qac (V:=I6 (k:Int)) rfl (Qaa (Qax QcX Qbt.1 (Rd.own' hr1 hs) rfl rfl (by omega) (by rw [QQ6];omega) (Qaa (Qa5 (j:=0) (vs:=cec (gd s.ents k)) k Qbt (Rd.own' hr1 hs) (QaW (by omega)) rfl rfl rfl (by omega) (Qaa (QaM (cs:=cec (⟨0,0,0,0,(⟨0,0⟩:Dot),0⟩:Cen)) QmH rfl hs fun b5 w6 hs=>(Qaa (QcH (V:=.agg (cec (gd s.ents k)).toArray) (vs:=cec (gd s.ents k)) (cs':=cec (gd s.ents k)) Qbt.1 hs 1 rfl rfl rfl rfl rfl (QQ8 rfl) (Qa7 _) (QaC rfl) fun w7 hs=>(Qaf (Qah (Qah ?_)))))))))))))))))))))
  have hce:=hE0 _ (QbK (l:=s.ents) (i:=k) (by omega))
  have ⟨_,⟨hi1,hi2⟩,⟨hq1,hq2⟩,_⟩:=hce
  refine Qbh [some 25,some 26,some 27,some 28,some 29,some 30,some 31,some 32,some 33,some 34,some 35,some 36,some 37,some 38,some 39,some 40] [] [0,1,0,7,15,31,63,127,31,511,1023,2047,4095,8191,16383,32767] [pv (Pq b5 (0+0)),pv (I7 ((gd s.ents k).cart)),pv (I7 c),pv (.bool (!decide ((gd s.ents k).cart=c))),pv (.bool (!decide ((gd s.ents k).cart=c))),pg ((!decide ((gd s.ents k).cart=c)) == false) (Pq b5 (0+1)),pg ((!decide ((gd s.ents k).cart=c)) == false) (I7 ((gd s.ents k).item)),pg ((!decide ((gd s.ents k).cart=c)) == false) (I6 ((gd s.ents k).item)),pg ((!decide ((gd s.ents k).cart=c)) == false) (I6 n),pg ((!decide ((gd s.ents k).cart=c)) == false) (.bool (!decide ((gd s.ents k).item=n))),pv (.bool ((!decide ((gd s.ents k).cart=c))||(!decide ((gd s.ents k).item=n)))),pv (.bool ((!decide ((gd s.ents k).cart=c))||(!decide ((gd s.ents k).item=n)))),pg (((!decide ((gd s.ents k).cart=c))||(!decide ((gd s.ents k).item=n))) == false) (Pq b5 (0+3)),pg (((!decide ((gd s.ents k).cart=c))||(!decide ((gd s.ents k).item=n))) == false) (.int .u8 ((gd s.ents k).kind)),pg (((!decide ((gd s.ents k).cart=c))||(!decide ((gd s.ents k).item=n))) == false) (.bool (decide ((gd s.ents k).kind=4))),pv (.bool (((!decide ((gd s.ents k).cart=c))||(!decide ((gd s.ents k).item=n)))||(decide ((gd s.ents k).kind=4))))] (fun _ _=>_) [15] (by kernel_rfl) hs ⟨?_,?_,?_,?_,?_,?_,?_,?_,?_,?_,?_,?_,?_,?_,?_,?_,trivial⟩ ?_
  ·exact oa [] fun D J w hs=>Qae Qdc rfl (Zz hs)
  ·exact oa [0] fun D J w hs=>QaE (V:=.int .u16 ((gd s.ents k).cart)) Qas hs 1 rfl rfl rfl (Zz hs)
  ·exact oa [] fun D J w hs=>Qac (V:=.int .u16 c) rfl (Zz hs)
  ·exact oa [1,2] fun D J w hs=>Qch rfl rfl (Zz hs)
  ·exact oa [3] fun D J w hs=>Qac (V:=.bool (!decide ((gd s.ents k).cart=c))) rfl (Zz hs)
  ·exact og [4] fun D J w hG hs=>Qae QfN rfl (Zz hs)
  ·exact oy [4,5] [5] fun D J w hG hs=>QaE (V:=.int .u16 ((gd s.ents k).item)) Qas hs 1 rfl rfl rfl (Zz hs)
  ·exact oy [4,6] [6] fun D J w hG hs=>Qb5 QiY QhS rfl (QbH (by omega) (by omega)) (Zz hs)
  ·exact og [4] fun D J w hG hs=>Qac (V:=.int .i64 n) rfl (Zz hs)
  ·exact oy [4,7,8] [7,8] fun D J w hG hs=>Qch rfl rfl (Zz hs)
  ·exact oa [4,9] fun D J w hs=>QbZ (h':=!decide ((gd s.ents k).item=n)) rfl rfl rfl (Zz hs)
  ·exact oa [10] fun D J w hs=>Qac (V:=.bool ((!decide ((gd s.ents k).cart=c))||(!decide ((gd s.ents k).item=n)))) rfl (Zz hs)
  ·exact og [11] fun D J w hG hs=>Qae Qeg rfl (Zz hs)
  ·exact oy [11,12] [12] fun D J w hG hs=>QaE (V:=.int .u8 ((gd s.ents k).kind)) QcF hs 1 rfl rfl rfl (Zz hs)
  ·exact oy [11,13] [13] fun D J w hG hs=>QaS rfl rfl (Zz hs)
  ·exact oa [11,14] fun D J w hs=>QbZ (h':=decide ((gd s.ents k).kind=4)) rfl rfl rfl (Zz hs)
  rintro J1 w8 J2 hJ hs
  replace hJ:J2=upd (mix (sq 25 16) J1 _) 40 (.bool (((!decide ((gd s.ents k).cart=c))||(!decide ((gd s.ents k).item=n)))||(decide ((gd s.ents k).kind=4)))):=hJ
  subst hJ
  refine Qao (t:=((!decide ((gd s.ents k).cart=c))||(!decide ((gd s.ents k).item=n)))||(decide ((gd s.ents k).kind=4))) rfl (fun c9=>?_) (fun c9=>?_)
  ·
   refine QaG (Qab (Qaa (Qac (V:=I6 (k:Int)) rfl (Qaa (QaD (a:=(k:Int)) (b:=1) (c:=((k+1:Nat):Int)) rfl rfl (Qak (by omega) (by omega)) (Qaa (Qad (V:=I6 ((k+1:Nat):Int)) rfl (Qaf ?_))))))))
   have hit:itP c n (gd s.ents k)=false:=by
    have hq:=c9
    unfold itP
    revert hq
    cases decide ((gd s.ents k).cart=c)<;>cases decide ((gd s.ents k).item=n)<;>cases decide ((gd s.ents k).kind=4)<;>simp
   refine ⟨_,?_,_,k+1,sm,bi,av,Qai (Qai (Qai (Qai (Qap (ds:=(sq 8 53)) (by repeat (first|exact Agr.refl _ _|refine Agr.upd ?_ rfl|refine Agr.mix ?_ rfl))) rfl) rfl) rfl) rfl,(by omega),(by rw [QpL (by omega) hit];exact hsm),(Qnf hbi (by omega) hit),(by rw [← QcG (p:=itP c n) hav (by omega),hit,Bool.or_false]),rfl,hs.take 1⟩
   omega
  have c9r:=Qfe c9
  replace c9:=Qfk c9
  have c9rr:=Qfe c9
  replace c9:=Qfk c9
  replace c9:=Qbf c9
  replace c9:=QQ1 c9
  replace c9rr:=Qbf c9rr
  replace c9rr:=QQ1 c9rr
  replace c9r:=QQ2 c9r
  refine Qaq (Qah (Qab (Qaa (Qad (V:=.bool true) rfl (Qaf (Qah (Qab (Qaa (Qae Qeg rfl (Qaa (QaE (V:=.int .u8 ((gd s.ents k).kind)) QcF hs 1 rfl rfl rfl (Qaa (QaS rfl rfl (Qaf (Qao (t:=decide ((gd s.ents k).kind=1)) rfl (fun c10=>?_) (fun c10=>?_))))))))))))))))
  ·
   replace c10:=QQ1 c10
   refine Qab (Qaa (Qac (V:=.int .u32 sm) rfl (Qaa (Qae Qe7 rfl (Qaa (QaE (V:=I7 ((gd s.ents k).qty)) Qas hs 1 rfl rfl rfl (Qaa (Qb5 QiY QkC rfl (Qfy (by omega) (by omega)) (Qaa (QaD (a:=sm) (b:=(gd s.ents k).qty) (c:=(sm+((gd s.ents k).qty))%4294967296) rfl rfl (Qkq _) (Qaa (Qad (V:=.int .u32 ((sm+((gd s.ents k).qty))%4294967296)) rfl (Qaf (Qab (Qaa (Qac (V:=I6 (k:Int)) rfl (Qaa (QaD (a:=(k:Int)) (b:=1) (c:=((k+1:Nat):Int)) rfl rfl (Qak (by omega) (by omega)) (Qaa (Qad (V:=I6 ((k+1:Nat):Int)) rfl (Qaf ?_)))))))))))))))))))))
   have hit:itP c n (gd s.ents k)=true:=by
    unfold itP
    rw [QQ3 c9,QQ3 c9rr,QQ4 c9r];rfl
   refine ⟨_,?_,_,k+1,(sm+((gd s.ents k).qty))%4294967296,bi,true,Qai (Qai (Qai (Qai (Qap (ds:=(sq 8 53)) (by repeat (first|exact Agr.refl _ _|refine Agr.upd ?_ rfl|refine Agr.mix ?_ rfl))) rfl) rfl) rfl) rfl,(by omega),(Qqr hsm (by omega) hit c10),(Qps hbi (by omega) hit c10),(by rw [← QcG (p:=itP c n) hav (by omega),hit,Bool.or_true]),rfl,hs.take 1⟩
   omega
  replace c10:=QQ2 c10
  refine Qah (QaH HM [some 49,some 50,some 51,some 52,some 53,some 54,some 55,some 56,some 57,some 58,some 59] [] [0,1,3,7,15,7,63,127,7,511,1023] [pv (I6 bi),pv (.bool (decide (bi<0))),pv (.bool (decide (bi<0))),pg ((decide (bi<0)) == false) (Pq b1 (0+16)),pg ((decide (bi<0)) == false) (.slice a1 s.ents.length c1),pg ((decide (bi<0)) == false) (I6 bi),pg ((decide (bi<0)) == false) (.pointer (some ⟨bkS (.slice a1 s.ents.length c1),ofS (.slice a1 s.ents.length c1)+bi.toNat*7,none⟩)),pg ((decide (bi<0)) == false) (.agg (cec (gd s.ents bi.toNat)).toArray),pg ((decide (bi<0)) == false) (.agg (cec (gd s.ents k)).toArray),pg ((decide (bi<0)) == false) (.bool (Qco (gd s.ents bi.toNat) (gd s.ents k))),pv (.bool ((decide (bi<0))||(Qco (gd s.ents bi.toNat) (gd s.ents k))))] (fun _ _=>_) [10] (by kernel_rfl) hs ⟨?_,?_,?_,?_,?_,?_,?_,?_,?_,?_,?_,trivial⟩ ?_)
  ·exact oa [] fun D J w hs=>Qac (V:=.int .i64 bi) rfl (Zz hs)
  ·exact oa [0] fun D J w hs=>QaQ rfl rfl (Zz hs)
  ·exact oa [1] fun D J w hs=>Qac (V:=.bool (decide (bi<0))) rfl (Zz hs)
  ·exact og [2] fun D J w hG hs=>Qae QbR rfl (Zz hs)
  ·exact oy [2,3] [3] fun D J w hG hs=>QaE (V:=.slice a1 s.ents.length c1) QdH hs 0 rfl rfl rfl (Zz hs)
  ·exact og [2] fun D J w hG hs=>Qac (V:=.int .i64 bi) rfl (Zz hs)
  ·refine oy [2,4,5] [4,5] fun D J w hG hs=>?_
   have hgd:=QQ2 (eq_of_beq (hG))
   exact Qax QcX Qbt.1 (Rd.own' hr1 hs) rfl rfl (by omega) (by rw [QQ6];omega) (Zz hs)
  ·refine oy [2,6] [6] fun D J w hG hs=>?_
   have hgd:=QQ2 (eq_of_beq (hG))
   exact Qa5 (j:=0) (vs:=cec (gd s.ents bi.toNat)) bi.toNat Qbt (Rd.own' hr1 hs) (QaW (by omega)) rfl rfl rfl (by omega) (Zz hs)
  ·exact og [2] fun D J w hG hs=>QaJ (cs:=cec (gd s.ents k)) Qbt hs 1 rfl rfl rfl (Zz hs)
  ·exact oy [2,7,8] [7,8] fun D J w hG hs=>Qat (vs:=[.agg (cec (gd s.ents bi.toNat)).toArray,.agg (cec (gd s.ents k)).toArray]) (V:=.bool (Qco (gd s.ents bi.toNat) (gd s.ents k))) QsU rfl rfl (Qn3 _ (gd s.ents bi.toNat) (gd s.ents k)) hs fun _ hs=>Zz hs
  ·exact oa [2,9] fun D J w hs=>QbZ (h':=Qco (gd s.ents bi.toNat) (gd s.ents k)) rfl rfl rfl (Zz hs)
  rintro J1 w12 J2 hJ hs
  replace hJ:J2=upd (mix (sq 49 11) J1 _) 59 (.bool ((decide (bi<0))||(Qco (gd s.ents bi.toNat) (gd s.ents k)))):=hJ
  subst hJ
  refine Qao (t:=(decide (bi<0))||(Qco (gd s.ents bi.toNat) (gd s.ents k))) rfl (fun c13=>?_) (fun c13=>?_)
  ·
   refine Qab (Qaa (Qac (V:=I6 (k:Int)) rfl (Qaa (Qad (V:=I6 (k:Int)) rfl (Qaf (Qab (Qaa (Qac (V:=I6 (k:Int)) rfl (Qaa (QaD (a:=(k:Int)) (b:=1) (c:=((k+1:Nat):Int)) rfl rfl (Qak (by omega) (by omega)) (Qaa (Qad (V:=I6 ((k+1:Nat):Int)) rfl (Qaf ?_)))))))))))))
   have hit:itP c n (gd s.ents k)=true:=by
    unfold itP
    rw [QQ3 c9,QQ3 c9rr,QQ4 c9r];rfl
   refine ⟨_,?_,_,k+1,sm,(k:Int),true,Qai (Qai (Qai (Qai (Qap (ds:=(sq 8 53)) (by repeat (first|exact Agr.refl _ _|refine Agr.upd ?_ rfl|refine Agr.mix ?_ rfl))) rfl) rfl) rfl) rfl,(by omega),(QpN hsm (by omega) hit c10),(Qma hbi (by omega) hit c10 c13),(by rw [← QcG (p:=itP c n) hav (by omega),hit,Bool.or_true]),rfl,hs.take 1⟩
   omega
  have c13r:=Qfe c13
  replace c13:=Qfk c13
  replace c13:=QQ2 c13
  refine Qaq (Qab (Qaa (Qac (V:=I6 (k:Int)) rfl (Qaa (QaD (a:=(k:Int)) (b:=1) (c:=((k+1:Nat):Int)) rfl rfl (Qak (by omega) (by omega)) (Qaa (Qad (V:=I6 ((k+1:Nat):Int)) rfl (Qaf ?_))))))))
  have hit:itP c n (gd s.ents k)=true:=by
   unfold itP
   rw [QQ3 c9,QQ3 c9rr,QQ4 c9r];rfl
  refine ⟨_,?_,_,k+1,sm,bi,true,Qai (Qai (Qai (Qai (Qap (ds:=(sq 8 53)) (by repeat (first|exact Agr.refl _ _|refine Agr.upd ?_ rfl|refine Agr.mix ?_ rfl))) rfl) rfl) rfl) rfl,(by omega),(QpN hsm (by omega) hit c10),(Qnr hbi (by omega) hit c10 (by rw [QQ4 c13,c13r];rfl)),(by rw [← QcG (p:=itP c n) hav (by omega),hit,Bool.or_true]),rfl,hs.take 1⟩
  omega
 replace c4:=QQ2 c4
 refine QaG (Qah (Qah ?_))
 have hbb:=QpD hbi hk
 refine Qab (Qaa (Qac (V:=I6 bi) rfl (Qaa (Qct rfl rfl (Qaf (Qao (t:=decide (0<=bi)) rfl (fun c14=>?_) (fun c14=>?_)))))))
 ·
  replace c14:=QQ1 c14
  have ⟨hq1,hq2⟩:=(hE0 _ (QbK (l:=s.ents) (i:=bi.toNat) (by omega))).2.2.1
  refine Qab (Qaa (Qac (V:=.int .u32 sm) rfl (Qaa (Qae QbR rfl (Qaa (QaE (V:=.slice a1 s.ents.length c1) QdH hs 0 rfl rfl rfl (Qaa (Qac (V:=I6 bi) rfl (Qaa (Qax QcX Qbt.1 (Rd.own' hr1 hs) rfl rfl (by omega) (by rw [QQ6];omega) (Qaa (Qae Qe7 rfl (Qaa (QaP (j:=2) (V:=I7 ((gd s.ents bi.toNat).qty)) bi.toNat Qas (Rd.own' hr1 hs) (QaW (by omega)) rfl rfl (by omega) (Qaa (Qb5 QiY QkC rfl (Qfy (by omega) (by omega)) (Qaa (QaD (a:=sm) (b:=(gd s.ents bi.toNat).qty) (c:=(sm+((gd s.ents bi.toNat).qty))%4294967296) rfl rfl (Qkq _) (Qaa (Qad (V:=.int .u32 ((sm+((gd s.ents bi.toNat).qty))%4294967296)) rfl (Qaf (Qah (Qab (Qaa (Qac (V:=.int .u32 ((sm+((gd s.ents bi.toNat).qty))%4294967296)) rfl (Qaa (Qac (V:=.bool av) rfl (Qaa (Qad (V:=.int .u32 ((sm+((gd s.ents bi.toNat).qty))%4294967296)) rfl (Qaa (Qad (V:=.bool av) rfl (Qaf (Qav ?_)))))))))))))))))))))))))))))))))
  refine ⟨_,Qbq (U:=.int .u32 ((sm+((gd s.ents bi.toNat).qty))%4294967296)) (V:=.bool av) Tryz.results102 rfl rfl,?_⟩
  have hA:av=QdP s c n:=by rw [hav,List.take_of_length_le (by omega)];rfl
  have hQ:=Qov hsm hbi (by omega) c14
  refine Zr hs ?_
  rw [hQ,hA]
 replace c14:=QQ2 c14
 refine Qaq (Qah (Qab (Qaa (Qac (V:=.int .u32 sm) rfl (Qaa (Qac (V:=.bool av) rfl (Qaa (Qad (V:=.int .u32 sm) rfl (Qaa (Qad (V:=.bool av) rfl (Qaf (Qav ?_))))))))))))
 refine ⟨_,Qbq (U:=.int .u32 sm) (V:=.bool av) Tryz.results102 rfl rfl,?_⟩
 have hA:av=QdP s c n:=by rw [hav,List.take_of_length_le (by omega)];rfl
 have hQ:=Qo1 hE0 hsm hbi (by omega) c14
 refine Zr hs ?_
 rw [hQ,hA]
end Tt
end Go.Proofs
namespace Go.Proofs
open Go Go.Vx Go.RowKit
namespace Tt
theorem Qlo (w:World) (s:Sta) (a1:Option Addr) (c1:Nat) (a2:Option Addr) (c2:Nat) (c:Int) (hok:QdG s) (hr1:Rd w (.slice a1 s.ents.length c1) 7 (s.ents.map cec)) (hr2:Rd w (.slice a2 s.ticks.length c2) 2 (s.ticks.map lsc)):Calls Tryz.prog 58 #[.agg ((vc s.known)++[(.slice a1 s.ents.length c1:Value),(.slice a2 s.ticks.length c2:Value) ]).toArray,.int .u16 c] w (fun e w'=>∃ x:Option Addr × Nat,e = .returned (.agg [.int .u16 (Qau s c (Qam s)).cart,.slice x.1 (Qau s c (Qam s)).lines.length x.2,.bool (Qau s c (Qam s)).out,.int .u32 (Qau s c (Qam s)).tick].toArray)/\Own w no w' [row (.slice x.1 (Qau s c (Qam s)).lines.length x.2) ((Qau s c (Qam s)).lines.map lc) 127 2]/\True):=by
 refine Qaj (n:=118) Tryz.func58 rfl Tryz.ntmps58 rfl ?_
 have hs:=Own.start w
 have ⟨hv0,hE0,hT0⟩:=hok
 have hn1:=hr1.sml
 refine Qah (Qab (Qaa (QaR (V:=.agg ((vc s.known)++[(.slice a1 s.ents.length c1:Value),(.slice a2 s.ticks.length c2:Value) ]).toArray) (cs:=(vc s.known)++[(.slice a1 s.ents.length c1:Value),(.slice a2 s.ticks.length c2:Value) ]) rfl rfl hs fun b1 w2 hs=>(Qaa (QaM (cs:=[I7 0,.slice none 0 0,.bool false,.int .u32 0]) QhJ rfl hs fun b3 w4 hs=>(Qaf (Qah (Qab (Qaa (Qac (V:=I7 c) rfl (Qaa (Qbx (vs:=[(0,I7 c)]) (cs:=[I7 c,.slice none 0 0,.bool false,.int .u32 0]) Qqs (rfl) rfl (Qaa (QaM (cs:=[I7 0,.slice none 0 0,.bool false,.int .u32 0]) QhJ rfl hs fun b5 w6 hs=>(Qaa (QcH (V:=.agg #[I7 c,.slice none 0 0,.bool false,.int .u32 0]) (vs:=[I7 c,.slice none 0 0,.bool false,.int .u32 0]) (cs':=[I7 c,.slice none 0 0,.bool false,.int .u32 0]) Qc3.1 hs 2 rfl rfl rfl rfl rfl (QQ8 rfl) (Qaw rfl (Qaw rfl (Qaw rfl (Qaw rfl Qbg)))) (QaC rfl) fun w7 hs=>?_))))))))))))))))
 replace hs:Own w no w7 [blk b1 ((vc s.known)++[(.slice a1 s.ents.length c1:Value),(.slice a2 s.ticks.length c2:Value) ]) 28,blk b3 [I7 0,.slice none 0 0,.bool false,.int .u32 0] 49,blk b5 [I7 c,.slice none 0 0,.bool false,.int .u32 0] 49]:=hs
 refine Qaf (Qah (Qah (Qab (Qaa (QaJ (cs:=(vc s.known)++[(.slice a1 s.ents.length c1:Value),(.slice a2 s.ticks.length c2:Value) ]) Qez hs 0 rfl rfl rfl (Qaa (Qat (vs:=[.agg ((vc s.known)++[(.slice a1 s.ents.length c1:Value),(.slice a2 s.ticks.length c2:Value) ]).toArray]) (V:=.bool (Qam s)) Qqg rfl rfl ?hc hs fun w8 hs=>?_)))))))
 case hc=>exact (QgV _ s a1 c1 a2 c2 hok (Rd.own' hr1 hs) (Rd.own' hr2 hs))
 refine Qaa (Qbw rfl (Qaf (Qao (t:=!(Qam s)) rfl (fun c9=>?_) (fun c9=>?_))))
 ·
  replace c9:=Qbp c9
  refine Qah (Qab (Qaa (QaJ (cs:=[I7 c,.slice none 0 0,.bool false,.int .u32 0]) Qc3 hs 2 rfl rfl rfl (Qaa (QcH (V:=.agg #[I7 c,.slice none 0 0,.bool false,.int .u32 0]) (vs:=[I7 c,.slice none 0 0,.bool false,.int .u32 0]) (cs':=[I7 c,.slice none 0 0,.bool false,.int .u32 0]) Qc3.1 hs 1 rfl rfl rfl rfl rfl (QQ8 rfl) (Qaw rfl (Qaw rfl (Qaw rfl (Qaw rfl Qbg)))) (QaC rfl) fun w10 hs=>(Qaf (Qav ?_)))))))
  refine ⟨_,QcA (cs:=[I7 c,.slice none 0 0,.bool false,.int .u32 0]) Tryz.results58 Qc3 hs 1 rfl rfl rfl,?_⟩
  rw [c9]
  exact ⟨(none,0),rfl,(hs.take 0).more _ (Qbk _ _ 127 2),trivial⟩
 replace c9:=Qbf c9
 refine Qaq (Qah (Qab (Qaa (QaJ (cs:=(vc s.known)++[(.slice a1 s.ents.length c1:Value),(.slice a2 s.ticks.length c2:Value) ]) Qez hs 0 rfl rfl rfl (Qaa (Qac (V:=I7 c) rfl (Qaa (Qat (vs:=[.agg ((vc s.known)++[(.slice a1 s.ents.length c1:Value),(.slice a2 s.ticks.length c2:Value) ]).toArray,I7 c]) (V:=.tuple #[.int .u32 ((QaB s.ticks c).getD 0),.bool ((QaB s.ticks c).isSome)]) Qqd rfl rfl ?hc hs fun w11 hs=>?_))))))))
 case hc=>exact (Qkv _ s a1 c1 a2 c2 c (Rd.own' hr1 hs) (Rd.own' hr2 hs))
 refine Qaa (Qac (V:=.tuple #[.int .u32 ((QaB s.ticks c).getD 0),.bool ((QaB s.ticks c).isSome)]) rfl (Qaa (Qay (V:=.int .u32 ((QaB s.ticks c).getD 0)) rfl rfl (Qaa (Qay (V:=.bool ((QaB s.ticks c).isSome)) rfl rfl (Qaa (Qad (V:=.int .u32 ((QaB s.ticks c).getD 0)) rfl (Qaa (Qad (V:=.bool ((QaB s.ticks c).isSome)) rfl (Qaf (Qah (Qab (Qaa (Qac (V:=.int .u32 ((QaB s.ticks c).getD 0)) rfl (Qaa (Qae QhR rfl (Qaa (Qc2 (V:=.int .u32 ((QaB s.ticks c).getD 0)) (cs':=[I7 c,.slice none 0 0,.bool false,.int .u32 ((QaB s.ticks c).getD 0)]) QaY hs 2 rfl rfl rfl rfl (QQ8 rfl) rfl fun w12 hs=>(Qaf (Qah (Qah (Qab (Qaa (Qad (V:=I6 0) rfl (Qaf (Qan (QaA (fun J μ J' w'=>∃ (Jo:Env) (k:Nat) (ou:Bool),J'=upd (mix ([8]++sq 32 29) Jo J) 8 (I6 (k:Int))/\(k<=s.ents.length)/\(ou=(s.ents.take k).any (fun e:Cen=>decide (e.cart=c)&&decide (e.kind=4)))/\μ=s.ents.length-k/\Own w no w' [blk b1 ((vc s.known)++[(.slice a1 s.ents.length c1:Value),(.slice a2 s.ticks.length c2:Value) ]) 28,blk b3 [I7 0,.slice none 0 0,.bool false,.int .u32 0] 49,blk b5 [I7 c,.slice none 0 0,.bool ou,.int .u32 ((QaB s.ticks c).getD 0)] 49]) ?_ ?_)))))))))))))))))))))))))))
 ·exact ⟨_,_,0,false,Qai (Qap (ds:=([8]++sq 32 29)) (Agr.refl _ _)) rfl,(by omega),rfl,rfl,hs⟩
 rintro μ J' w13 ⟨Jo,k,ou,rfl,hk,hob,rfl,hs⟩
 refine Qah (Qah (Qab (Qaa (Qac (V:=I6 (k:Int)) rfl (Qaa (Qae QbR rfl (Qaa (QaE (V:=.slice a1 s.ents.length c1) QdH hs 0 rfl rfl rfl (Qaa (Qa4 (n:=s.ents.length) QcX (Rd.own' hr1 hs) (by simp) rfl (Qaa (QaQ rfl rfl (Qaf (Qao (t:=decide ((k:Int)<((s.ents.length:Nat):Int))) rfl (fun c14=>?_) (fun c14=>?_)))))))))))))))
 ·
  replace c14:=QQ1 c14
  refine Qaq (Qah (Qan (Qbh [some 39,some 40,some 41,some 42,some 43,some 44,some 45,some 46,some 47,some 48,some 49,some 50,some 51,some 52,some 53,some 54,some 55,some 56,some 57,some 58,some 59,some 60,none] [] [0,1,3,7,15,7,63,127,255,7,1023,2047,4095,8191,4095,32767,65535,131071,262143,524287,1048575,2097151,4194303] [pv (Pq b5 (0+2)),pv (.bool ou),pv (.bool ou),pg (ou == false) (Pq b1 (0+16)),pg (ou == false) (.slice a1 s.ents.length c1),pg (ou == false) (I6 (k:Int)),pg (ou == false) (.pointer (some ⟨bkS (.slice a1 s.ents.length c1),ofS (.slice a1 s.ents.length c1)+(k:Int).toNat*7,none⟩)),pg (ou == false) (.pointer (some ⟨bkS (.slice a1 s.ents.length c1),ofS (.slice a1 s.ents.length c1)+(k:Int).toNat*7+0,none⟩)),pg (ou == false) (I7 ((gd s.ents k).cart)),pg (ou == false) (I7 c),pg (ou == false) (.bool (decide ((gd s.ents k).cart=c))),pg (ou == false) (.bool (decide ((gd s.ents k).cart=c))),pg ((ou == false)&&((decide ((gd s.ents k).cart=c)) == true)) (Pq b1 (0+16)),pg ((ou == false)&&((decide ((gd s.ents k).cart=c)) == true)) (.slice a1 s.ents.length c1),pg ((ou == false)&&((decide ((gd s.ents k).cart=c)) == true)) (I6 (k:Int)),pg ((ou == false)&&((decide ((gd s.ents k).cart=c)) == true)) (.pointer (some ⟨bkS (.slice a1 s.ents.length c1),ofS (.slice a1 s.ents.length c1)+(k:Int).toNat*7,none⟩)),pg ((ou == false)&&((decide ((gd s.ents k).cart=c)) == true)) (.pointer (some ⟨bkS (.slice a1 s.ents.length c1),ofS (.slice a1 s.ents.length c1)+(k:Int).toNat*7+3,none⟩)),pg ((ou == false)&&((decide ((gd s.ents k).cart=c)) == true)) (.int .u8 ((gd s.ents k).kind)),pg ((ou == false)&&((decide ((gd s.ents k).cart=c)) == true)) (.bool (decide ((gd s.ents k).kind=4))),pg (ou == false) (.bool ((decide ((gd s.ents k).cart=c))&&(decide ((gd s.ents k).kind=4)))),pv (.bool (ou||((decide ((gd s.ents k).cart=c))&&(decide ((gd s.ents k).kind=4))))),pv (Pq b5 (0+2)),pn] (fun D J=>[blk b1 ((vc s.known)++[(.slice a1 s.ents.length c1:Value),(.slice a2 s.ticks.length c2:Value) ]) 28,blk b3 [I7 0,.slice none 0 0,.bool false,.int .u32 0] 49,cond (D 22) (blk b5 [I7 c,.slice none 0 0,.bool (ou||((decide ((gd s.ents k).cart=c))&&(decide ((gd s.ents k).kind=4)))),.int .u32 ((QaB s.ticks c).getD 0)] 49) (blk b5 [I7 c,.slice none 0 0,.bool ou,.int .u32 ((QaB s.ticks c).getD 0)] 49)]) [] (by kernel_rfl) hs ⟨?_,?_,?_,?_,?_,?_,?_,?_,?_,?_,?_,?_,?_,?_,?_,?_,?_,?_,?_,?_,?_,?_,?_,trivial⟩ ?_)))
  ·exact oa [] fun D J w hs=>Qae QdC rfl (Zz hs)
  ·exact ob [0] [22] rfl rfl fun D J w hs=>QaE (V:=.bool ou) Qpt hs 2 rfl rfl rfl (Zz hs)
  ·exact oa [1] fun D J w hs=>Qac (V:=.bool ou) rfl (Zz hs)
  ·exact og [2] fun D J w hG hs=>Qae QbR rfl (Zz hs)
  ·exact oy [2,3] [3] fun D J w hG hs=>QaE (V:=.slice a1 s.ents.length c1) QdH hs 0 rfl rfl rfl (Zz hs)
  ·exact og [2] fun D J w hG hs=>Qac (V:=.int .i64 (k:Int)) rfl (Zz hs)
  ·exact oy [2,4,5] [4,5] fun D J w hG hs=>Qax QcX Qbt.1 (Rd.own' hr1 hs) rfl rfl (by omega) (by rw [QQ6];omega) (Zz hs)
  ·exact oy [2,6] [6] fun D J w hG hs=>Qae Qdc rfl (Zz hs)
  ·exact oy [2,7] [7] fun D J w hG hs=>QaP (j:=0) (V:=.int .u16 ((gd s.ents k).cart)) k Qas (Rd.own' hr1 hs) (QaW (by omega)) rfl rfl (by omega) (Zz hs)
  ·exact og [2] fun D J w hG hs=>Qac (V:=.int .u16 c) rfl (Zz hs)
  ·exact oy [2,8,9] [8,9] fun D J w hG hs=>QaS rfl rfl (Zz hs)
  ·exact oy [2,10] [10] fun D J w hG hs=>Qac (V:=.bool (decide ((gd s.ents k).cart=c))) rfl (Zz hs)
  ·exact og [11] fun D J w hG hs=>Qae QbR rfl (Zz hs)
  ·exact oy [11,12] [12] fun D J w hG hs=>QaE (V:=.slice a1 s.ents.length c1) QdH hs 0 rfl rfl rfl (Zz hs)
  ·exact og [11] fun D J w hG hs=>Qac (V:=.int .i64 (k:Int)) rfl (Zz hs)
  ·refine oy [11,13,14] [13,14] fun D J w hG hs=>?_
   have hgd1:=QQ1 (eq_of_beq (QbC (hG)))
   exact Qax QcX Qbt.1 (Rd.own' hr1 hs) rfl rfl (by omega) (by rw [QQ6];omega) (Zz hs)
  ·exact oy [11,15] [15] fun D J w hG hs=>Qae Qeg rfl (Zz hs)
  ·refine oy [11,16] [16] fun D J w hG hs=>?_
   have hgd1:=QQ1 (eq_of_beq (QbC (hG)))
   exact QaP (j:=3) (V:=.int .u8 ((gd s.ents k).kind)) k QcF (Rd.own' hr1 hs) (QaW (by omega)) rfl rfl (by omega) (Zz hs)
  ·exact oy [11,17] [17] fun D J w hG hs=>QaS rfl rfl (Zz hs)
  ·exact oy [2,11,18] [11] fun D J w hG hs=>Qgk (h':=decide ((gd s.ents k).kind=4)) (G:=(ou == false)) hG rfl rfl rfl (Zz hs)
  ·exact oa [2,19] fun D J w hs=>QbZ (h':=(decide ((gd s.ents k).cart=c))&&(decide ((gd s.ents k).kind=4))) rfl rfl rfl (Zz hs)
  ·exact oa [] fun D J w hs=>Qae QdC rfl (Zz hs)
  ·exact oa [20,21] fun D J w hs=>Qc2 (V:=.bool (ou||((decide ((gd s.ents k).cart=c))&&(decide ((gd s.ents k).kind=4))))) (cs':=[.int .u16 c,.slice none 0 0,.bool (ou||((decide ((gd s.ents k).cart=c))&&(decide ((gd s.ents k).kind=4)))),.int .u32 ((QaB s.ticks c).getD 0)]) Qpt hs 2 rfl rfl rfl rfl (QQ8 rfl) rfl fun _ hs=>⟨trivial,hs⟩
  rintro J1 w16 J2 hJ hs
  replace hJ:J2=mix (sq 39 22) J1 _:=hJ
  replace hs:Own w no w16 [blk b1 ((vc s.known)++[(.slice a1 s.ents.length c1:Value),(.slice a2 s.ticks.length c2:Value) ]) 28,blk b3 [I7 0,.slice none 0 0,.bool false,.int .u32 0] 49,blk b5 [I7 c,.slice none 0 0,.bool (ou||((decide ((gd s.ents k).cart=c))&&(decide ((gd s.ents k).kind=4)))),.int .u32 ((QaB s.ticks c).getD 0)] 49]:=hs
  subst hJ
  refine Qab (Qaa (Qac (V:=I6 (k:Int)) rfl (Qaa (QaD (a:=(k:Int)) (b:=1) (c:=((k+1:Nat):Int)) rfl rfl (Qak (by omega) (by omega)) (Qaa (Qad (V:=I6 ((k+1:Nat):Int)) rfl (Qaf ?_)))))))
  refine ⟨_,?_,_,k+1,ou||((decide ((gd s.ents k).cart=c))&&(decide ((gd s.ents k).kind=4))),Qai (Qap (ds:=([8]++sq 32 29)) (by repeat (first|exact Agr.refl _ _|refine Agr.upd ?_ rfl|refine Agr.mix ?_ rfl))) rfl,(by omega),(QcG (p:=(fun e:Cen=>decide (e.cart=c)&&decide (e.kind=4))) hob (by omega)),rfl,hs.take 3⟩
  omega
 replace c14:=QQ2 c14
 refine QaG (Qah (Qab (Qaa (Qad (V:=.slice none 0 0) rfl (Qaf (Qah (Qab (Qaa (Qad (V:=I6 (-1)) rfl (Qaf (Qan ?_)))))))))))
 replace hs:=hs.more (row (.slice none 0 0) (List.map lc []) 127 2) (Qbk _ _ _ _)
 rw [Qcc (by omega)] at hob
 have hc0:∀ x∈Qdi s c s.ents.length,0<=x/\x<65536:=fun x hx=>by
  obtain ⟨e,he,e2⟩:=List.mem_map.1 (List.mem_filter.1 hx).1
  rw [← e2];exact (hE0 e (List.mem_of_mem_take he)).2.1
 have hc1:∀ x∈Qdi s c s.ents.length,0<=x:=fun x hx=>(hc0 x hx).1
 refine QaA (fun J μ J' w'=>∃ (Jo:Env) (last:Int) (I:List Int) (an6:Option Addr) (cn6:Nat) (ol:List Line),J'=upd (upd (mix (sq 9 9++sq 61 57) Jo J) 10 (I6 last)) 9 (.slice an6 ol.length cn6)/\(-1<=last/\last<65536)/\(((ol.length:Nat):Int)<=last+1)/\(UpTo (Qdi s c s.ents.length) last I)/\(ol=I.map (QgG s c))/\μ=(65536-last).toNat/\Own w no w' [blk b1 ((vc s.known)++[(.slice a1 s.ents.length c1:Value),(.slice a2 s.ticks.length c2:Value) ]) 28,blk b3 [I7 0,.slice none 0 0,.bool false,.int .u32 0] 49,blk b5 [I7 c,.slice none 0 0,.bool ou,.int .u32 ((QaB s.ticks c).getD 0)] 49,row (.slice an6 ol.length cn6) (ol.map lc) 127 2]) ?_ ?_
 ·exact ⟨_,_,-1,[],none,0,[],Qai (Qai (Qap (ds:=(sq 9 9++sq 61 57)) (Agr.refl _ _)) rfl) rfl,(by omega),(by simp),(Qn4 hc1),rfl,rfl,hs⟩
 rintro μ J' w17 ⟨Jo,last,I,an6,cn6,ol,rfl,hla,hll,hup,hol,rfl,hs⟩
 refine Qan (Qah (Qab (Qaa (Qad (V:=I6 (-1)) rfl (Qaf (Qah (Qah (Qab (Qaa (Qad (V:=I6 0) rfl (Qaf (Qan (QaA (fun J μ J' w'=>∃ (Jo:Env) (k3:Nat) (nx:Int),J'=upd (upd (mix ([11,12,13,14,15]++sq 61 37) Jo J) 12 (I6 (k3:Int))) 11 (I6 nx)/\(k3<=s.ents.length)/\(nx=Qcy last (Qdi s c k3))/\(-1<=nx/\nx<65536)/\μ=s.ents.length-k3/\Own w no w' [blk b1 ((vc s.known)++[(.slice a1 s.ents.length c1:Value),(.slice a2 s.ticks.length c2:Value) ]) 28,blk b3 [I7 0,.slice none 0 0,.bool false,.int .u32 0] 49,blk b5 [I7 c,.slice none 0 0,.bool ou,.int .u32 ((QaB s.ticks c).getD 0)] 49,row (.slice an6 ol.length cn6) (ol.map lc) 127 2]) ?_ ?_)))))))))))))
 ·exact ⟨_,_,0,-1,Qai (Qai (Qap (ds:=([11,12,13,14,15]++sq 61 37)) (Agr.refl _ _)) rfl) rfl,(by omega),rfl,(by omega),rfl,hs⟩
 rintro μ J' w18 ⟨Jo,k3,nx,rfl,hk3,hmin,hnx,rfl,hs⟩
 refine Qah (Qah (Qab (Qaa (Qac (V:=I6 (k3:Int)) rfl (Qaa (Qae QbR rfl (Qaa (QaE (V:=.slice a1 s.ents.length c1) QdH hs 0 rfl rfl rfl (Qaa (Qa4 (n:=s.ents.length) QcX (Rd.own' hr1 hs) (by simp) rfl (Qaa (QaQ rfl rfl (Qaf (Qao (t:=decide ((k3:Int)<((s.ents.length:Nat):Int))) rfl (fun c19=>?_) (fun c19=>?_)))))))))))))))
 ·
  replace c19:=QQ1 c19
  refine Qaq (Qah (Qan (Qah ?_)))
  have ⟨_,⟨hi1,hi2⟩,_⟩:=hE0 _ (QbK (l:=s.ents) (i:=k3) (by omega))
  refine Qab (Qaa (Qae QbR rfl (Qaa (QaE (V:=.slice a1 s.ents.length c1) QdH hs 0 rfl rfl rfl (Qaa (Qac (V:=I6 (k3:Int)) rfl (Qaa (Qax QcX Qbt.1 (Rd.own' hr1 hs) rfl rfl (by omega) (by rw [QQ6];omega) (Qaa (Qae QfN rfl (Qaa (QaP (j:=1) (V:=I7 ((gd s.ents k3).item)) k3 Qas (Rd.own' hr1 hs) (QaW (by omega)) rfl rfl (by omega) (Qaa (Qb5 QiY QhS rfl (QbH (by omega) (by omega)) (Qaa (Qad (V:=I6 ((gd s.ents k3).item)) rfl (Qaf (Qah (Qab (Qaa (QaJ (cs:=(vc s.known)++[(.slice a1 s.ents.length c1:Value),(.slice a2 s.ticks.length c2:Value) ]) Qez hs 0 rfl rfl rfl (Qaa (Qac (V:=I7 c) rfl (Qaa (Qac (V:=I6 ((gd s.ents k3).item)) rfl (Qaa (Qat (vs:=[.agg ((vc s.known)++[(.slice a1 s.ents.length c1:Value),(.slice a2 s.ticks.length c2:Value) ]).toArray,I7 c,I6 ((gd s.ents k3).item)]) (V:=.tuple #[.int .u32 (QcN (QbD s c ((gd s.ents k3).item))),.bool (QdP s c ((gd s.ents k3).item))]) QpS rfl rfl ?hc hs fun w20 hs=>?_)))))))))))))))))))))))))))
  case hc=>exact (Qng _ s a1 c1 a2 c2 c ((gd s.ents k3).item) hE0 (Rd.own' hr1 hs) (Rd.own' hr2 hs))
  refine Qaa (Qac (V:=.tuple #[.int .u32 (QcN (QbD s c ((gd s.ents k3).item))),.bool (QdP s c ((gd s.ents k3).item))]) rfl (Qaa (Qay (V:=.int .u32 (QcN (QbD s c ((gd s.ents k3).item)))) rfl rfl (Qaa (Qay (V:=.bool (QdP s c ((gd s.ents k3).item))) rfl rfl (Qaa (Qad (V:=.int .u32 (QcN (QbD s c ((gd s.ents k3).item)))) rfl (Qaa (Qad (V:=.bool (QdP s c ((gd s.ents k3).item))) rfl (Qaf (Qah (Qbh [some 82,some 83,some 84,some 85,some 86,some 87,some 88,some 89,some 90,some 91,some 92,some 93,some 94,some 95,some 96] [] [0,1,3,3,15,31,63,127,255,511,1023,1023,4095,8191,16383] [pv (.bool (QdP s c ((gd s.ents k3).item))),pv (.bool (QdP s c ((gd s.ents k3).item))),pg ((QdP s c ((gd s.ents k3).item)) == true) (I6 ((gd s.ents k3).item)),pg ((QdP s c ((gd s.ents k3).item)) == true) (I6 last),pg ((QdP s c ((gd s.ents k3).item)) == true) (.bool (decide (last<(gd s.ents k3).item))),pv (.bool ((QdP s c ((gd s.ents k3).item))&&(decide (last<(gd s.ents k3).item)))),pv (.bool ((QdP s c ((gd s.ents k3).item))&&(decide (last<(gd s.ents k3).item)))),pg (((QdP s c ((gd s.ents k3).item))&&(decide (last<(gd s.ents k3).item))) == true) (I6 nx),pg (((QdP s c ((gd s.ents k3).item))&&(decide (last<(gd s.ents k3).item))) == true) (.bool (decide (nx<0))),pg (((QdP s c ((gd s.ents k3).item))&&(decide (last<(gd s.ents k3).item))) == true) (.bool (decide (nx<0))),pg ((((QdP s c ((gd s.ents k3).item))&&(decide (last<(gd s.ents k3).item))) == true)&&((decide (nx<0)) == false)) (I6 ((gd s.ents k3).item)),pg ((((QdP s c ((gd s.ents k3).item))&&(decide (last<(gd s.ents k3).item))) == true)&&((decide (nx<0)) == false)) (I6 nx),pg ((((QdP s c ((gd s.ents k3).item))&&(decide (last<(gd s.ents k3).item))) == true)&&((decide (nx<0)) == false)) (.bool (decide ((gd s.ents k3).item<nx))),pg (((QdP s c ((gd s.ents k3).item))&&(decide (last<(gd s.ents k3).item))) == true) (.bool ((decide (nx<0))||(decide ((gd s.ents k3).item<nx)))),pv (.bool (((QdP s c ((gd s.ents k3).item))&&(decide (last<(gd s.ents k3).item)))&&((decide (nx<0))||(decide ((gd s.ents k3).item<nx)))))] (fun _ _=>_) [14] (by kernel_rfl) hs ⟨?_,?_,?_,?_,?_,?_,?_,?_,?_,?_,?_,?_,?_,?_,?_,trivial⟩ ?_))))))))))))
  ·exact oa [] fun D J w hs=>Qac (V:=.bool (QdP s c ((gd s.ents k3).item))) rfl (Zz hs)
  ·exact oa [0] fun D J w hs=>Qac (V:=.bool (QdP s c ((gd s.ents k3).item))) rfl (Zz hs)
  ·exact og [1] fun D J w hG hs=>Qac (V:=.int .i64 ((gd s.ents k3).item)) rfl (Zz hs)
  ·exact og [1] fun D J w hG hs=>Qac (V:=.int .i64 last) rfl (Zz hs)
  ·exact oy [1,2,3] [2,3] fun D J w hG hs=>QbP rfl rfl (Zz hs)
  ·exact oa [1,4] fun D J w hs=>Qa2 (h':=decide (last<(gd s.ents k3).item)) rfl rfl rfl (Zz hs)
  ·exact oa [5] fun D J w hs=>Qac (V:=.bool ((QdP s c ((gd s.ents k3).item))&&(decide (last<(gd s.ents k3).item)))) rfl (Zz hs)
  ·exact og [6] fun D J w hG hs=>Qac (V:=.int .i64 nx) rfl (Zz hs)
  ·exact oy [6,7] [7] fun D J w hG hs=>QaQ rfl rfl (Zz hs)
  ·exact oy [6,8] [8] fun D J w hG hs=>Qac (V:=.bool (decide (nx<0))) rfl (Zz hs)
  ·exact og [9] fun D J w hG hs=>Qac (V:=.int .i64 ((gd s.ents k3).item)) rfl (Zz hs)
  ·exact og [9] fun D J w hG hs=>Qac (V:=.int .i64 nx) rfl (Zz hs)
  ·exact oy [9,10,11] [10,11] fun D J w hG hs=>QaQ rfl rfl (Zz hs)
  ·exact oy [6,9,12] [9] fun D J w hG hs=>QuG (h':=decide ((gd s.ents k3).item<nx)) (G:=(((QdP s c ((gd s.ents k3).item))&&(decide (last<(gd s.ents k3).item))) == true)) hG rfl rfl rfl (Zz hs)
  ·exact oa [6,13] fun D J w hs=>Qa2 (h':=(decide (nx<0))||(decide ((gd s.ents k3).item<nx))) rfl rfl rfl (Zz hs)
  rintro J1 w21 J2 hJ hs
  replace hJ:J2=upd (mix (sq 82 15) J1 _) 96 (.bool (((QdP s c ((gd s.ents k3).item))&&(decide (last<(gd s.ents k3).item)))&&((decide (nx<0))||(decide ((gd s.ents k3).item<nx))))):=hJ
  subst hJ
  refine Qao (t:=((QdP s c ((gd s.ents k3).item))&&(decide (last<(gd s.ents k3).item)))&&((decide (nx<0))||(decide ((gd s.ents k3).item<nx)))) rfl (fun c22=>?_) (fun c22=>?_)
  ·
   have c22r:=QbC c22
   replace c22:=QbA c22
   have c22rr:=QbC c22
   replace c22:=QbA c22
   replace c22rr:=QQ1 c22rr
   refine Qab (Qaa (Qac (V:=I6 ((gd s.ents k3).item)) rfl (Qaa (Qad (V:=I6 ((gd s.ents k3).item)) rfl (Qaf (Qab (Qaa (Qac (V:=I6 (k3:Int)) rfl (Qaa (QaD (a:=(k3:Int)) (b:=1) (c:=((k3+1:Nat):Int)) rfl rfl (Qak (by omega) (by omega)) (Qaa (Qad (V:=I6 ((k3+1:Nat):Int)) rfl (Qaf ?_)))))))))))))
   refine ⟨_,?_,_,k3+1,(gd s.ents k3).item,Qai (Qai (Qap (ds:=([11,12,13,14,15]++sq 61 37)) (by repeat (first|exact Agr.refl _ _|refine Agr.upd ?_ rfl|refine Agr.mix ?_ rfl))) rfl) rfl,(by omega),(QnT hmin (by omega) c22 c22rr (by have:=c22r;simp at this;omega)),(by omega),rfl,hs.take 4⟩
   omega
  refine Qaq (Qab (Qaa (Qac (V:=I6 (k3:Int)) rfl (Qaa (QaD (a:=(k3:Int)) (b:=1) (c:=((k3+1:Nat):Int)) rfl rfl (Qak (by omega) (by omega)) (Qaa (Qad (V:=I6 ((k3+1:Nat):Int)) rfl (Qaf ?_))))))))
  refine ⟨_,?_,_,k3+1,nx,Qai (Qai (Qap (ds:=([11,12,13,14,15]++sq 61 37)) (by repeat (first|exact Agr.refl _ _|refine Agr.upd ?_ rfl|refine Agr.mix ?_ rfl))) rfl) rfl,(by omega),(QqY hmin (by omega) (by intro ⟨h0,h1,h2⟩;have:=c22;simp [h0,h1,h2] at this;omega)),(by omega),rfl,hs.take 4⟩
  omega
 replace c19:=QQ2 c19
 refine QaG (Qah (Qah ?_))
 rw [show Qdi s c k3=Qdi s c s.ents.length by rw [show k3=s.ents.length by omega]] at hmin
 refine Qab (Qaa (Qac (V:=I6 nx) rfl (Qaa (QaQ rfl rfl (Qaf (Qao (t:=decide (nx<0)) rfl (fun c23=>?_) (fun c23=>?_)))))))
 ·
  replace c23:=QQ1 c23
  refine Qah (Qab (Qaa (Qac (V:=.slice an6 ol.length cn6) rfl (Qaa (Qae QdV rfl (Qaa (Qc2 (V:=.slice an6 ol.length cn6) (cs':=[I7 c,.slice an6 ol.length cn6,.bool ou,.int .u32 ((QaB s.ticks c).getD 0)]) QiG hs 2 rfl rfl rfl rfl (QQ8 rfl) rfl fun w24 hs=>(Qaf (Qah (Qab (Qaa (QaJ (cs:=[I7 c,.slice an6 ol.length cn6,.bool ou,.int .u32 ((QaB s.ticks c).getD 0)]) Qc3 hs 2 rfl rfl rfl (Qaa (QcH (V:=.agg #[I7 c,.slice an6 ol.length cn6,.bool ou,.int .u32 ((QaB s.ticks c).getD 0)]) (vs:=[I7 c,.slice an6 ol.length cn6,.bool ou,.int .u32 ((QaB s.ticks c).getD 0)]) (cs':=[I7 c,.slice an6 ol.length cn6,.bool ou,.int .u32 ((QaB s.ticks c).getD 0)]) Qc3.1 hs 1 rfl rfl rfl rfl rfl (QQ8 rfl) (Qaw rfl (Qaw rfl (Qaw rfl (Qaw rfl Qbg)))) (QaC rfl) fun w25 hs=>(Qaf (Qav ?_))))))))))))))))
  refine ⟨_,QcA (cs:=[I7 c,.slice an6 ol.length cn6,.bool ou,.int .u32 ((QaB s.ticks c).getD 0)]) Tryz.results58 Qc3 hs 1 rfl rfl rfl,?_⟩
  have hI:=QnZ hup hla.1 hc1 (by rw [← hmin];exact c23)
  have hV:=QnM c9 (tk:=(QaB s.ticks c).getD 0) rfl hob hI hol
  rw [hV]
  exact ⟨(an6,cn6),rfl,hs.only 3 rfl,trivial⟩
 replace c23:=QQ2 c23
 refine Qaq (Qah ?_)
 have hgt:=QrD hla.1 hc1 (by rw [← hmin];exact c23)
 rw [← hmin] at hgt
 have hup2:UpTo (Qdi s c s.ents.length) nx (I++[nx]):=by rw [hmin];exact Qnc hup hla.1 hc1 (by rw [← hmin];exact c23)
 refine Qab (Qaa (QaJ (cs:=(vc s.known)++[(.slice a1 s.ents.length c1:Value),(.slice a2 s.ticks.length c2:Value) ]) Qez hs 0 rfl rfl rfl (Qaa (Qac (V:=I7 c) rfl (Qaa (Qac (V:=I6 nx) rfl (Qaa (Qat (vs:=[.agg ((vc s.known)++[(.slice a1 s.ents.length c1:Value),(.slice a2 s.ticks.length c2:Value) ]).toArray,I7 c,I6 nx]) (V:=.tuple #[.int .u32 (QcN (QbD s c nx)),.bool (QdP s c nx)]) QpS rfl rfl ?hc hs fun w26 hs=>?_))))))))
 case hc=>exact (Qng _ s a1 c1 a2 c2 c nx hE0 (Rd.own' hr1 hs) (Rd.own' hr2 hs))
 refine Qaa (Qac (V:=.tuple #[.int .u32 (QcN (QbD s c nx)),.bool (QdP s c nx)]) rfl (Qaa (Qay (V:=.int .u32 (QcN (QbD s c nx))) rfl rfl (Qaa (Qay (V:=.bool (QdP s c nx)) rfl rfl (Qaa (Qad (V:=.int .u32 (QcN (QbD s c nx))) rfl (Qaa (Qad (V:=.bool (QdP s c nx)) rfl (Qaf (Qah (Qab (Qaa (Qac (V:=.slice an6 ol.length cn6) rfl (Qaa (Qac (V:=I6 nx) rfl (Qaa (Qb5 QhS QiY rfl (Qt0 (by omega) (by omega)) (Qaa (Qac (V:=.int .u32 (QcN (QbD s c nx))) rfl (Qaa (Qbx (vs:=[(0,I7 nx),(1,.int .u32 (QcN (QbD s c nx)))]) (cs:=lc (⟨nx,QcN (QbD s c nx)⟩:Line)) Qp5 (rfl) rfl (Qaa (Qfb (vals:=[.agg (lc (⟨nx,QcN (QbD s c nx)⟩:Line)).toArray]) (ls:=List.map lc ([(⟨nx,QcN (QbD s c nx)⟩:Line)]:List Line)) Qo8 rfl rfl rfl (Qbd (enc:=lc) (fun _=>rfl) _) (QaK Qix _) (QQ8 rfl) hs fun b27 w28 hs=>(Qaa (Qb3 (ls':=(ol++[(⟨nx,QcN (QbD s c nx)⟩:Line)]).map lc) (n:=(ol++[(⟨nx,QcN (QbD s c nx)⟩:Line)]).length) Qo8 hs 3 rfl rfl rfl (hs.rd 4 rfl) (QaK Qix _) (by simp only [QQ6,QQ7,List.length_cons,List.length_nil];omega) (by simp) (by simp) fun a29 c29 w30 hs=>(Qaa (Qad (V:=.slice a29 ((ol++[(⟨nx,QcN (QbD s c nx)⟩:Line)]).length) c29) rfl (Qaf (Qab (Qaa (Qac (V:=I6 nx) rfl (Qaa (Qad (V:=I6 nx) rfl (Qaf ?_)))))))))))))))))))))))))))))))))))
 refine ⟨_,?_,_,nx,I++[nx],a29,c29,ol++[(⟨nx,QcN (QbD s c nx)⟩:Line)],Qai (Qai (Qap (ds:=(sq 9 9++sq 61 57)) (by repeat (first|exact Agr.refl _ _|refine Agr.upd ?_ rfl|refine Agr.mix ?_ rfl))) rfl) rfl,(by omega),(by simp only [QQ7,List.length_singleton];omega),hup2,(Qiv hol rfl),rfl,hs.take 4⟩
 omega
end Tt
end Go.Proofs
