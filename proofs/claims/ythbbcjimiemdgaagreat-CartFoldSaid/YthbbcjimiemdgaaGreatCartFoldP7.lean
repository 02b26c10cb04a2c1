/- A part of a proof: what functions of the program compute, and plain facts on that. -/
import Derived.Test.YthbbcjimiemdgaaGreatCartFoldP6
import Derived.KernelRfl
import Derived.Test.YthbbcjimiemdgaaGreatProg
import Derived.Shelf.SlSortCmp.WholeK
import Derived.Shelf.SlLaysF0
import Derived.Ground.SlsfProg
import Derived.Shelf.SlSortCmp.NoneTotal
set_option linter.unusedVariables false
set_option linter.unusedSimpArgs false
set_option maxHeartbeats 4000000
set_option maxRecDepth 100000
namespace Go.Proofs
open Go Go.Vx Go.RowKit
namespace Tt
theorem Qn3 (w:World) (s:Sta) (a1:Option Addr) (c1:Nat) (a2:Option Addr) (c2:Nat) (n:Int) (hok:QcT s) (hle:s.ents.length≤1000) (hlt:s.ticks.length≤1000) (hr1:Rd w (.slice a1 s.ents.length c1) 7 (s.ents.map cec)) (hr2:Rd w (.slice a2 s.ticks.length c2) 2 (s.ticks.map lsc)):Calls Tryz.prog 20 #[.agg ((vc s.known)++[(.slice a1 s.ents.length c1:Value),(.slice a2 s.ticks.length c2:Value) ]).toArray,.int .u16 n] w (fun e w'=>∃ x:Option Addr × Nat,e = .returned (.agg [.int .u16 (Qfy s n (QaO s)).cart,.slice x.1 (Qfy s n (QaO s)).lines.length x.2,.bool (Qfy s n (QaO s)).out,.int .u32 (Qfy s n (QaO s)).tick].toArray)∧Own w no w' [row (.slice x.1 (Qfy s n (QaO s)).lines.length x.2) ((Qfy s n (QaO s)).lines.map lc) 74 2]∧True):=by
 refine Qai (n:=94) Tryz.func20 rfl Tryz.ntmps20 rfl ?_
 have hs:=Own.start w
 have ⟨hv0,hE0,hT0⟩:=hok
 refine Qag (Qab (Qaa (Qa9 (V:=.agg ((vc s.known)++[(.slice a1 s.ents.length c1:Value),(.slice a2 s.ticks.length c2:Value) ]).toArray) (cs:=(vc s.known)++[(.slice a1 s.ents.length c1:Value),(.slice a2 s.ticks.length c2:Value) ]) rfl rfl hs fun b1 w2 hs=>(Qaa (QaJ (cs:=[I7 0,.slice none 0 0,.bool false,.int .u32 0]) Qik rfl hs fun b3 w4 hs=>(Qae (Qag (Qab (Qaa (Qac (V:=I7 n) rfl (Qaa (Qcy (vs:=[(0,I7 n)]) (cs:=[I7 n,.slice none 0 0,.bool false,.int .u32 0]) QqD (rfl) rfl (Qaa (QaJ (cs:=[I7 0,.slice none 0 0,.bool false,.int .u32 0]) Qik rfl hs fun b5 w6 hs=>(Qaa (QcC (V:=.agg #[I7 n,.slice none 0 0,.bool false,.int .u32 0]) (vs:=[I7 n,.slice none 0 0,.bool false,.int .u32 0]) (cs':=[I7 n,.slice none 0 0,.bool false,.int .u32 0]) Qeh.1 hs 2 rfl rfl rfl rfl rfl (QQ8 rfl) (Qau rfl (Qau rfl (Qau rfl (Qau rfl Qbu)))) (Qaw rfl) fun w7 hs=>?_))))))))))))))))
 replace hs:Own w no w7 [blk b1 ((vc s.known)++[(.slice a1 s.ents.length c1:Value),(.slice a2 s.ticks.length c2:Value) ]) 39,blk b3 [I7 0,.slice none 0 0,.bool false,.int .u32 0] 64,blk b5 [I7 n,.slice none 0 0,.bool false,.int .u32 0] 64]:=hs
 refine Qae (Qag (Qag (Qab (Qaa (QaR (cs:=(vc s.known)++[(.slice a1 s.ents.length c1:Value),(.slice a2 s.ticks.length c2:Value) ]) Qbz hs 0 rfl rfl rfl (Qaa (Qar (vs:=[.agg ((vc s.known)++[(.slice a1 s.ents.length c1:Value),(.slice a2 s.ticks.length c2:Value) ]).toArray]) (V:=.bool (QaO s)) QiA rfl rfl ?hc hs fun w8 hs=>?_)))))))
 case hc=>exact (Qc7 _ s a1 c1 a2 c2 hok (by omega) (by omega) (Rd.own' hr1 hs) (Rd.own' hr2 hs))
 refine Qaa (Qbw rfl (Qae (Qal (t:=!(QaO s)) rfl (fun c9=>?_) (fun c9=>?_))))
 ·
  replace c9:=QbL c9
  refine Qag (Qab (Qaa (QaR (cs:=[I7 n,.slice none 0 0,.bool false,.int .u32 0]) Qeh hs 2 rfl rfl rfl (Qaa (QcC (V:=.agg #[I7 n,.slice none 0 0,.bool false,.int .u32 0]) (vs:=[I7 n,.slice none 0 0,.bool false,.int .u32 0]) (cs':=[I7 n,.slice none 0 0,.bool false,.int .u32 0]) Qeh.1 hs 1 rfl rfl rfl rfl rfl (QQ8 rfl) (Qau rfl (Qau rfl (Qau rfl (Qau rfl Qbu)))) (Qaw rfl) fun w10 hs=>(Qae (Qas ?_)))))))
  refine ⟨_,Qcx (cs:=[I7 n,.slice none 0 0,.bool false,.int .u32 0]) Tryz.results20 Qeh hs 1 rfl rfl rfl,?_⟩
  rw [c9]
  exact ⟨(none,0),rfl,(hs.take 0).more _ (QbF _ _ 74 2),trivial⟩
 ·
  replace c9:=Qbr c9
  refine Qan (Qag (Qag ?_))
  have hrc:=QbP.1 c9
  refine Qab (Qaa (QaR (cs:=(vc s.known)++[(.slice a1 s.ents.length c1:Value),(.slice a2 s.ticks.length c2:Value) ]) Qbz hs 0 rfl rfl rfl (Qaa (Qac (V:=I7 n) rfl (Qaa (Qar (vs:=[.agg ((vc s.known)++[(.slice a1 s.ents.length c1:Value),(.slice a2 s.ticks.length c2:Value) ]).toArray,I7 n]) (V:=.tuple #[I6 ((QbI s.ticks n:Nat):Int),.bool ((QaV s.ticks n).isSome)]) Qqr rfl rfl ?hc hs fun w11 hs=>?_))))))
  case hc=>exact (QgX _ s.known (.slice a1 s.ents.length c1) a2 c2 s.ticks n (by omega) hrc.rt (Rd.own' hr2 hs))
  refine Qaa (Qac (V:=.tuple #[I6 ((QbI s.ticks n:Nat):Int),.bool ((QaV s.ticks n).isSome)]) rfl (Qaa (QaB (V:=I6 ((QbI s.ticks n:Nat):Int)) rfl rfl (Qaa (QaB (V:=.bool ((QaV s.ticks n).isSome)) rfl rfl (Qaa (Qad (V:=I6 ((QbI s.ticks n:Nat):Int)) rfl (Qaa (Qad (V:=.bool ((QaV s.ticks n).isSome)) rfl (Qae (Qag (Qab (Qaa (Qac (V:=.bool ((QaV s.ticks n).isSome)) rfl (Qae (Qfx (fun ρ ρ' w'=>∃ (ρo:Env) (tk:Int),ρ'=mix [25,26,27,28,29,30,31] ρo ρ∧(tk=(QaV s.ticks n).getD 0)∧Own w no w' [blk b1 ((vc s.known)++[(.slice a1 s.ents.length c1:Value),(.slice a2 s.ticks.length c2:Value) ]) 39,blk b3 [I7 0,.slice none 0 0,.bool false,.int .u32 0] 64,blk b5 [I7 n,.slice none 0 0,.bool false,.int .u32 tk] 64]) ?_ ?_))))))))))))))))
  ·
   refine Qal (t:=(QaV s.ticks n).isSome) rfl (fun c12=>?_) (fun c12=>?_)
   ·
    have hfa:=(Qg6 hrc.rt c12).1
    refine Qab (Qaa (Qaf QcU rfl (Qaa (QaK (V:=.slice a2 s.ticks.length c2) Qfu hs 0 rfl rfl rfl (Qaa (Qac (V:=I6 ((QbI s.ticks n:Nat):Int)) rfl (Qaa (Qat Qei Qcs.1 (Rd.own' hr2 hs) rfl rfl (by omega) (by rw [QQ6];omega) (Qaa (Qaf Qf9 rfl (Qaa (QaQ (j:=1) (V:=.int .u32 ((gd s.ticks (QbI s.ticks n)).tick)) (QbI s.ticks n) Qa7 (Rd.own' hr2 hs) (QaY (by omega)) rfl rfl (by omega) (Qaa (Qaf Qey rfl (Qaa (Qdd (V:=.int .u32 ((gd s.ticks (QbI s.ticks n)).tick)) (cs':=[I7 n,.slice none 0 0,.bool false,.int .u32 ((gd s.ticks (QbI s.ticks n)).tick)]) Qa7 hs 2 rfl rfl rfl rfl (QQ8 rfl) rfl fun w13 hs=>(Qae ?_)))))))))))))))))
    exact ⟨_,(gd s.ticks (QbI s.ticks n)).tick,Qam (ds:=[25,26,27,28,29,30,31]) (by repeat (first|exact Agr.refl _ _|refine Agr.upd ?_ rfl|refine Agr.mix ?_ rfl)),(by rw [(Qg6 hrc.rt c12).2.2];rfl),hs.take 3⟩
   ·
    refine Qan ?_
    exact ⟨_,0,Qam (ds:=[25,26,27,28,29,30,31]) (by repeat (first|exact Agr.refl _ _|refine Agr.upd ?_ rfl|refine Agr.mix ?_ rfl)),(QpB c12),hs.take 3⟩
  ·rintro ρ' w14 ⟨ρo,tk,rfl,htk,hs⟩
   refine Qag (Qab (Qaa (Qad (V:=.slice none 0 0) rfl (Qae (Qag (Qag (Qab (Qaa (Qaf QbG rfl (Qaa (QaK (V:=.slice a1 s.ents.length c1) Qdc hs 0 rfl rfl rfl (Qaa (QaX (n:=s.ents.length) Qbm (Rd.own' hr1 hs) (by simp) rfl (Qaa (Qac (V:=I6 0) rfl (Qae (Qak ?_)))))))))))))))))
   replace hs:=hs.more (row (.slice none 0 0) (List.map cec []) 59 7) (QbF _ _ _ _)
   refine Qax (fun ρ μ ρ' w'=>∃ (ρo:Env) (k:Nat) (an9:Option Addr) (cn9:Nat) (L9:List Cen) (ou:Bool),ρ'=upd (upd (mix [8,10,35,36,37,38,39,40,41,42,43,44,45,46,47,48,49,50,51,52,53] ρo ρ) 35 (I6 (k:Int))) 8 (.slice an9 L9.length cn9)∧(k≤s.ents.length)∧(L9=(s.ents.take k).filter (fun e:Cen=>decide (e.cart=n)&&!decide (e.kind=4)))∧(ou=(s.ents.take k).any (fun e:Cen=>decide (e.cart=n)&&decide (e.kind=4)))∧(L9.length≤k)∧μ=s.ents.length-k∧Own w no w' [blk b1 ((vc s.known)++[(.slice a1 s.ents.length c1:Value),(.slice a2 s.ticks.length c2:Value) ]) 39,blk b3 [I7 0,.slice none 0 0,.bool false,.int .u32 0] 64,blk b5 [I7 n,.slice none 0 0,.bool ou,.int .u32 tk] 64,row (.slice an9 L9.length cn9) (L9.map cec) 59 7]) ?_ ?_
   ·exact ⟨_,_,0,none,0,[],false,Qah (Qah (Qam (ds:=[8,10,35,36,37,38,39,40,41,42,43,44,45,46,47,48,49,50,51,52,53]) (Agr.refl _ _)) rfl) rfl,(by omega),rfl,rfl,(Nat.le_refl _),rfl,hs⟩
   ·rintro μ ρ' w15 ⟨ρo,k,an9,cn9,L9,ou,rfl,hk,hL9,hob,hl9,rfl,hs⟩
    refine Qag (Qab (Qaa (QaP rfl rfl (Qae (Qag (Qal (t:=decide ((k:Int)<((s.ents.length:Nat):Int))) rfl (fun c16=>?_) (fun c16=>?_)))))))
    ·
     replace c16:=QQ1 c16
     refine Qan (Qag (Qak (Qag (Qab (Qaa (Qat Qbm QaA.1 (Rd.own' hr1 hs) rfl rfl (by omega) (by rw [QQ6];omega) (Qaa (QaZ (j:=0) (vs:=cec (gd s.ents k)) k QaA (Rd.own' hr1 hs) (QaY (by omega)) rfl rfl rfl (by omega) (Qaa (QaJ (cs:=cec (⟨0,0,0,0,(⟨0,0⟩:Dot),0⟩:Cen)) Qek rfl hs fun b17 w18 hs=>(Qaa (QcC (V:=.agg (cec (gd s.ents k)).toArray) (vs:=cec (gd s.ents k)) (cs':=cec (gd s.ents k)) QaA.1 hs 4 rfl rfl rfl rfl rfl (QQ8 rfl) (Qa2 _) (Qaw rfl) fun w19 hs=>(Qae (Qak (Qag (Qab (Qaa (Qaf Qe7 rfl (Qaa (QaK (V:=I7 ((gd s.ents k).cart)) Qap hs 4 rfl rfl rfl (Qaa (Qac (V:=I7 n) rfl (Qaa (Qcr rfl rfl (Qaa (Qad (V:=.bool (!decide ((gd s.ents k).cart=n))) rfl (Qae (Qal (t:=!decide ((gd s.ents k).cart=n)) rfl (fun c20=>?_) (fun c20=>?_)))))))))))))))))))))))))))))
     ·
      replace c20:=QbL c20
      replace c20:=QQ2 c20
      refine Qan (Qab (Qaa (Qav (a:=(k:Int)) (b:=1) (c:=((k+1:Nat):Int)) rfl rfl (Qaj (by omega) (by omega)) (Qaa (Qac (V:=I6 ((k+1:Nat):Int)) rfl (Qae ?_))))))
      refine ⟨_,?_,_,k+1,an9,cn9,L9,ou,Qah (Qah (Qam (ds:=[8,10,35,36,37,38,39,40,41,42,43,44,45,46,47,48,49,50,51,52,53]) (by repeat (first|exact Agr.refl _ _|refine Agr.upd ?_ rfl|refine Agr.mix ?_ rfl))) rfl) rfl,(by omega),(QdR (p:=(fun e:Cen=>decide (e.cart=n)&&!decide (e.kind=4))) hL9 (by omega) (by simp [c20])),(by rw [← Qdt (p:=(fun e:Cen=>decide (e.cart=n)&&decide (e.kind=4))) hob (by omega)];simp [c20]),(by omega),rfl,hs.take 4⟩
      omega
     ·
      replace c20:=Qbr c20
      replace c20:=QQ1 c20
      refine Qag (Qab (Qaa (Qaf Qe5 rfl (Qaa (QaK (V:=.int .u8 ((gd s.ents k).kind)) QcF hs 4 rfl rfl rfl (Qaa (QaM rfl rfl (Qaa (Qad (V:=.bool (decide ((gd s.ents k).kind=4))) rfl (Qae (Qal (t:=decide ((gd s.ents k).kind=4)) rfl (fun c21=>?_) (fun c21=>?_))))))))))))
      ·
       replace c21:=QQ1 c21
       refine Qab (Qaa (Qaf QeZ rfl (Qaa (Qdd (V:=.bool true) (cs':=[I7 n,.slice none 0 0,.bool true,.int .u32 tk]) QmZ hs 2 rfl rfl rfl rfl (QQ8 rfl) rfl fun w22 hs=>(Qae (Qab (Qaa (Qav (a:=(k:Int)) (b:=1) (c:=((k+1:Nat):Int)) rfl rfl (Qaj (by omega) (by omega)) (Qaa (Qac (V:=I6 ((k+1:Nat):Int)) rfl (Qae ?_)))))))))))
       refine ⟨_,?_,_,k+1,an9,cn9,L9,true,Qah (Qah (Qam (ds:=[8,10,35,36,37,38,39,40,41,42,43,44,45,46,47,48,49,50,51,52,53]) (by repeat (first|exact Agr.refl _ _|refine Agr.upd ?_ rfl|refine Agr.mix ?_ rfl))) rfl) rfl,(by omega),(QdR (p:=(fun e:Cen=>decide (e.cart=n)&&!decide (e.kind=4))) hL9 (by omega) (by simp [c20,c21])),(by rw [← Qdt (p:=(fun e:Cen=>decide (e.cart=n)&&decide (e.kind=4))) hob (by omega)];simp [c20,c21]),(by omega),rfl,hs.take 4⟩
       omega
      ·
       replace c21:=QQ2 c21
       refine Qab (Qaa (Qac (V:=.slice an9 L9.length cn9) rfl (Qaa (QaR (cs:=cec (gd s.ents k)) QaA hs 4 rfl rfl rfl (Qaa (QhD (vals:=[.agg (cec (gd s.ents k)).toArray]) (ls:=List.map cec ([gd s.ents k]:List Cen)) Qej rfl rfl rfl (Qbl (enc:=cec) (fun _=>rfl) _) (QaU Qa2 _) (QQ8 rfl) hs fun b23 w24 hs=>(Qaa (Qdl (ls':=(L9++[gd s.ents k]).map cec) (n:=(L9++[gd s.ents k]).length) Qej hs 3 rfl rfl rfl (hs.rd 5 rfl) (QaU Qa2 _) (by simp only [QQ6,QQ7,List.length_cons,List.length_nil];omega) (by simp) (by simp) fun a25 c25 w26 hs=>?_))))))))
       replace hs:Own w no w26 [blk b1 ((vc s.known)++[(.slice a1 s.ents.length c1:Value),(.slice a2 s.ticks.length c2:Value) ]) 39,blk b3 [I7 0,.slice none 0 0,.bool false,.int .u32 0] 64,blk b5 [I7 n,.slice none 0 0,.bool ou,.int .u32 tk] 64,row (.slice a25 ((L9++[gd s.ents k]).length) c25) ((L9++[gd s.ents k]).map cec) 59 7,blk b17 (cec (gd s.ents k)) 59,row (.slice (some ⟨b23,0,none⟩) 1 1) ([gd s.ents k].map cec) 59 7]:=hs
       refine Qaa (Qad (V:=.slice a25 ((L9++[gd s.ents k]).length) c25) rfl (Qae (Qab (Qaa (Qav (a:=(k:Int)) (b:=1) (c:=((k+1:Nat):Int)) rfl rfl (Qaj (by omega) (by omega)) (Qaa (Qac (V:=I6 ((k+1:Nat):Int)) rfl (Qae ?_))))))))
       refine ⟨_,?_,_,k+1,a25,c25,L9++[gd s.ents k],ou,Qah (Qah (Qam (ds:=[8,10,35,36,37,38,39,40,41,42,43,44,45,46,47,48,49,50,51,52,53]) (by repeat (first|exact Agr.refl _ _|refine Agr.upd ?_ rfl|refine Agr.mix ?_ rfl))) rfl) rfl,(by omega),(QeU (p:=(fun e:Cen=>decide (e.cart=n)&&!decide (e.kind=4))) hL9 (by omega) (by simp [c20,c21])),(by rw [← Qdt (p:=(fun e:Cen=>decide (e.cart=n)&&decide (e.kind=4))) hob (by omega)];simp [c20,c21]),(by rw [QQ7,List.length_singleton];omega),rfl,hs.take 4⟩
       omega
    ·
     replace c16:=QQ2 c16
     refine Qaz (Qag (Qab (Qaa (Qac (V:=.slice an9 L9.length cn9) rfl (Qaa (Qbn (α:=List Cen) (vs:=[.slice an9 L9.length cn9,.func (.func 56) #[] #[]]) (V:=fun _=>.tuple #[]) (R:=row (.slice an9 L9.length cn9) (L9.map cec) 59 7) (R':=fun x=>row (.slice an9 L9.length cn9) (x.map cec) 59 7) (Lo:=fun _=>[]) (F:=fun x _=>x.length=L9.length∧x.Perm L9∧QkC (fun x y:Cen=>QaW x.item y.item) x) Qtz rfl rfl hs 3 rfl (fun S hS hlt=>Qrv _ S an9 L9.length cn9 L9 rfl (by omega) 56 Quc (fun x y:Cen=>QaW x.item y.item) (QnZ (fun x:Cen=>x.item)) (fun w x y=>QnN w x y) hS hlt) fun sx28 w27 hs hF29=>(Qae (Qag (Qak ?_)))))))))
     replace hs:=hs.more (row (.slice none 0 0) (List.map lc []) 74 2) (QbF _ _ _ _)
     obtain ⟨hQl,hQp,hQs⟩:=hF29
     have hLE:L9=Qiq s n:=by rw [hL9,Qb6 (by omega)];rfl
     rw [hLE] at hQp
     have hobE:=hob
     rw [Qb6 (by omega)] at hobE
     have hQok:∀ e∈sx28,QiJ e∧1≤e.count:=fun e he=>by
      have hq:=Qoj hrc (hQp.mem_iff.1 he)
      exact ⟨hE0 e hq.1,hq.2⟩
     refine Qax (fun ρ μ ρ' w'=>∃ (ρo:Env) (R:List Cen) (I:List Int) (an3:Option Addr) (cn3:Nat) (an6:Option Addr) (cn6:Nat) (ol:List Line),ρ'=upd (mix [8,11,56,57,58,59,60,61,62,63,64,65,66,67,68,69,70,71,72,73,74,75,76,77,78,79,80,81,82,83,84,85,86,87,88,89,90,91,92] ρo ρ) 8 (.slice an3 R.length cn3)∧(Grps sx28 R I)∧(ol=I.map (QhO s n))∧(ol.length+R.length≤sx28.length)∧(∀ w':World,Rd w' (.slice an9 L9.length cn9) 7 (sx28.map cec)→Rd w' (.slice an3 R.length cn3) 7 (R.map cec))∧μ=R.length+0∧Own w no w' [blk b1 ((vc s.known)++[(.slice a1 s.ents.length c1:Value),(.slice a2 s.ticks.length c2:Value) ]) 39,blk b3 [I7 0,.slice none 0 0,.bool false,.int .u32 0] 64,blk b5 [I7 n,.slice an6 ol.length cn6,.bool ou,.int .u32 tk] 64,row (.slice an9 L9.length cn9) (sx28.map cec) 59 7,row (.slice an6 ol.length cn6) (ol.map lc) 74 2]) ?_ ?_
     ·exact ⟨_,_,sx28,[],an9,cn9,none,0,[],Qah (Qam (ds:=[8,11,56,57,58,59,60,61,62,63,64,65,66,67,68,69,70,71,72,73,74,75,76,77,78,79,80,81,82,83,84,85,86,87,88,89,90,91,92]) (Agr.refl _ _)) (congrArg (fun n=>Value.slice an9 n cn9) hQl.symm),(Qko _),rfl,(by simp),(fun w' h=>by rw [hQl];exact h),rfl,hs⟩
     ·rintro μ ρ' w30 ⟨ρo,R,I,an3,cn3,an6,cn6,ol,rfl,hgr,hol,hll,hvia,rfl,hs⟩
      refine Qag (Qag (Qab (Qaa (Qac (V:=.slice an3 R.length cn3) rfl (Qaa (QaX (n:=R.length) Qbm (hvia _ (hs.rd 3 rfl)) (by simp) rfl (Qaa (Qcb rfl rfl (Qae (Qal (t:=decide (0<((R.length:Nat):Int))) rfl (fun c31=>?_) (fun c31=>?_)))))))))))
      ·
       replace c31:=QQ1 c31
       refine Qan (Qak (Qag (Qab (Qaa (Qad (V:=I6 1) rfl (Qae (Qag (Qak (Qax (fun ρ μ ρ' w'=>∃ (ρo:Env) (j:Nat),ρ'=upd (mix [11,59,60,61,62,63,64,65,66,67,68,69,70,71,72,73,74,75,76] ρo ρ) 11 (I6 (j:Int))∧(1≤j)∧(j≤R.length)∧(∀ i,i<j→(gd R i).item=(gd R 0).item)∧μ=R.length-j∧Own w no w' [blk b1 ((vc s.known)++[(.slice a1 s.ents.length c1:Value),(.slice a2 s.ticks.length c2:Value) ]) 39,blk b3 [I7 0,.slice none 0 0,.bool false,.int .u32 0] 64,blk b5 [I7 n,.slice an6 ol.length cn6,.bool ou,.int .u32 tk] 64,row (.slice an9 L9.length cn9) (sx28.map cec) 59 7,row (.slice an6 ol.length cn6) (ol.map lc) 74 2]) ?_ ?_)))))))))
       ·exact ⟨_,_,1,Qah (Qam (ds:=[11,59,60,61,62,63,64,65,66,67,68,69,70,71,72,73,74,75,76]) (Agr.refl _ _)) rfl,(Nat.le_refl _),(by omega),(fun i hi=>by rw [show i=0 by omega]),rfl,hs⟩
       ·rintro μ ρ' w32 ⟨ρo,j,rfl,hj1,hj2,hji,rfl,hs⟩
        refine Qag (Qag (QaC HM [some 59,some 60,some 61,some 62,some 63,some 64,some 65,some 66,some 67,some 68,some 69,some 70,some 71,some 72,some 73,some 74] [] [0,0,2,7,15,31,31,127,255,511,31,1055,3103,7199,16383,32767] [pv (I6 (j:Int)),pv (.slice an3 R.length cn3),pv (I6 ((R.length:Nat):Int)),pv (.bool (decide ((j:Int)<((R.length:Nat):Int)))),pv (.bool (decide ((j:Int)<((R.length:Nat):Int)))),pg ((decide ((j:Int)<((R.length:Nat):Int))) == true) (.slice an3 R.length cn3),pg ((decide ((j:Int)<((R.length:Nat):Int))) == true) (I6 (j:Int)),pg ((decide ((j:Int)<((R.length:Nat):Int))) == true) (.pointer (some ⟨bkS (.slice an3 R.length cn3),ofS (.slice an3 R.length cn3)+(j:Int).toNat*7,none⟩)),pg ((decide ((j:Int)<((R.length:Nat):Int))) == true) (.pointer (some ⟨bkS (.slice an3 R.length cn3),ofS (.slice an3 R.length cn3)+(j:Int).toNat*7+1,none⟩)),pg ((decide ((j:Int)<((R.length:Nat):Int))) == true) (I7 ((gd R j).item)),pg ((decide ((j:Int)<((R.length:Nat):Int))) == true) (.slice an3 R.length cn3),pg ((decide ((j:Int)<((R.length:Nat):Int))) == true) (.pointer (some ⟨bkS (.slice an3 R.length cn3),ofS (.slice an3 R.length cn3)+(0:Int).toNat*7,none⟩)),pg ((decide ((j:Int)<((R.length:Nat):Int))) == true) (.pointer (some ⟨bkS (.slice an3 R.length cn3),ofS (.slice an3 R.length cn3)+(0:Int).toNat*7+1,none⟩)),pg ((decide ((j:Int)<((R.length:Nat):Int))) == true) (I7 ((gd R 0).item)),pg ((decide ((j:Int)<((R.length:Nat):Int))) == true) (.bool (decide ((gd R j).item=(gd R 0).item))),pv (.bool ((decide ((j:Int)<((R.length:Nat):Int)))&&(decide ((gd R j).item=(gd R 0).item))))] (fun _ _=>_) [15] (by kernel_rfl) hs ⟨?_,?_,?_,?_,?_,?_,?_,?_,?_,?_,?_,?_,?_,?_,?_,?_,trivial⟩ ?_))
        ·exact ob [] [] rfl rfl fun D ρ w hs=>Qac (V:=I6 (j:Int)) rfl ⟨rfl,hs⟩
        ·exact ob [] [] rfl rfl fun D ρ w hs=>Qac (V:=.slice an3 R.length cn3) rfl ⟨rfl,hs⟩
        ·exact ob [1] [] rfl rfl fun D ρ w hs=>QaX (n:=R.length) Qbm (hvia _ (hs.rd 3 rfl)) (by simp) rfl ⟨rfl,hs⟩
        ·exact ob [0,2] [] rfl rfl fun D ρ w hs=>QaP rfl rfl ⟨rfl,hs⟩
        ·exact ob [3] [] rfl rfl fun D ρ w hs=>Qac (V:=.bool (decide ((j:Int)<((R.length:Nat):Int)))) rfl ⟨rfl,hs⟩
        ·exact obg [4] [] (decide ((j:Int)<((R.length:Nat):Int))) rfl (fun _=>rfl) rfl (fun _ _ _ _ h=>h) fun D ρ w hG hs=>Qac (V:=.slice an3 R.length cn3) rfl ⟨rfl,hs⟩
        ·exact obg [4] [] (decide ((j:Int)<((R.length:Nat):Int))) rfl (fun _=>rfl) rfl (fun _ _ _ _ h=>h) fun D ρ w hG hs=>Qac (V:=I6 (j:Int)) rfl ⟨rfl,hs⟩
        ·refine obgy [4,5,6] [] [5,6] (decide ((j:Int)<((R.length:Nat):Int))) rfl (fun _=>rfl) rfl (fun _ _ _ _ h=>h) (fun hG=>⟨hG,hG,trivial⟩) fun D ρ w hG hs=>?_
         have hgd:=QQ1 (eq_of_beq (hG))
         exact Qat Qbm QaA.1 (hvia _ (hs.rd 3 rfl)) rfl rfl (by omega) (by rw [QQ6];omega) ⟨rfl,hs⟩
        ·exact obgy [4,7] [] [7] (decide ((j:Int)<((R.length:Nat):Int))) rfl (fun _=>rfl) rfl (fun _ _ _ _ h=>h) (fun hG=>⟨hG,trivial⟩) fun D ρ w hG hs=>Qaf QdV rfl ⟨rfl,hs⟩
        ·refine obgy [4,8] [] [8] (decide ((j:Int)<((R.length:Nat):Int))) rfl (fun _=>rfl) rfl (fun _ _ _ _ h=>h) (fun hG=>⟨hG,trivial⟩) fun D ρ w hG hs=>?_
         have hgd:=QQ1 (eq_of_beq (hG))
         exact QaQ (j:=1) (V:=.int .u16 ((gd R j).item)) j Qap (hvia _ (hs.rd 3 rfl)) (QaY (by omega)) rfl rfl (by omega) ⟨rfl,hs⟩
        ·exact obg [4] [] (decide ((j:Int)<((R.length:Nat):Int))) rfl (fun _=>rfl) rfl (fun _ _ _ _ h=>h) fun D ρ w hG hs=>Qac (V:=.slice an3 R.length cn3) rfl ⟨rfl,hs⟩
        ·refine obgy [4,10] [] [10] (decide ((j:Int)<((R.length:Nat):Int))) rfl (fun _=>rfl) rfl (fun _ _ _ _ h=>h) (fun hG=>⟨hG,trivial⟩) fun D ρ w hG hs=>?_
         have hgd:=QQ1 (eq_of_beq (hG))
         exact Qat Qbm QaA.1 (hvia _ (hs.rd 3 rfl)) rfl rfl (by decide) (by rw [QQ6];omega) ⟨rfl,hs⟩
        ·exact obgy [4,11] [] [11] (decide ((j:Int)<((R.length:Nat):Int))) rfl (fun _=>rfl) rfl (fun _ _ _ _ h=>h) (fun hG=>⟨hG,trivial⟩) fun D ρ w hG hs=>Qaf QdV rfl ⟨rfl,hs⟩
        ·refine obgy [4,12] [] [12] (decide ((j:Int)<((R.length:Nat):Int))) rfl (fun _=>rfl) rfl (fun _ _ _ _ h=>h) (fun hG=>⟨hG,trivial⟩) fun D ρ w hG hs=>?_
         have hgd:=QQ1 (eq_of_beq (hG))
         exact QaQ (j:=1) (V:=.int .u16 ((gd R 0).item)) 0 Qap (hvia _ (hs.rd 3 rfl)) (QaY (by omega)) rfl rfl (by omega) ⟨rfl,hs⟩
        ·exact obgy [4,9,13] [] [9,13] (decide ((j:Int)<((R.length:Nat):Int))) rfl (fun _=>rfl) rfl (fun _ _ _ _ h=>h) (fun hG=>⟨hG,hG,trivial⟩) fun D ρ w hG hs=>QaM rfl rfl ⟨rfl,hs⟩
        ·exact ob [4,14] [] rfl rfl fun D ρ w hs=>Qa3 (h':=decide ((gd R j).item=(gd R 0).item)) rfl rfl rfl ⟨rfl,hs⟩
        rintro ρ1 w33 ρ2 hρ hs
        replace hρ:ρ2=upd (mix [59,60,61,62,63,64,65,66,67,68,69,70,71,72,73,74] ρ1 _) 74 (.bool ((decide ((j:Int)<((R.length:Nat):Int)))&&(decide ((gd R j).item=(gd R 0).item)))):=hρ
        subst hρ
        refine Qal (t:=(decide ((j:Int)<((R.length:Nat):Int)))&&(decide ((gd R j).item=(gd R 0).item))) rfl (fun c34=>?_) (fun c34=>?_)
        ·
         have c34r:=Qcd c34
         replace c34:=QbQ c34
         replace c34:=QQ1 c34
         replace c34r:=QQ1 c34r
         refine Qan (Qak (Qab (Qaa (Qac (V:=I6 (j:Int)) rfl (Qaa (Qav (a:=(j:Int)) (b:=1) (c:=((j+1:Nat):Int)) rfl rfl (Qaj (by omega) (by omega)) (Qaa (Qad (V:=I6 ((j+1:Nat):Int)) rfl (Qae ?_)))))))))
         refine ⟨_,?_,_,j+1,Qah (Qam (ds:=[11,59,60,61,62,63,64,65,66,67,68,69,70,71,72,73,74,75,76]) (by repeat (first|exact Agr.refl _ _|refine Agr.upd ?_ rfl|refine Agr.mix ?_ rfl))) rfl,(by omega),(by omega),(fun i hi=>by
 rcases Nat.lt_or_eq_of_le (Nat.le_of_lt_succ hi) with q|q
 ·exact hji i q
 ·subst q;exact c34r),rfl,hs.take 5⟩
         omega
        ·
         refine Qaz (Qag ?_)
         have hga:=QpZ hrc hQp hgr hQs hj1 hj2 hji (by
          have ht:=c34
          rcases Nat.lt_or_ge j R.length with q|q
          ·right;intro h;simp [q,h] at ht
          ·left;omega)
         have hGok:∀ e∈R.take j,QiJ e∧1≤e.count:=fun e he=>hQok e (Qon hgr e (List.mem_of_mem_take he))
         replace hs:=hs.more emp trivial
         refine QaC HM [some 77,some 78,some 79,some 80,some 81,some 82,some 83,some 84,some 85,some 86,some 87,some 88,some 89,none] [[],[],[],[],[],[],[],[],[],[],[87],[88]] [0,1,0,4,12,28,0,0,192,508,1020,2047,4095,8191] [pv (Pt b5 (0+1)),pv (.slice an6 ol.length cn6),pv (.slice an3 R.length cn3),pv (.pointer (some ⟨bkS (.slice an3 R.length cn3),ofS (.slice an3 R.length cn3)+(0:Int).toNat*7,none⟩)),pv (.pointer (some ⟨bkS (.slice an3 R.length cn3),ofS (.slice an3 R.length cn3)+(0:Int).toNat*7+1,none⟩)),pv (I7 ((gd R 0).item)),pv (.slice an3 R.length cn3),pv (I6 (j:Int)),pv (.slice (sla an3 0 cn3 7) ((R.take j).length) (cn3-0)),pv (.agg (lc (⟨(gd R 0).item,QdQ (R.take j)⟩:Line)).toArray),(true,fun ρ=>.slice (some ⟨(bOf (ρ 87)),0,none⟩) 1 1),(true,fun ρ=>.slice (aOf (ρ 88)) ((ol++[(⟨(gd R 0).item,QdQ (R.take j)⟩:Line)]).length) (cOf (ρ 88))),pv (Pt b5 (0+1)),pn] (fun D ρ=>[blk b1 ((vc s.known)++[(.slice a1 s.ents.length c1:Value),(.slice a2 s.ticks.length c2:Value) ]) 39,blk b3 [I7 0,.slice none 0 0,.bool false,.int .u32 0] 64,cond (D 13) (blk b5 [I7 n,.slice (aOf (ρ 88)) ((ol++[(⟨(gd R 0).item,QdQ (R.take j)⟩:Line)]).length) (cOf (ρ 88)),.bool ou,.int .u32 tk] 64) (blk b5 [I7 n,.slice an6 ol.length cn6,.bool ou,.int .u32 tk] 64),row (.slice an9 L9.length cn9) (sx28.map cec) 59 7,cond (D 11) (row (.slice (aOf (ρ 88)) ((ol++[(⟨(gd R 0).item,QdQ (R.take j)⟩:Line)]).length) (cOf (ρ 88))) ((ol++[(⟨(gd R 0).item,QdQ (R.take j)⟩:Line)]).map lc) 74 2) (row (.slice an6 ol.length cn6) (ol.map lc) 74 2),cond (D 10) (row (.slice (some ⟨(bOf (ρ 87)),0,none⟩) 1 1) ([(⟨(gd R 0).item,QdQ (R.take j)⟩:Line)].map lc) 74 2) (emp)]) [] (by kernel_rfl) hs ⟨?_,?_,?_,?_,?_,?_,?_,?_,?_,?_,?_,?_,?_,?_,trivial⟩ ?_
         ·exact ob [] [] rfl rfl fun D ρ w hs=>Qaf QcR rfl ⟨rfl,hs⟩
         ·exact ob [0] [13] rfl rfl fun D ρ w hs=>QaK (V:=.slice an6 ol.length cn6) Qft hs 2 rfl rfl rfl ⟨rfl,hs⟩
         ·exact ob [] [] rfl rfl fun D ρ w hs=>Qac (V:=.slice an3 R.length cn3) rfl ⟨rfl,hs⟩
         ·exact ob [2] [] rfl rfl fun D ρ w hs=>Qat Qbm QaA.1 (hvia _ (hs.rd 3 rfl)) rfl rfl (by decide) (by rw [QQ6];omega) ⟨rfl,hs⟩
         ·exact ob [3] [] rfl rfl fun D ρ w hs=>Qaf QdV rfl ⟨rfl,hs⟩
         ·exact ob [4] [] rfl rfl fun D ρ w hs=>QaQ (j:=1) (V:=I7 ((gd R 0).item)) 0 Qap (hvia _ (hs.rd 3 rfl)) (QaY (by omega)) rfl rfl (by omega) ⟨rfl,hs⟩
         ·exact ob [] [] rfl rfl fun D ρ w hs=>Qac (V:=.slice an3 R.length cn3) rfl ⟨rfl,hs⟩
         ·exact ob [] [] rfl rfl fun D ρ w hs=>Qac (V:=I6 (j:Int)) rfl ⟨rfl,hs⟩
         ·exact ob [6,7] [] rfl rfl fun D ρ w hs=>QoS (l:=0) (h:=j) (m:=cn3) (n':=(R.take j).length) QcW QaA.1 (hvia _ (hs.rd 3 rfl)) rfl (.inl ⟨rfl,rfl⟩) (.inr ⟨_,_,rfl,rfl⟩) (.inl ⟨rfl,rfl⟩) (by omega) (by omega) (Nat.le_trans (show j≤R.length by omega) (Rd.roomM (hvia _ (hs.rd 3 rfl)))) (Nat.le_refl _) (by simp only [List.length_take,List.length_drop]<;>omega) ⟨rfl,hs⟩
         ·exact ob [5,8] [] rfl rfl fun D ρ w hs=>Qar (vs:=[I7 ((gd R 0).item),.slice (sla an3 0 cn3 7) ((R.take j).length) (cn3-0)]) (V:=.agg (lc (⟨(gd R 0).item,QdQ (R.take j)⟩:Line)).toArray) QtL rfl rfl (Qqo _ ((gd R 0).item) (sla an3 0 cn3 7) (cn3-0) (R.take j) hGok (Rd.subM (hvia _ (hs.rd 3 rfl)) 0 j cn3 (by omega) (by omega) (Nat.le_trans (show j≤R.length by omega) (Rd.roomM (hvia _ (hs.rd 3 rfl)))) (Nat.le_refl _) _ (by simp only [List.length_take,List.length_drop]<;>omega))) hs fun _ hs=>⟨rfl,hs⟩
         ·exact ob [9] [] rfl rfl fun D ρ w hs=>QhD (vals:=[.agg (lc (⟨(gd R 0).item,QdQ (R.take j)⟩:Line)).toArray]) (ls:=List.map lc ([(⟨(gd R 0).item,QdQ (R.take j)⟩:Line)]:List Line)) Qks rfl rfl rfl (Qbl (enc:=lc) (fun _=>rfl) _) (QaU QfV _) (QQ8 rfl) hs fun _ _ hs=>⟨rfl,hs.put 5 (QQ8 rfl)⟩
         ·exact ob [1,10] [13] rfl rfl fun D ρ w hs=>Qdl (ls':=(ol++[(⟨(gd R 0).item,QdQ (R.take j)⟩:Line)]).map lc) (n:=(ol++[(⟨(gd R 0).item,QdQ (R.take j)⟩:Line)]).length) Qks hs 4 rfl rfl rfl (hs.rd 5 rfl) (QaU QfV _) (by simp only [QQ6,QQ7,List.length_cons,List.length_nil];omega) (by simp) (by simp) fun _ _ _ hs=>⟨rfl,hs⟩
         ·exact ob [] [] rfl rfl fun D ρ w hs=>Qaf QcR rfl ⟨rfl,hs⟩
         ·exact ob [11,12] [] rfl rfl fun D ρ w hs=>Qdd (V:=.slice (aOf (ρ 88)) ((ol++[(⟨(gd R 0).item,QdQ (R.take j)⟩:Line)]).length) (cOf (ρ 88))) (cs':=[I7 n,.slice (aOf (ρ 88)) ((ol++[(⟨(gd R 0).item,QdQ (R.take j)⟩:Line)]).length) (cOf (ρ 88)),.bool ou,.int .u32 tk]) Qft hs 2 rfl rfl rfl rfl (QQ8 rfl) rfl fun _ hs=>⟨trivial,hs⟩
         rintro ρ1 w39 ρ2 hρ hs
         replace hρ:ρ2=mix [77,78,79,80,81,82,83,84,85,86,87,88,89] ρ1 _:=hρ
         replace hs:Own w no w39 [blk b1 ((vc s.known)++[(.slice a1 s.ents.length c1:Value),(.slice a2 s.ticks.length c2:Value) ]) 39,blk b3 [I7 0,.slice none 0 0,.bool false,.int .u32 0] 64,blk b5 [I7 n,.slice (aOf (ρ1 88)) ((ol++[(⟨(gd R 0).item,QdQ (R.take j)⟩:Line)]).length) (cOf (ρ1 88)),.bool ou,.int .u32 tk] 64,row (.slice an9 L9.length cn9) (sx28.map cec) 59 7,row (.slice (aOf (ρ1 88)) ((ol++[(⟨(gd R 0).item,QdQ (R.take j)⟩:Line)]).length) (cOf (ρ1 88))) ((ol++[(⟨(gd R 0).item,QdQ (R.take j)⟩:Line)]).map lc) 74 2,row (.slice (some ⟨(bOf (ρ1 87)),0,none⟩) 1 1) ([(⟨(gd R 0).item,QdQ (R.take j)⟩:Line)].map lc) 74 2]:=hs
         generalize (bOf (ρ1 87))=b40 at hs
         generalize (aOf (ρ1 88))=a41 at hs
         generalize (cOf (ρ1 88))=c42 at hs
         subst hρ
         refine Qab (Qaa (Qac (V:=.slice an3 R.length cn3) rfl (Qaa (Qac (V:=I6 (j:Int)) rfl (Qaa (QoS (l:=j) (h:=R.length) (m:=cn3) (n':=(R.drop j).length) QcW QaA.1 (hvia _ (hs.rd 3 rfl)) rfl (.inr ⟨_,_,rfl,rfl⟩) (.inl ⟨rfl,rfl⟩) (.inl ⟨rfl,rfl⟩) (by omega) (by omega) (Nat.le_trans (show R.length≤R.length by omega) (Rd.roomM (hvia _ (hs.rd 3 rfl)))) (Nat.le_refl _) (by simp only [List.length_take,List.length_drop]<;>omega) ?_))))))
         refine Qaa (Qad (V:=.slice (sla an3 j cn3 7) ((R.drop j).length) (cn3-j)) rfl (Qae ?_))
         refine ⟨_,?_,_,R.drop j,I++[(gd R 0).item],(sla an3 j cn3 7),cn3-j,a41,c42,ol++[(⟨(gd R 0).item,QdQ (R.take j)⟩:Line)],Qah (Qam (ds:=[8,11,56,57,58,59,60,61,62,63,64,65,66,67,68,69,70,71,72,73,74,75,76,77,78,79,80,81,82,83,84,85,86,87,88,89,90,91,92]) (by repeat (first|exact Agr.refl _ _|refine Agr.upd ?_ rfl|refine Agr.mix ?_ rfl))) rfl,hga.1,(QkM hol hga.2),(by simp only [QQ7,List.length_singleton,List.length_drop];omega),(fun w' h=>Rd.dropM (hvia w' h) j (by omega) _ (by rw [List.length_drop])),rfl,hs.take 5⟩
         (rw [List.length_drop];omega)
      ·
       replace c31:=QQ2 c31
       refine Qaz (Qag (Qab (Qaa (QaR (cs:=[I7 n,.slice an6 ol.length cn6,.bool ou,.int .u32 tk]) Qeh hs 2 rfl rfl rfl (Qaa (QcC (V:=.agg #[I7 n,.slice an6 ol.length cn6,.bool ou,.int .u32 tk]) (vs:=[I7 n,.slice an6 ol.length cn6,.bool ou,.int .u32 tk]) (cs':=[I7 n,.slice an6 ol.length cn6,.bool ou,.int .u32 tk]) Qeh.1 hs 1 rfl rfl rfl rfl rfl (QQ8 rfl) (Qau rfl (Qau rfl (Qau rfl (Qau rfl Qbu)))) (Qaw rfl) fun w43 hs=>(Qae (Qas ?_))))))))
       refine ⟨_,Qcx (cs:=[I7 n,.slice an6 ol.length cn6,.bool ou,.int .u32 tk]) Tryz.results20 Qeh hs 1 rfl rfl rfl,?_⟩
       have hV:=QpM c9 htk hobE hQp hgr (by omega) hol
       rw [hV]
       exact ⟨(an6,cn6),rfl,hs.only 4 rfl,trivial⟩
end Tt
end Go.Proofs
namespace Go.Proofs
open Go Go.Vx Go.RowKit
namespace Tt
theorem QjN (w:World) (s:Sta) (a1:Option Addr) (c1:Nat) (a2:Option Addr) (c2:Nat) (hr1:Rd w (.slice a1 s.ents.length c1) 7 (s.ents.map cec)) (hr2:Rd w (.slice a2 s.ticks.length c2) 2 (s.ticks.map lsc)):Calls Tryz.prog 65 #[.agg ((vc s.known)++[(.slice a1 s.ents.length c1:Value),(.slice a2 s.ticks.length c2:Value) ]).toArray] w (fun e w'=>∃ x:Nat,e = .returned (.map (some x))∧Own w no w' [Qde x dv cv (QaD s.ents)]∧True):=by
 refine Qai (n:=20) Tryz.func65 rfl Tryz.ntmps65 rfl ?_
 have hs:=Own.start w
 have hn1:=hr1.sml
 refine Qag (Qab (Qaa (Qa9 (V:=.agg ((vc s.known)++[(.slice a1 s.ents.length c1:Value),(.slice a2 s.ticks.length c2:Value) ]).toArray) (cs:=(vc s.known)++[(.slice a1 s.ents.length c1:Value),(.slice a2 s.ticks.length c2:Value) ]) rfl rfl hs fun b1 w2 hs=>(Qaa (Qad (V:=.map none) rfl (Qae (Qag (Qab (Qaa (QfS rfl hs dv cv fun mr3 w4 hs=>(Qaa (Qad (V:=.map (some mr3)) rfl (Qae (Qag (Qag (Qab (Qaa (Qaf QbG rfl (Qaa (QaK (V:=.slice a1 s.ents.length c1) Qdc hs 0 rfl rfl rfl (Qaa (QaX (n:=s.ents.length) Qbm (Rd.own' hr1 hs) (by simp) rfl (Qaa (Qac (V:=I6 0) rfl (Qae (Qak (Qax (fun ρ μ ρ' w'=>∃ (ρo:Env) (k:Nat) (sm:List (Dot × Cen)),ρ'=upd (mix [5,10,11,12,13,14,15,16,17,18] ρo ρ) 10 (I6 (k:Int))∧(k≤s.ents.length)∧(sm=QaD (s.ents.take k))∧μ=s.ents.length-k∧Own w no w' [blk b1 ((vc s.known)++[(.slice a1 s.ents.length c1:Value),(.slice a2 s.ticks.length c2:Value) ]) 39,Qde mr3 dv cv sm]) ?_ ?_)))))))))))))))))))))))))))
 ·exact ⟨_,_,0,[],Qah (Qam (ds:=[5,10,11,12,13,14,15,16,17,18]) (Agr.refl _ _)) rfl,(by omega),rfl,rfl,hs⟩
 ·rintro μ ρ' w5 ⟨ρo,k,sm,rfl,hk,hsm,rfl,hs⟩
  refine Qag (Qab (Qaa (QaP rfl rfl (Qae (Qag (Qal (t:=decide ((k:Int)<((s.ents.length:Nat):Int))) rfl (fun c6=>?_) (fun c6=>?_)))))))
  ·
   replace c6:=QQ1 c6
   refine Qan (Qag (Qak (Qag (Qab (Qaa (Qat Qbm QaA.1 (Rd.own' hr1 hs) rfl rfl (by omega) (by rw [QQ6];omega) (Qaa (QaZ (j:=0) (vs:=cec (gd s.ents k)) k QaA (Rd.own' hr1 hs) (QaY (by omega)) rfl rfl rfl (by omega) (Qaa (QaJ (cs:=cec (⟨0,0,0,0,(⟨0,0⟩:Dot),0⟩:Cen)) Qek rfl hs fun b7 w8 hs=>(Qaa (QcC (V:=.agg (cec (gd s.ents k)).toArray) (vs:=cec (gd s.ents k)) (cs':=cec (gd s.ents k)) QaA.1 hs 2 rfl rfl rfl rfl rfl (QQ8 rfl) (Qa2 _) (Qaw rfl) fun w9 hs=>?_))))))))))))
   replace hs:Own w no w9 [blk b1 ((vc s.known)++[(.slice a1 s.ents.length c1:Value),(.slice a2 s.ticks.length c2:Value) ]) 39,Qde mr3 dv cv sm,blk b7 (cec (gd s.ents k)) 59]:=hs
   refine Qae (Qab (Qaa (Qac (V:=.map (some mr3)) rfl (Qaa (Qaf QbW rfl (Qaa (QbO (vs:=dc ((gd s.ents k).dot)) Qcv hs 2 rfl rfl rfl rfl (Qaa (QaR (cs:=cec (gd s.ents k)) QaA hs 2 rfl rfl rfl (Qaa (QgW (k:=(gd s.ents k).dot) (v:=gd s.ents k) QkH Ql2 hs 1 rfl rfl rfl rfl fun w10 hs=>(Qae (Qab (Qaa (Qav (a:=(k:Int)) (b:=1) (c:=((k+1:Nat):Int)) rfl rfl (Qaj (by omega) (by omega)) (Qaa (Qac (V:=I6 ((k+1:Nat):Int)) rfl (Qae ?_))))))))))))))))))
   refine ⟨_,?_,_,k+1,mput ((gd s.ents k).dot) (gd s.ents k) sm,Qah (Qam (ds:=[5,10,11,12,13,14,15,16,17,18]) (by repeat (first|exact Agr.refl _ _|refine Agr.upd ?_ rfl|refine Agr.mix ?_ rfl))) rfl,(by omega),(by rw [Qkc (by omega),← hsm]),rfl,hs.take 2⟩
   omega
  ·
   replace c6:=QQ2 c6
   refine Qaz (Qag (Qab (Qaa (Qac (V:=.map (some mr3)) rfl (Qaa (Qad (V:=.map (some mr3)) rfl (Qae (Qas ?_))))))))
   refine ⟨_,Qao (V:=.map (some mr3)) Tryz.results65 rfl,?_⟩
   have hE:sm=QaD s.ents:=by rw [hsm,Qb6 (by omega)]
   rw [hE] at hs
   exact ⟨mr3,rfl,hs.only 1 rfl,trivial⟩
end Tt
end Go.Proofs
namespace Go.Proofs
open Go Go.Vx Go.RowKit
namespace Tt
theorem Qmt (w:World) (p:Sta) (a1p:Option Addr) (c1p:Nat) (a2p:Option Addr) (c2p:Nat) (q:Sta) (a1q:Option Addr) (c1q:Nat) (a2q:Option Addr) (c2q:Nat) (hsortE:QhV Tryz.prog 68 35 cec 59 7 QkB) (hokp:QcT p) (hlep:p.ents.length≤1000) (hltp:p.ticks.length≤1000) (hokq:QcT q) (hleq:q.ents.length≤1000) (hltq:q.ticks.length≤1000) (hr1p:Rd w (.slice a1p p.ents.length c1p) 7 (p.ents.map cec)) (hr2p:Rd w (.slice a2p p.ticks.length c2p) 2 (p.ticks.map lsc)) (hr1q:Rd w (.slice a1q q.ents.length c1q) 7 (q.ents.map cec)) (hr2q:Rd w (.slice a2q q.ticks.length c2q) 2 (q.ticks.map lsc)):Calls Tryz.prog 26 #[.agg ((vc p.known)++[(.slice a1p p.ents.length c1p:Value),(.slice a2p p.ticks.length c2p:Value) ]).toArray,.agg ((vc q.known)++[(.slice a1q q.ents.length c1q:Value),(.slice a2q q.ticks.length c2q:Value) ]).toArray] w (fun e w'=>∃ x:(Option Addr × Nat) × (Option Addr × Nat),e = .returned (.tuple #[.agg (vc (QaN p q).known++[(.slice x.1.1 (QaN p q).ents.length x.1.2:Value),(.slice x.2.1 (QaN p q).ticks.length x.2.2:Value)]).toArray,.int .i64 (Qct p q)])∧Own w no w' [row (.slice x.1.1 (QaN p q).ents.length x.1.2) ((QaN p q).ents.map cec) 59 7,row (.slice x.2.1 (QaN p q).ticks.length x.2.2) ((QaN p q).ticks.map lsc) 87 2]∧True):=by
 refine Qai (n:=123) Tryz.func26 rfl Tryz.ntmps26 rfl ?_
 have hs:=Own.start w
 have ⟨hpv,hpE,hpT⟩:=hokp
 have ⟨hqv,hqE,hqT⟩:=hokq
 refine Qag (Qab (Qaa (Qa9 (V:=.agg ((vc p.known)++[(.slice a1p p.ents.length c1p:Value),(.slice a2p p.ticks.length c2p:Value) ]).toArray) (cs:=(vc p.known)++[(.slice a1p p.ents.length c1p:Value),(.slice a2p p.ticks.length c2p:Value) ]) rfl rfl hs fun b1 w2 hs=>(Qaa (Qa9 (V:=.agg ((vc q.known)++[(.slice a1q q.ents.length c1q:Value),(.slice a2q q.ticks.length c2q:Value) ]).toArray) (cs:=(vc q.known)++[(.slice a1q q.ents.length c1q:Value),(.slice a2q q.ticks.length c2q:Value) ]) rfl rfl hs fun b3 w4 hs=>(Qaa (QaJ (cs:=(vc vzero)++[(.slice none 0 0:Value),(.slice none 0 0:Value) ]) Qfw rfl hs fun b5 w6 hs=>(Qaa (Qad (V:=I6 0) rfl (Qae (Qag (Qag (Qbi [some 19,some 20,some 21,some 22,some 23,some 24,some 25,some 26] [] [0,1,3,7,15,31,63,127] [pv (.agg ((vc p.known)++[(.slice a1p p.ents.length c1p:Value),(.slice a2p p.ticks.length c2p:Value) ]).toArray),pv (.bool (QaO p)),pv (.bool (!(QaO p))),pv (.bool (!(QaO p))),pg ((!(QaO p)) == false) (.agg ((vc q.known)++[(.slice a1q q.ents.length c1q:Value),(.slice a2q q.ticks.length c2q:Value) ]).toArray),pg ((!(QaO p)) == false) (.bool (QaO q)),pg ((!(QaO p)) == false) (.bool (!(QaO q))),pv (.bool ((!(QaO p))||(!(QaO q))))] (fun _ _=>_) [7] (by kernel_rfl) hs ⟨?_,?_,?_,?_,?_,?_,?_,?_,trivial⟩ ?_)))))))))))))
 ·exact ob [] [] rfl rfl fun D ρ w hs=>QaR (cs:=(vc p.known)++[(.slice a1p p.ents.length c1p:Value),(.slice a2p p.ticks.length c2p:Value) ]) Qbz hs 0 rfl rfl rfl ⟨rfl,hs⟩
 ·exact ob [0] [] rfl rfl fun D ρ w hs=>Qar (vs:=[.agg ((vc p.known)++[(.slice a1p p.ents.length c1p:Value),(.slice a2p p.ticks.length c2p:Value) ]).toArray]) (V:=.bool (QaO p)) QiA rfl rfl (Qc7 _ p a1p c1p a2p c2p hokp (by omega) (by omega) (Rd.own' hr1p hs) (Rd.own' hr2p hs)) hs fun _ hs=>⟨rfl,hs⟩
 ·exact ob [1] [] rfl rfl fun D ρ w hs=>Qbw rfl ⟨rfl,hs⟩
 ·exact ob [2] [] rfl rfl fun D ρ w hs=>Qac (V:=.bool (!(QaO p))) rfl ⟨rfl,hs⟩
 ·exact obg [3] [] (!(QaO p)) rfl (fun _=>rfl) rfl (fun _ _ _ _ h=>h) fun D ρ w hG hs=>QaR (cs:=(vc q.known)++[(.slice a1q q.ents.length c1q:Value),(.slice a2q q.ticks.length c2q:Value) ]) Qbz hs 1 rfl rfl rfl ⟨rfl,hs⟩
 ·exact obgy [3,4] [] [4] (!(QaO p)) rfl (fun _=>rfl) rfl (fun _ _ _ _ h=>h) (fun hG=>⟨hG,trivial⟩) fun D ρ w hG hs=>Qar (vs:=[.agg ((vc q.known)++[(.slice a1q q.ents.length c1q:Value),(.slice a2q q.ticks.length c2q:Value) ]).toArray]) (V:=.bool (QaO q)) QiA rfl rfl (Qc7 _ q a1q c1q a2q c2q hokq (by omega) (by omega) (Rd.own' hr1q hs) (Rd.own' hr2q hs)) hs fun _ hs=>⟨rfl,hs⟩
 ·exact obgy [3,5] [] [5] (!(QaO p)) rfl (fun _=>rfl) rfl (fun _ _ _ _ h=>h) (fun hG=>⟨hG,trivial⟩) fun D ρ w hG hs=>Qbw rfl ⟨rfl,hs⟩
 ·exact ob [3,6] [] rfl rfl fun D ρ w hs=>QbS (h':=!(QaO q)) rfl rfl rfl ⟨rfl,hs⟩
 rintro ρ1 w9 ρ2 hρ hs
 replace hρ:ρ2=upd (mix [19,20,21,22,23,24,25,26] ρ1 _) 26 (.bool ((!(QaO p))||(!(QaO q)))):=hρ
 subst hρ
 refine Qal (t:=(!(QaO p))||(!(QaO q))) rfl (fun c10=>?_) (fun c10=>?_)
 ·
  refine Qag (Qab (Qaa (QcH (vs:=[]) (cs:=(vc vzero)++[(.slice none 0 0:Value),(.slice none 0 0:Value) ]) [vc vzero,[(.slice none 0 0:Value)],[(.slice none 0 0:Value)]] [vc vzero,[(.slice none 0 0:Value)],[(.slice none 0 0:Value)]] QiT rfl (rfl) rfl rfl (Qaa (QcC (V:=.agg ((vc vzero)++[(.slice none 0 0:Value),(.slice none 0 0:Value) ]).toArray) (vs:=(vc vzero)++[(.slice none 0 0:Value),(.slice none 0 0:Value) ]) (cs':=(vc vzero)++[(.slice none 0 0:Value),(.slice none 0 0:Value) ]) Qbz.1 hs 2 rfl rfl rfl rfl rfl (QQ8 rfl) (QbU (QcJ _) (Qau rfl (Qau rfl Qbu))) (Qaw rfl) fun w11 hs=>?_)))))
  replace hs:Own w no w11 [blk b1 ((vc p.known)++[(.slice a1p p.ents.length c1p:Value),(.slice a2p p.ticks.length c2p:Value) ]) 39,blk b3 ((vc q.known)++[(.slice a1q q.ents.length c1q:Value),(.slice a2q q.ticks.length c2q:Value) ]) 39,blk b5 ((vc vzero)++[(.slice none 0 0:Value),(.slice none 0 0:Value) ]) 39]:=hs
  refine Qaa (Qad (V:=I6 2) rfl (Qae (Qas ?_)))
  refine ⟨_,Qc4 (cs:=(vc vzero)++[(.slice none 0 0:Value),(.slice none 0 0:Value) ]) (V:=I6 2) Tryz.results26 Qbz hs 2 rfl rfl rfl rfl,?_⟩
  obtain ⟨hI,hR⟩:=Qmo (a:=p) (b:=q) (by have hz:=c10;revert hz;cases QaO p<;>cases QaO q<;>decide)
  rw [hI,hR]
  exact ⟨((none,0),(none,0)),rfl,((hs.take 0).more _ (QbF _ _ 59 7)).more _ (QbF _ _ 87 2),trivial⟩
 ·
  have c10r:=Qfo c10
  replace c10:=Qfl c10
  replace c10:=Qbr c10
  replace c10r:=Qbr c10r
  refine Qan (Qag ?_)
  have hra:=QbP.1 c10
  have hrb:=QbP.1 c10r
  replace hs:=hs.more emp trivial
  replace hs:=hs.more emp trivial
  refine QaC HM [some 28,some 29,some 30,some 31,some 6,some 7] [[],[29],[],[31],[29],[31]] [0,1,0,7,15,31] [pv (.agg ((vc p.known)++[(.slice a1p p.ents.length c1p:Value),(.slice a2p p.ticks.length c2p:Value) ]).toArray),(true,fun ρ=>.map (some (mOf (ρ 29)))),pv (.agg ((vc q.known)++[(.slice a1q q.ents.length c1q:Value),(.slice a2q q.ticks.length c2q:Value) ]).toArray),(true,fun ρ=>.map (some (mOf (ρ 31)))),(true,fun ρ=>.map (some (mOf (ρ 29)))),(true,fun ρ=>.map (some (mOf (ρ 31))))] (fun D ρ=>[blk b1 ((vc p.known)++[(.slice a1p p.ents.length c1p:Value),(.slice a2p p.ticks.length c2p:Value) ]) 39,blk b3 ((vc q.known)++[(.slice a1q q.ents.length c1q:Value),(.slice a2q q.ticks.length c2q:Value) ]) 39,blk b5 ((vc vzero)++[(.slice none 0 0:Value),(.slice none 0 0:Value) ]) 39,cond (D 1) (Qde (mOf (ρ 29)) dv cv (QaD p.ents)) (emp),cond (D 3) (Qde (mOf (ρ 31)) dv cv (QaD q.ents)) (emp)]) [5,4] (by kernel_rfl) hs ⟨?_,?_,?_,?_,?_,?_,trivial⟩ ?_
  ·exact ob [] [] rfl rfl fun D ρ w hs=>QaR (cs:=(vc p.known)++[(.slice a1p p.ents.length c1p:Value),(.slice a2p p.ticks.length c2p:Value) ]) Qbz hs 0 rfl rfl rfl ⟨rfl,hs⟩
  ·exact ob [0] [] rfl rfl fun D ρ w hs=>Qby (α:=Nat) (vs:=[.agg ((vc p.known)++[(.slice a1p p.ents.length c1p:Value),(.slice a2p p.ticks.length c2p:Value) ]).toArray]) (V:=fun x=>.map (some x)) QrP rfl rfl (QjN _ p a1p c1p a2p c2p (Rd.own' hr1p hs) (Rd.own' hr2p hs)) hs fun _ _ hs _=>⟨rfl,hs.put 3 (QQ8 rfl)⟩
  ·exact ob [] [] rfl rfl fun D ρ w hs=>QaR (cs:=(vc q.known)++[(.slice a1q q.ents.length c1q:Value),(.slice a2q q.ticks.length c2q:Value) ]) Qbz hs 1 rfl rfl rfl ⟨rfl,hs⟩
  ·exact ob [2] [] rfl rfl fun D ρ w hs=>Qby (α:=Nat) (vs:=[.agg ((vc q.known)++[(.slice a1q q.ents.length c1q:Value),(.slice a2q q.ticks.length c2q:Value) ]).toArray]) (V:=fun x=>.map (some x)) QrP rfl rfl (QjN _ q a1q c1q a2q c2q (Rd.own' hr1q hs) (Rd.own' hr2q hs)) hs fun _ _ hs _=>⟨rfl,hs.put 4 (QQ8 rfl)⟩
  ·exact ob [1] [] rfl rfl fun D ρ w hs=>Qad (V:=.map (some (mOf (ρ 29)))) rfl ⟨rfl,hs⟩
  ·exact ob [3] [] rfl rfl fun D ρ w hs=>Qad (V:=.map (some (mOf (ρ 31)))) rfl ⟨rfl,hs⟩
  rintro ρ1 w14 ρ2 hρ hs
  replace hρ:ρ2=upd (upd (mix [28,29,30,31,6,7] ρ1 _) 6 (.map (some (mOf (ρ1 29))))) 7 (.map (some (mOf (ρ1 31)))):=hρ
  replace hs:Own w no w14 [blk b1 ((vc p.known)++[(.slice a1p p.ents.length c1p:Value),(.slice a2p p.ticks.length c2p:Value) ]) 39,blk b3 ((vc q.known)++[(.slice a1q q.ents.length c1q:Value),(.slice a2q q.ticks.length c2q:Value) ]) 39,blk b5 ((vc vzero)++[(.slice none 0 0:Value),(.slice none 0 0:Value) ]) 39,Qde (mOf (ρ1 29)) dv cv (QaD p.ents),Qde (mOf (ρ1 31)) dv cv (QaD q.ents)]:=hs
  generalize (mOf (ρ1 29))=r15 at hρ hs
  generalize (mOf (ρ1 31))=r16 at hρ hs
  subst hρ
  refine Qag ?_
  replace hs:=hs.more emp trivial
  replace hs:=hs.more emp trivial
  refine QaC HM [some 32,some 33,some 34,some 35,some 36,some 37,some 38,some 39,some 40,some 8,none] [[],[],[],[],[],[],[],[39],[39],[8]] [0,1,0,4,15,0,32,127,255,0,1023] [pv (Pt b1 (0+0)),pv (.agg (vc p.known).toArray),pv (Pt b3 (0+0)),pv (.agg (vc q.known).toArray),pv (.agg (vc (vjoin p.known q.known)).toArray),pv (Pt b1 (0+17)),pv (.slice a2p p.ticks.length c2p),(true,fun ρ=>.slice (aOf (ρ 39)) ((p.ticks).length) (cOf (ρ 39))),(true,fun ρ=>.agg ((vc (vjoin p.known q.known))++[(.slice none 0 0:Value),(.slice (aOf (ρ 39)) ((p.ticks).length) (cOf (ρ 39)):Value) ]).toArray),(true,fun ρ=>.pointer (some ⟨(bOf (ρ 8)),0,none⟩)),pn] (fun D ρ=>[blk b1 ((vc p.known)++[(.slice a1p p.ents.length c1p:Value),(.slice a2p p.ticks.length c2p:Value) ]) 39,blk b3 ((vc q.known)++[(.slice a1q q.ents.length c1q:Value),(.slice a2q q.ticks.length c2q:Value) ]) 39,blk b5 ((vc vzero)++[(.slice none 0 0:Value),(.slice none 0 0:Value) ]) 39,Qde r15 dv cv (QaD p.ents),Qde r16 dv cv (QaD q.ents),cond (D 7) (row (.slice (aOf (ρ 39)) ((p.ticks).length) (cOf (ρ 39))) (p.ticks.map lsc) 87 2) (emp),cond (D 10) (blk (bOf (ρ 8)) ((vc (vjoin p.known q.known))++[(.slice none 0 0:Value),(.slice (aOf (ρ 39)) ((p.ticks).length) (cOf (ρ 39)):Value) ]) 39) (cond (D 9) (blk (bOf (ρ 8)) ((vc vzero)++[(.slice none 0 0:Value),(.slice none 0 0:Value) ]) 39) (emp))]) [9] (by kernel_rfl) hs ⟨?_,?_,?_,?_,?_,?_,?_,?_,?_,?_,?_,trivial⟩ ?_
  ·exact ob [] [] rfl rfl fun D ρ w hs=>Qaf Qc9 rfl ⟨rfl,hs⟩
  ·exact ob [0] [] rfl rfl fun D ρ w hs=>QbO (vs:=vc p.known) QbT hs 0 rfl rfl rfl rfl ⟨rfl,hs⟩
  ·exact ob [] [] rfl rfl fun D ρ w hs=>Qaf Qc9 rfl ⟨rfl,hs⟩
  ·exact ob [2] [] rfl rfl fun D ρ w hs=>QbO (vs:=vc q.known) QbT hs 1 rfl rfl rfl rfl ⟨rfl,hs⟩
  ·exact ob [1,3] [] rfl rfl fun D ρ w hs=>Qar (vs:=[.agg (vc p.known).toArray,.agg (vc q.known).toArray]) (V:=.agg (vc (vjoin p.known q.known)).toArray) QsC rfl rfl (QjA _ p.known q.known) hs fun _ hs=>⟨rfl,hs⟩
  ·exact ob [] [] rfl rfl fun D ρ w hs=>Qaf QcU rfl ⟨rfl,hs⟩
  ·exact ob [5] [] rfl rfl fun D ρ w hs=>QaK (V:=.slice a2p p.ticks.length c2p) Qfu hs 0 rfl rfl rfl ⟨rfl,hs⟩
  ·exact ob [6] [10] rfl rfl fun D ρ w hs=>Qby (vs:=[.slice a2p p.ticks.length c2p]) (V:=fun x:Option Addr × Nat=>.slice x.1 (p.ticks).length x.2) Qrm rfl rfl (QjL _ a2p c2p p.ticks (by omega) (Rd.own' hr2p hs)) hs fun _ _ hs _=>⟨rfl,hs.put 5 (QQ8 rfl)⟩
  ·exact ob [4,7] [] rfl rfl fun D ρ w hs=>QcH (vs:=[(0,.agg (vc (vjoin p.known q.known)).toArray),(2,.slice (aOf (ρ 39)) ((p.ticks).length) (cOf (ρ 39)))]) (cs:=(vc (vjoin p.known q.known))++[(.slice none 0 0:Value),(.slice (aOf (ρ 39)) ((p.ticks).length) (cOf (ρ 39)):Value) ]) [vc vzero,[(.slice none 0 0:Value)],[(.slice none 0 0:Value)]] [vc (vjoin p.known q.known),[(.slice none 0 0:Value)],[(.slice (aOf (ρ 39)) ((p.ticks).length) (cOf (ρ 39)):Value)]] QiT rfl (rfl) rfl rfl ⟨rfl,hs⟩
  ·exact ob [] [10] rfl rfl fun D ρ w hs=>QaJ (cs:=(vc vzero)++[(.slice none 0 0:Value),(.slice none 0 0:Value) ]) Qfw rfl hs fun _ _ hs=>⟨rfl,hs.put 6 (QQ8 rfl)⟩
  ·exact ob [8,9] [] rfl rfl fun D ρ w hs=>QcC (V:=.agg ((vc (vjoin p.known q.known))++[(.slice none 0 0:Value),(.slice (aOf (ρ 39)) ((p.ticks).length) (cOf (ρ 39)):Value) ]).toArray) (vs:=(vc (vjoin p.known q.known))++[(.slice none 0 0:Value),(.slice (aOf (ρ 39)) ((p.ticks).length) (cOf (ρ 39)):Value) ]) (cs':=(vc (vjoin p.known q.known))++[(.slice none 0 0:Value),(.slice (aOf (ρ 39)) ((p.ticks).length) (cOf (ρ 39)):Value) ]) Qbz.1 hs 6 rfl rfl rfl rfl rfl (QQ8 rfl) (QbU (QcJ _) (Qau rfl (Qau rfl Qbu))) (Qaw rfl) fun _ hs=>⟨trivial,hs⟩
  rintro ρ1 w21 ρ2 hρ hs
  replace hρ:ρ2=upd (mix [32,33,34,35,36,37,38,39,40,8] ρ1 _) 8 (.pointer (some ⟨(bOf (ρ1 8)),0,none⟩)):=hρ
  replace hs:Own w no w21 [blk b1 ((vc p.known)++[(.slice a1p p.ents.length c1p:Value),(.slice a2p p.ticks.length c2p:Value) ]) 39,blk b3 ((vc q.known)++[(.slice a1q q.ents.length c1q:Value),(.slice a2q q.ticks.length c2q:Value) ]) 39,blk b5 ((vc vzero)++[(.slice none 0 0:Value),(.slice none 0 0:Value) ]) 39,Qde r15 dv cv (QaD p.ents),Qde r16 dv cv (QaD q.ents),row (.slice (aOf (ρ1 39)) ((p.ticks).length) (cOf (ρ1 39))) (p.ticks.map lsc) 87 2,blk (bOf (ρ1 8)) ((vc (vjoin p.known q.known))++[(.slice none 0 0:Value),(.slice (aOf (ρ1 39)) ((p.ticks).length) (cOf (ρ1 39)):Value) ]) 39]:=hs
  generalize (aOf (ρ1 39))=a22 at hs
  generalize (cOf (ρ1 39))=c23 at hs
  generalize (bOf (ρ1 8))=b24 at hρ hs
  subst hρ
  refine Qag (Qag (Qab (Qaa (Qaf QbG rfl (Qaa (QaK (V:=.slice a1p p.ents.length c1p) Qdc hs 0 rfl rfl rfl (Qaa (QaX (n:=p.ents.length) Qbm (Rd.own' hr1p hs) (by simp) rfl (Qaa (Qac (V:=I6 0) rfl (Qae (Qak ?_))))))))))))
  replace hs:=hs.more (row (.slice none 0 0) (List.map cec []) 59 7) (QbF _ _ _ _)
  refine Qax (fun ρ μ ρ' w'=>∃ (ρo:Env) (k:Nat) (a9:Option Addr) (c9:Nat) (L9:List Cen),ρ'=upd (mix [5,10,11,12,44,45,46,47,48,49,50,51,52,53,54,55,56,57,58,59,60,61,62,63,64,65,66,67,68,69,70,71,72,73,74,75,76,77] ρo ρ) 44 (I6 (k:Int))∧(k≤p.ents.length)∧(L9=(p.ents.take k).filter (Qex q))∧(L9.length≤k)∧(∀ j:Nat,j<k→QdP q (gd p.ents j)=false)∧μ=p.ents.length-k∧Own w no w' [blk b1 ((vc p.known)++[(.slice a1p p.ents.length c1p:Value),(.slice a2p p.ticks.length c2p:Value) ]) 39,blk b3 ((vc q.known)++[(.slice a1q q.ents.length c1q:Value),(.slice a2q q.ticks.length c2q:Value) ]) 39,blk b5 ((vc vzero)++[(.slice none 0 0:Value),(.slice none 0 0:Value) ]) 39,Qde r15 dv cv (QaD p.ents),Qde r16 dv cv (QaD q.ents),row (.slice a22 ((p.ticks).length) c23) (p.ticks.map lsc) 87 2,blk b24 ((vc (vjoin p.known q.known))++[(.slice a9 L9.length c9:Value),(.slice a22 ((p.ticks).length) c23:Value) ]) 39,row (.slice a9 L9.length c9) (L9.map cec) 59 7]) ?_ ?_
  ·exact ⟨_,_,0,none,0,[],Qah (Qam (ds:=[5,10,11,12,44,45,46,47,48,49,50,51,52,53,54,55,56,57,58,59,60,61,62,63,64,65,66,67,68,69,70,71,72,73,74,75,76,77]) (Agr.refl _ _)) rfl,(by omega),rfl,(Nat.le_refl _),(fun j hj=>absurd hj (Nat.not_lt_zero j)),rfl,hs⟩
  ·rintro μ ρ' w25 ⟨ρo,k,a9,c9,L9,rfl,hk,hL9,hl9,hcf,rfl,hs⟩
   refine Qag (Qab (Qaa (QaP rfl rfl (Qae (Qag (Qal (t:=decide ((k:Int)<((p.ents.length:Nat):Int))) rfl (fun c26=>?_) (fun c26=>?_)))))))
   ·
    replace c26:=QQ1 c26
    refine Qan (Qag (Qak (Qag (Qab (Qaa (Qat Qbm QaA.1 (Rd.own' hr1p hs) rfl rfl (by omega) (by rw [QQ6];omega) (Qaa (QaZ (j:=0) (vs:=cec (gd p.ents k)) k QaA (Rd.own' hr1p hs) (QaY (by omega)) rfl rfl rfl (by omega) (Qaa (QaJ (cs:=cec (⟨0,0,0,0,(⟨0,0⟩:Dot),0⟩:Cen)) Qek rfl hs fun b27 w28 hs=>?_))))))))))
    replace hs:Own w no w28 [blk b1 ((vc p.known)++[(.slice a1p p.ents.length c1p:Value),(.slice a2p p.ticks.length c2p:Value) ]) 39,blk b3 ((vc q.known)++[(.slice a1q q.ents.length c1q:Value),(.slice a2q q.ticks.length c2q:Value) ]) 39,blk b5 ((vc vzero)++[(.slice none 0 0:Value),(.slice none 0 0:Value) ]) 39,Qde r15 dv cv (QaD p.ents),Qde r16 dv cv (QaD q.ents),row (.slice a22 ((p.ticks).length) c23) (p.ticks.map lsc) 87 2,blk b24 ((vc (vjoin p.known q.known))++[(.slice a9 L9.length c9:Value),(.slice a22 ((p.ticks).length) c23:Value) ]) 39,row (.slice a9 L9.length c9) (L9.map cec) 59 7,blk b27 (cec (⟨0,0,0,0,(⟨0,0⟩:Dot),0⟩:Cen)) 59]:=hs
    refine Qaa (QcC (V:=.agg (cec (gd p.ents k)).toArray) (vs:=cec (gd p.ents k)) (cs':=cec (gd p.ents k)) QaA.1 hs 8 rfl rfl rfl rfl rfl (QQ8 rfl) (Qa2 _) (Qaw rfl) fun w29 hs=>(Qae (Qag ?_)))
    have hce:=(hpE _ (Qbq (l:=p.ents) (i:=k) (by omega))).2.2.2.2.1
    refine Qab (Qaa (Qac (V:=.map (some r16)) rfl (Qaa (Qaf QbW rfl (Qaa (QbO (vs:=dc ((gd p.ents k).dot)) Qcv hs 8 rfl rfl rfl rfl (Qaa (Qf8 (k:=(gd p.ents k).dot) (z:=cz) QkH Ql2 Qek (hs.mapf 4 rfl) rfl rfl (Qaa (Qac (V:=.tuple #[.agg (cec ((mget ((gd p.ents k).dot) (QaD q.ents)).getD cz)).toArray,.bool ((mget ((gd p.ents k).dot) (QaD q.ents)).isSome)]) rfl (Qaa (QaB (V:=.agg (cec ((mget ((gd p.ents k).dot) (QaD q.ents)).getD cz)).toArray) rfl rfl (Qaa (QaB (V:=.bool ((mget ((gd p.ents k).dot) (QaD q.ents)).isSome)) rfl rfl (Qaa (QaJ (cs:=cec (⟨0,0,0,0,(⟨0,0⟩:Dot),0⟩:Cen)) Qek rfl hs fun b30 w31 hs=>(Qaa (QcC (V:=.agg (cec ((mget ((gd p.ents k).dot) (QaD q.ents)).getD cz)).toArray) (vs:=cec ((mget ((gd p.ents k).dot) (QaD q.ents)).getD cz)) (cs':=cec ((mget ((gd p.ents k).dot) (QaD q.ents)).getD cz)) QaA.1 hs 9 rfl rfl rfl rfl rfl (QQ8 rfl) (Qa2 _) (Qaw rfl) fun w32 hs=>(Qaa (Qad (V:=.bool ((mget ((gd p.ents k).dot) (QaD q.ents)).isSome)) rfl (Qae (Qag (Qag (Qbi [some 55,some 56,some 57,some 58,some 59,some 60] [] [0,1,3,3,15,31] [pv (.bool ((mget ((gd p.ents k).dot) (QaD q.ents)).isSome)),pv (.bool ((mget ((gd p.ents k).dot) (QaD q.ents)).isSome)),pg (((mget ((gd p.ents k).dot) (QaD q.ents)).isSome) == true) (.agg (cec ((mget ((gd p.ents k).dot) (QaD q.ents)).getD cz)).toArray),pg (((mget ((gd p.ents k).dot) (QaD q.ents)).isSome) == true) (.agg (cec (gd p.ents k)).toArray),pg (((mget ((gd p.ents k).dot) (QaD q.ents)).isSome) == true) (.bool (!decide ((mget ((gd p.ents k).dot) (QaD q.ents)).getD cz=gd p.ents k))),pv (.bool (QdP q (gd p.ents k)))] (fun _ _=>_) [5] (by kernel_rfl) hs ⟨?_,?_,?_,?_,?_,?_,trivial⟩ ?_))))))))))))))))))))))))
    ·exact ob [] [] rfl rfl fun D ρ w hs=>Qac (V:=.bool ((mget ((gd p.ents k).dot) (QaD q.ents)).isSome)) rfl ⟨rfl,hs⟩
    ·exact ob [0] [] rfl rfl fun D ρ w hs=>Qac (V:=.bool ((mget ((gd p.ents k).dot) (QaD q.ents)).isSome)) rfl ⟨rfl,hs⟩
    ·exact obg [1] [] ((mget ((gd p.ents k).dot) (QaD q.ents)).isSome) rfl (fun _=>rfl) rfl (fun _ _ _ _ h=>h) fun D ρ w hG hs=>QaR (cs:=cec ((mget ((gd p.ents k).dot) (QaD q.ents)).getD cz)) QaA hs 9 rfl rfl rfl ⟨rfl,hs⟩
    ·exact obg [1] [] ((mget ((gd p.ents k).dot) (QaD q.ents)).isSome) rfl (fun _=>rfl) rfl (fun _ _ _ _ h=>h) fun D ρ w hG hs=>QaR (cs:=cec (gd p.ents k)) QaA hs 8 rfl rfl rfl ⟨rfl,hs⟩
    ·exact obgy [1,2,3] [] [2,3] ((mget ((gd p.ents k).dot) (QaD q.ents)).isSome) rfl (fun _=>rfl) rfl (fun _ _ _ _ h=>h) (fun hG=>⟨hG,hG,trivial⟩) fun D ρ w hG hs=>QsP (xs:=cec ((mget ((gd p.ents k).dot) (QaD q.ents)).getD cz)) (ys:=cec (gd p.ents k)) Tryz.eqGuardType59 (QtB ((mget ((gd p.ents k).dot) (QaD q.ents)).getD cz) (gd p.ents k)) rfl rfl rfl ⟨rfl,hs⟩
    ·exact ob [1,4] [] rfl rfl fun D ρ w hs=>Qbb (V:=.bool (((mget ((gd p.ents k).dot) (QaD q.ents)).isSome)&&(!decide ((mget ((gd p.ents k).dot) (QaD q.ents)).getD cz=gd p.ents k)))) (V':=.bool (QdP q (gd p.ents k))) (Qa3 (h':=!decide ((mget ((gd p.ents k).dot) (QaD q.ents)).getD cz=gd p.ents k)) rfl rfl rfl ⟨rfl,rfl⟩) (congrArg Value.bool (Qoe hrb.nd _)) ⟨rfl,hs⟩
    rintro ρ1 w33 ρ2 hρ hs
    replace hρ:ρ2=upd (mix [55,56,57,58,59,60] ρ1 _) 60 (.bool (QdP q (gd p.ents k))):=hρ
    subst hρ
    refine Qal (t:=QdP q (gd p.ents k)) rfl (fun c34=>?_) (fun c34=>?_)
    ·
     refine Qag (Qab (Qaa (QcH (vs:=[]) (cs:=(vc vzero)++[(.slice none 0 0:Value),(.slice none 0 0:Value) ]) [vc vzero,[(.slice none 0 0:Value)],[(.slice none 0 0:Value)]] [vc vzero,[(.slice none 0 0:Value)],[(.slice none 0 0:Value)]] QiT rfl (rfl) rfl rfl (Qaa (QcC (V:=.agg ((vc vzero)++[(.slice none 0 0:Value),(.slice none 0 0:Value) ]).toArray) (vs:=(vc vzero)++[(.slice none 0 0:Value),(.slice none 0 0:Value) ]) (cs':=(vc vzero)++[(.slice none 0 0:Value),(.slice none 0 0:Value) ]) Qbz.1 hs 2 rfl rfl rfl rfl rfl (QQ8 rfl) (QbU (QcJ _) (Qau rfl (Qau rfl Qbu))) (Qaw rfl) fun w35 hs=>?_)))))
     replace hs:Own w no w35 [blk b1 ((vc p.known)++[(.slice a1p p.ents.length c1p:Value),(.slice a2p p.ticks.length c2p:Value) ]) 39,blk b3 ((vc q.known)++[(.slice a1q q.ents.length c1q:Value),(.slice a2q q.ticks.length c2q:Value) ]) 39,blk b5 ((vc vzero)++[(.slice none 0 0:Value),(.slice none 0 0:Value) ]) 39,Qde r15 dv cv (QaD p.ents),Qde r16 dv cv (QaD q.ents),row (.slice a22 ((p.ticks).length) c23) (p.ticks.map lsc) 87 2,blk b24 ((vc (vjoin p.known q.known))++[(.slice a9 L9.length c9:Value),(.slice a22 ((p.ticks).length) c23:Value) ]) 39,row (.slice a9 L9.length c9) (L9.map cec) 59 7,blk b27 (cec (gd p.ents k)) 59,blk b30 (cec ((mget ((gd p.ents k).dot) (QaD q.ents)).getD cz)) 59]:=hs
     refine Qaa (Qad (V:=I6 5) rfl (Qae (Qas ?_)))
     refine ⟨_,Qc4 (cs:=(vc vzero)++[(.slice none 0 0:Value),(.slice none 0 0:Value) ]) (V:=I6 5) Tryz.results26 Qbz hs 2 rfl rfl rfl rfl,?_⟩
     obtain ⟨hI,hR⟩:=Qix c10 c10r (Qk3 (k:=k) (by omega) c34)
     rw [hI,hR]
     exact ⟨((none,0),(none,0)),rfl,((hs.take 0).more _ (QbF _ _ 59 7)).more _ (QbF _ _ 87 2),trivial⟩
    ·
     refine Qan (Qag (Qbi [some 62,some 63,some 64,some 65,some 66,some 67,some 68,some 69,some 70] [] [0,1,3,7,3,19,63,127,255] [pv (.bool ((mget ((gd p.ents k).dot) (QaD q.ents)).isSome)),pv (.bool ((mget ((gd p.ents k).dot) (QaD q.ents)).isSome)),pg (((mget ((gd p.ents k).dot) (QaD q.ents)).isSome) == false) (Pt b3 (0+0)),pg (((mget ((gd p.ents k).dot) (QaD q.ents)).isSome) == false) (.agg (vc q.known).toArray),pg (((mget ((gd p.ents k).dot) (QaD q.ents)).isSome) == false) (Pt b27 (0+4)),pg (((mget ((gd p.ents k).dot) (QaD q.ents)).isSome) == false) (.agg (dc ((gd p.ents k).dot)).toArray),pg (((mget ((gd p.ents k).dot) (QaD q.ents)).isSome) == false) (.bool (QbC q.known ((gd p.ents k).dot))),pg (((mget ((gd p.ents k).dot) (QaD q.ents)).isSome) == false) (.bool (!(QbC q.known ((gd p.ents k).dot)))),pv (.bool (Qex q (gd p.ents k)))] (fun _ _=>_) [8] (by kernel_rfl) hs ⟨?_,?_,?_,?_,?_,?_,?_,?_,?_,trivial⟩ ?_))
     ·exact ob [] [] rfl rfl fun D ρ w hs=>Qac (V:=.bool ((mget ((gd p.ents k).dot) (QaD q.ents)).isSome)) rfl ⟨rfl,hs⟩
     ·exact ob [0] [] rfl rfl fun D ρ w hs=>Qac (V:=.bool ((mget ((gd p.ents k).dot) (QaD q.ents)).isSome)) rfl ⟨rfl,hs⟩
     ·exact obg [1] [] ((mget ((gd p.ents k).dot) (QaD q.ents)).isSome) rfl (fun _=>rfl) rfl (fun _ _ _ _ h=>h) fun D ρ w hG hs=>Qaf Qc9 rfl ⟨rfl,hs⟩
     ·exact obgy [1,2] [] [2] ((mget ((gd p.ents k).dot) (QaD q.ents)).isSome) rfl (fun _=>rfl) rfl (fun _ _ _ _ h=>h) (fun hG=>⟨hG,trivial⟩) fun D ρ w hG hs=>QbO (vs:=vc q.known) QbT hs 1 rfl rfl rfl rfl ⟨rfl,hs⟩
     ·exact obg [1] [] ((mget ((gd p.ents k).dot) (QaD q.ents)).isSome) rfl (fun _=>rfl) rfl (fun _ _ _ _ h=>h) fun D ρ w hG hs=>Qaf QbW rfl ⟨rfl,hs⟩
     ·exact obgy [1,4] [] [4] ((mget ((gd p.ents k).dot) (QaD q.ents)).isSome) rfl (fun _=>rfl) rfl (fun _ _ _ _ h=>h) (fun hG=>⟨hG,trivial⟩) fun D ρ w hG hs=>QbO (vs:=dc ((gd p.ents k).dot)) Qcv hs 8 rfl rfl rfl rfl ⟨rfl,hs⟩
     ·exact obgy [1,3,5] [] [3,5] ((mget ((gd p.ents k).dot) (QaD q.ents)).isSome) rfl (fun _=>rfl) rfl (fun _ _ _ _ h=>h) (fun hG=>⟨hG,hG,trivial⟩) fun D ρ w hG hs=>Qar (vs:=[.agg (vc q.known).toArray,.agg (dc ((gd p.ents k).dot)).toArray]) (V:=.bool (QbC q.known ((gd p.ents k).dot))) QmG rfl rfl (Qgf _ q.known ((gd p.ents k).dot) (by first|assumption|exact QcZ (by omega) (by omega) (by omega) (by omega))) hs fun _ hs=>⟨rfl,hs⟩
     ·exact obgy [1,6] [] [6] ((mget ((gd p.ents k).dot) (QaD q.ents)).isSome) rfl (fun _=>rfl) rfl (fun _ _ _ _ h=>h) (fun hG=>⟨hG,trivial⟩) fun D ρ w hG hs=>Qbw rfl ⟨rfl,hs⟩
     ·exact ob [1,7] [] rfl rfl fun D ρ w hs=>Qbb (V:=.bool (((mget ((gd p.ents k).dot) (QaD q.ents)).isSome)||(!(QbC q.known ((gd p.ents k).dot))))) (V':=.bool (Qex q (gd p.ents k))) (QbS (h':=!(QbC q.known ((gd p.ents k).dot))) rfl rfl rfl ⟨rfl,rfl⟩) (congrArg Value.bool (QlP _ _)) ⟨rfl,hs⟩
     rintro ρ1 w37 ρ2 hρ hs
     replace hρ:ρ2=upd (mix [62,63,64,65,66,67,68,69,70] ρ1 _) 70 (.bool (Qex q (gd p.ents k))):=hρ
     subst hρ
     refine Qal (t:=Qex q (gd p.ents k)) rfl (fun c38=>?_) (fun c38=>?_)
     ·
      refine Qab (Qaa (Qaf QbG rfl (Qaa (QaK (V:=.slice a9 L9.length c9) Qdc hs 6 rfl rfl rfl (Qaa (QaR (cs:=cec (gd p.ents k)) QaA hs 8 rfl rfl rfl (Qaa (QhD (vals:=[.agg (cec (gd p.ents k)).toArray]) (ls:=List.map cec ([gd p.ents k]:List Cen)) Qej rfl rfl rfl (Qbl (enc:=cec) (fun _=>rfl) _) (QaU Qa2 _) (QQ8 rfl) hs fun b39 w40 hs=>?_))))))))
      replace hs:Own w no w40 [blk b1 ((vc p.known)++[(.slice a1p p.ents.length c1p:Value),(.slice a2p p.ticks.length c2p:Value) ]) 39,blk b3 ((vc q.known)++[(.slice a1q q.ents.length c1q:Value),(.slice a2q q.ticks.length c2q:Value) ]) 39,blk b5 ((vc vzero)++[(.slice none 0 0:Value),(.slice none 0 0:Value) ]) 39,Qde r15 dv cv (QaD p.ents),Qde r16 dv cv (QaD q.ents),row (.slice a22 ((p.ticks).length) c23) (p.ticks.map lsc) 87 2,blk b24 ((vc (vjoin p.known q.known))++[(.slice a9 L9.length c9:Value),(.slice a22 ((p.ticks).length) c23:Value) ]) 39,row (.slice a9 L9.length c9) (L9.map cec) 59 7,blk b27 (cec (gd p.ents k)) 59,blk b30 (cec ((mget ((gd p.ents k).dot) (QaD q.ents)).getD cz)) 59,row (.slice (some ⟨b39,0,none⟩) 1 1) ([gd p.ents k].map cec) 59 7]:=hs
      refine Qaa (Qdl (ls':=(L9++[gd p.ents k]).map cec) (n:=(L9++[gd p.ents k]).length) Qej hs 7 rfl rfl rfl (hs.rd 10 rfl) (QaU Qa2 _) (by simp only [QQ6,QQ7,List.length_cons,List.length_nil];omega) (by simp) (by simp) fun a41 c41 w42 hs=>(Qaa (Qaf QbG rfl (Qaa (Qdd (V:=.slice a41 ((L9++[gd p.ents k]).length) c41) (cs':=(vc (vjoin p.known q.known))++[(.slice a41 ((L9++[gd p.ents k]).length) c41:Value),(.slice a22 ((p.ticks).length) c23:Value) ]) Qdc hs 6 rfl rfl rfl rfl (QQ8 rfl) rfl fun w43 hs=>(Qae (Qab (Qaa (Qav (a:=(k:Int)) (b:=1) (c:=((k+1:Nat):Int)) rfl rfl (Qaj (by omega) (by omega)) (Qaa (Qac (V:=I6 ((k+1:Nat):Int)) rfl (Qae ?_))))))))))))
      refine ⟨_,?_,_,k+1,a41,c41,L9++[gd p.ents k],Qah (Qam (ds:=[5,10,11,12,44,45,46,47,48,49,50,51,52,53,54,55,56,57,58,59,60,61,62,63,64,65,66,67,68,69,70,71,72,73,74,75,76,77]) (by repeat (first|exact Agr.refl _ _|refine Agr.upd ?_ rfl|refine Agr.mix ?_ rfl))) rfl,(by omega),(QeU hL9 (by omega) c38),(by rw [QQ7,List.length_singleton];omega),(Qdh hcf c34),rfl,hs.take 8⟩
      omega
     ·
      refine Qan (Qab (Qaa (Qav (a:=(k:Int)) (b:=1) (c:=((k+1:Nat):Int)) rfl rfl (Qaj (by omega) (by omega)) (Qaa (Qac (V:=I6 ((k+1:Nat):Int)) rfl (Qae ?_))))))
      refine ⟨_,?_,_,k+1,a9,c9,L9,Qah (Qam (ds:=[5,10,11,12,44,45,46,47,48,49,50,51,52,53,54,55,56,57,58,59,60,61,62,63,64,65,66,67,68,69,70,71,72,73,74,75,76,77]) (by repeat (first|exact Agr.refl _ _|refine Agr.upd ?_ rfl|refine Agr.mix ?_ rfl))) rfl,(by omega),(QdR hL9 (by omega) c38),(by omega),(Qdh hcf c34),rfl,hs.take 8⟩
      omega
   ·
    replace c26:=QQ2 c26
    refine Qaz (Qag (Qag (Qab (Qaa (Qaf QbG rfl (Qaa (QaK (V:=.slice a1q q.ents.length c1q) Qdc hs 1 rfl rfl rfl (Qaa (QaX (n:=q.ents.length) Qbm (Rd.own' hr1q hs) (by simp) rfl (Qaa (Qac (V:=I6 0) rfl (Qae (Qak (Qax (fun ρ μ ρ' w'=>∃ (ρo:Env) (k2:Nat) (a7:Option Addr) (c7:Nat) (L7:List Cen),ρ'=upd (mix [14,15,16,81,82,83,84,85,86,87,88,89,90,91,92,93,94,95,96,97,98,99,100,101,102,103,104,105,106,107,108] ρo ρ) 81 (I6 (k2:Int))∧(k2≤q.ents.length)∧(L7=p.ents.filter (Qex q)++(q.ents.take k2).filter (Qeu p))∧(L7.length≤p.ents.length+k2)∧μ=q.ents.length-k2∧Own w no w' [blk b1 ((vc p.known)++[(.slice a1p p.ents.length c1p:Value),(.slice a2p p.ticks.length c2p:Value) ]) 39,blk b3 ((vc q.known)++[(.slice a1q q.ents.length c1q:Value),(.slice a2q q.ticks.length c2q:Value) ]) 39,blk b5 ((vc vzero)++[(.slice none 0 0:Value),(.slice none 0 0:Value) ]) 39,Qde r15 dv cv (QaD p.ents),Qde r16 dv cv (QaD q.ents),row (.slice a22 ((p.ticks).length) c23) (p.ticks.map lsc) 87 2,blk b24 ((vc (vjoin p.known q.known))++[(.slice a7 L7.length c7:Value),(.slice a22 ((p.ticks).length) c23:Value) ]) 39,row (.slice a7 L7.length c7) (L7.map cec) 59 7]) ?_ ?_))))))))))))))
    ·exact ⟨_,_,0,a9,c9,L9,Qah (Qam (ds:=[14,15,16,81,82,83,84,85,86,87,88,89,90,91,92,93,94,95,96,97,98,99,100,101,102,103,104,105,106,107,108]) (Agr.refl _ _)) rfl,(by omega),(by rw [List.take_zero,List.filter_nil,List.append_nil,hL9,Qb6 (by omega)]),(by omega),rfl,hs⟩
    ·rintro μ ρ' w44 ⟨ρo,k2,a7,c7,L7,rfl,hk2,hL7,hl7,rfl,hs⟩
     refine Qag (Qab (Qaa (QaP rfl rfl (Qae (Qag (Qal (t:=decide ((k2:Int)<((q.ents.length:Nat):Int))) rfl (fun c45=>?_) (fun c45=>?_)))))))
     ·
      replace c45:=QQ1 c45
      refine Qan (Qag (Qak (Qag (Qab (Qaa (Qat Qbm QaA.1 (Rd.own' hr1q hs) rfl rfl (by omega) (by rw [QQ6];omega) (Qaa (QaZ (j:=0) (vs:=cec (gd q.ents k2)) k2 QaA (Rd.own' hr1q hs) (QaY (by omega)) rfl rfl rfl (by omega) (Qaa (QaJ (cs:=cec (⟨0,0,0,0,(⟨0,0⟩:Dot),0⟩:Cen)) Qek rfl hs fun b46 w47 hs=>?_))))))))))
      replace hs:Own w no w47 [blk b1 ((vc p.known)++[(.slice a1p p.ents.length c1p:Value),(.slice a2p p.ticks.length c2p:Value) ]) 39,blk b3 ((vc q.known)++[(.slice a1q q.ents.length c1q:Value),(.slice a2q q.ticks.length c2q:Value) ]) 39,blk b5 ((vc vzero)++[(.slice none 0 0:Value),(.slice none 0 0:Value) ]) 39,Qde r15 dv cv (QaD p.ents),Qde r16 dv cv (QaD q.ents),row (.slice a22 ((p.ticks).length) c23) (p.ticks.map lsc) 87 2,blk b24 ((vc (vjoin p.known q.known))++[(.slice a7 L7.length c7:Value),(.slice a22 ((p.ticks).length) c23:Value) ]) 39,row (.slice a7 L7.length c7) (L7.map cec) 59 7,blk b46 (cec (⟨0,0,0,0,(⟨0,0⟩:Dot),0⟩:Cen)) 59]:=hs
      refine Qaa (QcC (V:=.agg (cec (gd q.ents k2)).toArray) (vs:=cec (gd q.ents k2)) (cs':=cec (gd q.ents k2)) QaA.1 hs 8 rfl rfl rfl rfl rfl (QQ8 rfl) (Qa2 _) (Qaw rfl) fun w48 hs=>(Qae (Qag ?_)))
      have hce:=(hqE _ (Qbq (l:=q.ents) (i:=k2) (by omega))).2.2.2.2.1
      refine Qab (Qaa (Qac (V:=.map (some r15)) rfl (Qaa (Qaf QbW rfl (Qaa (QbO (vs:=dc ((gd q.ents k2).dot)) Qcv hs 8 rfl rfl rfl rfl (Qaa (Qf8 (k:=(gd q.ents k2).dot) (z:=cz) QkH Ql2 Qek (hs.mapf 3 rfl) rfl rfl (Qaa (Qac (V:=.tuple #[.agg (cec ((mget ((gd q.ents k2).dot) (QaD p.ents)).getD cz)).toArray,.bool ((mget ((gd q.ents k2).dot) (QaD p.ents)).isSome)]) rfl (Qaa (QaB (V:=.agg (cec ((mget ((gd q.ents k2).dot) (QaD p.ents)).getD cz)).toArray) rfl rfl (Qaa (QaB (V:=.bool ((mget ((gd q.ents k2).dot) (QaD p.ents)).isSome)) rfl rfl (Qaa (QaJ (cs:=cec (⟨0,0,0,0,(⟨0,0⟩:Dot),0⟩:Cen)) Qek rfl hs fun b49 w50 hs=>(Qaa (QcC (V:=.agg (cec ((mget ((gd q.ents k2).dot) (QaD p.ents)).getD cz)).toArray) (vs:=cec ((mget ((gd q.ents k2).dot) (QaD p.ents)).getD cz)) (cs':=cec ((mget ((gd q.ents k2).dot) (QaD p.ents)).getD cz)) QaA.1 hs 9 rfl rfl rfl rfl rfl (QQ8 rfl) (Qa2 _) (Qaw rfl) fun w51 hs=>(Qaa (Qad (V:=.bool ((mget ((gd q.ents k2).dot) (QaD p.ents)).isSome)) rfl (Qae (Qag (Qbi [some 92,some 93,some 94,some 95,some 96,some 97,some 98,some 99,some 100,some 101] [] [0,1,3,7,15,7,39,127,255,511] [pv (.bool ((mget ((gd q.ents k2).dot) (QaD p.ents)).isSome)),pv (.bool (!((mget ((gd q.ents k2).dot) (QaD p.ents)).isSome))),pv (.bool (!((mget ((gd q.ents k2).dot) (QaD p.ents)).isSome))),pg ((!((mget ((gd q.ents k2).dot) (QaD p.ents)).isSome)) == true) (Pt b1 (0+0)),pg ((!((mget ((gd q.ents k2).dot) (QaD p.ents)).isSome)) == true) (.agg (vc p.known).toArray),pg ((!((mget ((gd q.ents k2).dot) (QaD p.ents)).isSome)) == true) (Pt b46 (0+4)),pg ((!((mget ((gd q.ents k2).dot) (QaD p.ents)).isSome)) == true) (.agg (dc ((gd q.ents k2).dot)).toArray),pg ((!((mget ((gd q.ents k2).dot) (QaD p.ents)).isSome)) == true) (.bool (QbC p.known ((gd q.ents k2).dot))),pg ((!((mget ((gd q.ents k2).dot) (QaD p.ents)).isSome)) == true) (.bool (!(QbC p.known ((gd q.ents k2).dot)))),pv (.bool (Qeu p (gd q.ents k2)))] (fun _ _=>_) [9] (by kernel_rfl) hs ⟨?_,?_,?_,?_,?_,?_,?_,?_,?_,?_,trivial⟩ ?_)))))))))))))))))))))))
      ·exact ob [] [] rfl rfl fun D ρ w hs=>Qac (V:=.bool ((mget ((gd q.ents k2).dot) (QaD p.ents)).isSome)) rfl ⟨rfl,hs⟩
      ·exact ob [0] [] rfl rfl fun D ρ w hs=>Qbw rfl ⟨rfl,hs⟩
      ·exact ob [1] [] rfl rfl fun D ρ w hs=>Qac (V:=.bool (!((mget ((gd q.ents k2).dot) (QaD p.ents)).isSome))) rfl ⟨rfl,hs⟩
      ·exact obg [2] [] (!((mget ((gd q.ents k2).dot) (QaD p.ents)).isSome)) rfl (fun _=>rfl) rfl (fun _ _ _ _ h=>h) fun D ρ w hG hs=>Qaf Qc9 rfl ⟨rfl,hs⟩
      ·exact obgy [2,3] [] [3] (!((mget ((gd q.ents k2).dot) (QaD p.ents)).isSome)) rfl (fun _=>rfl) rfl (fun _ _ _ _ h=>h) (fun hG=>⟨hG,trivial⟩) fun D ρ w hG hs=>QbO (vs:=vc p.known) QbT hs 0 rfl rfl rfl rfl ⟨rfl,hs⟩
      ·exact obg [2] [] (!((mget ((gd q.ents k2).dot) (QaD p.ents)).isSome)) rfl (fun _=>rfl) rfl (fun _ _ _ _ h=>h) fun D ρ w hG hs=>Qaf QbW rfl ⟨rfl,hs⟩
      ·exact obgy [2,5] [] [5] (!((mget ((gd q.ents k2).dot) (QaD p.ents)).isSome)) rfl (fun _=>rfl) rfl (fun _ _ _ _ h=>h) (fun hG=>⟨hG,trivial⟩) fun D ρ w hG hs=>QbO (vs:=dc ((gd q.ents k2).dot)) Qcv hs 8 rfl rfl rfl rfl ⟨rfl,hs⟩
      ·exact obgy [2,4,6] [] [4,6] (!((mget ((gd q.ents k2).dot) (QaD p.ents)).isSome)) rfl (fun _=>rfl) rfl (fun _ _ _ _ h=>h) (fun hG=>⟨hG,hG,trivial⟩) fun D ρ w hG hs=>Qar (vs:=[.agg (vc p.known).toArray,.agg (dc ((gd q.ents k2).dot)).toArray]) (V:=.bool (QbC p.known ((gd q.ents k2).dot))) QmG rfl rfl (Qgf _ p.known ((gd q.ents k2).dot) (by first|assumption|exact QcZ (by omega) (by omega) (by omega) (by omega))) hs fun _ hs=>⟨rfl,hs⟩
      ·exact obgy [2,7] [] [7] (!((mget ((gd q.ents k2).dot) (QaD p.ents)).isSome)) rfl (fun _=>rfl) rfl (fun _ _ _ _ h=>h) (fun hG=>⟨hG,trivial⟩) fun D ρ w hG hs=>Qbw rfl ⟨rfl,hs⟩
      ·exact ob [2,8] [] rfl rfl fun D ρ w hs=>Qbb (V:=.bool ((!((mget ((gd q.ents k2).dot) (QaD p.ents)).isSome))&&(!(QbC p.known ((gd q.ents k2).dot))))) (V':=.bool (Qeu p (gd q.ents k2))) (Qa3 (h':=!(QbC p.known ((gd q.ents k2).dot))) rfl rfl rfl ⟨rfl,rfl⟩) (congrArg Value.bool (Qk7 _ _)) ⟨rfl,hs⟩
      rintro ρ1 w53 ρ2 hρ hs
      replace hρ:ρ2=upd (mix [92,93,94,95,96,97,98,99,100,101] ρ1 _) 101 (.bool (Qeu p (gd q.ents k2))):=hρ
      subst hρ
      refine Qal (t:=Qeu p (gd q.ents k2)) rfl (fun c54=>?_) (fun c54=>?_)
      ·
       refine Qab (Qaa (Qaf QbG rfl (Qaa (QaK (V:=.slice a7 L7.length c7) Qdc hs 6 rfl rfl rfl (Qaa (QaR (cs:=cec (gd q.ents k2)) QaA hs 8 rfl rfl rfl (Qaa (QhD (vals:=[.agg (cec (gd q.ents k2)).toArray]) (ls:=List.map cec ([gd q.ents k2]:List Cen)) Qej rfl rfl rfl (Qbl (enc:=cec) (fun _=>rfl) _) (QaU Qa2 _) (QQ8 rfl) hs fun b55 w56 hs=>?_))))))))
       replace hs:Own w no w56 [blk b1 ((vc p.known)++[(.slice a1p p.ents.length c1p:Value),(.slice a2p p.ticks.length c2p:Value) ]) 39,blk b3 ((vc q.known)++[(.slice a1q q.ents.length c1q:Value),(.slice a2q q.ticks.length c2q:Value) ]) 39,blk b5 ((vc vzero)++[(.slice none 0 0:Value),(.slice none 0 0:Value) ]) 39,Qde r15 dv cv (QaD p.ents),Qde r16 dv cv (QaD q.ents),row (.slice a22 ((p.ticks).length) c23) (p.ticks.map lsc) 87 2,blk b24 ((vc (vjoin p.known q.known))++[(.slice a7 L7.length c7:Value),(.slice a22 ((p.ticks).length) c23:Value) ]) 39,row (.slice a7 L7.length c7) (L7.map cec) 59 7,blk b46 (cec (gd q.ents k2)) 59,blk b49 (cec ((mget ((gd q.ents k2).dot) (QaD p.ents)).getD cz)) 59,row (.slice (some ⟨b55,0,none⟩) 1 1) ([gd q.ents k2].map cec) 59 7]:=hs
       refine Qaa (Qdl (ls':=(L7++[gd q.ents k2]).map cec) (n:=(L7++[gd q.ents k2]).length) Qej hs 7 rfl rfl rfl (hs.rd 10 rfl) (QaU Qa2 _) (by simp only [QQ6,QQ7,List.length_cons,List.length_nil];omega) (by simp) (by simp) fun a57 c57 w58 hs=>(Qaa (Qaf QbG rfl (Qaa (Qdd (V:=.slice a57 ((L7++[gd q.ents k2]).length) c57) (cs':=(vc (vjoin p.known q.known))++[(.slice a57 ((L7++[gd q.ents k2]).length) c57:Value),(.slice a22 ((p.ticks).length) c23:Value) ]) Qdc hs 6 rfl rfl rfl rfl (QQ8 rfl) rfl fun w59 hs=>(Qae (Qab (Qaa (Qav (a:=(k2:Int)) (b:=1) (c:=((k2+1:Nat):Int)) rfl rfl (Qaj (by omega) (by omega)) (Qaa (Qac (V:=I6 ((k2+1:Nat):Int)) rfl (Qae ?_))))))))))))
       refine ⟨_,?_,_,k2+1,a57,c57,L7++[gd q.ents k2],Qah (Qam (ds:=[14,15,16,81,82,83,84,85,86,87,88,89,90,91,92,93,94,95,96,97,98,99,100,101,102,103,104,105,106,107,108]) (by repeat (first|exact Agr.refl _ _|refine Agr.upd ?_ rfl|refine Agr.mix ?_ rfl))) rfl,(by omega),(Qgp hL7 (by omega) c54),(by rw [QQ7,List.length_singleton];omega),rfl,hs.take 8⟩
       omega
      ·
       refine Qan (Qab (Qaa (Qav (a:=(k2:Int)) (b:=1) (c:=((k2+1:Nat):Int)) rfl rfl (Qaj (by omega) (by omega)) (Qaa (Qac (V:=I6 ((k2+1:Nat):Int)) rfl (Qae ?_))))))
       refine ⟨_,?_,_,k2+1,a7,c7,L7,Qah (Qam (ds:=[14,15,16,81,82,83,84,85,86,87,88,89,90,91,92,93,94,95,96,97,98,99,100,101,102,103,104,105,106,107,108]) (by repeat (first|exact Agr.refl _ _|refine Agr.upd ?_ rfl|refine Agr.mix ?_ rfl))) rfl,(by omega),(Qhj hL7 (by omega) c54),(by omega),rfl,hs.take 8⟩
       omega
     ·
      replace c45:=QQ2 c45
      refine Qaz (Qag (Qab (Qaa (Qaf QbG rfl (Qaa (QaK (V:=.slice a7 L7.length c7) Qdc hs 6 rfl rfl rfl (Qaa (Qbn (α:={ m:List Cen // QkB L7 m }) (vs:=[.slice a7 L7.length c7,.func (.func 35) #[] #[]]) (V:=fun _=>.tuple #[]) (R:=row (.slice a7 L7.length c7) (L7.map cec) 59 7) (R':=fun x=>row (.slice a7 L7.length c7) (x.1.map cec) 59 7) (Lo:=fun _=>[]) (F:=fun _ _=>True) Qud rfl rfl hs 7 rfl (fun S hS hlt=>hsortE _ S _ _ _ hS hlt (by omega)) fun sx61 w60 hs _=>?_))))))))
      replace hs:Own w no w60 [blk b1 ((vc p.known)++[(.slice a1p p.ents.length c1p:Value),(.slice a2p p.ticks.length c2p:Value) ]) 39,blk b3 ((vc q.known)++[(.slice a1q q.ents.length c1q:Value),(.slice a2q q.ticks.length c2q:Value) ]) 39,blk b5 ((vc vzero)++[(.slice none 0 0:Value),(.slice none 0 0:Value) ]) 39,Qde r15 dv cv (QaD p.ents),Qde r16 dv cv (QaD q.ents),row (.slice a22 ((p.ticks).length) c23) (p.ticks.map lsc) 87 2,blk b24 ((vc (vjoin p.known q.known))++[(.slice a7 L7.length c7:Value),(.slice a22 ((p.ticks).length) c23:Value) ]) 39,row (.slice a7 L7.length c7) (sx61.1.map cec) 59 7]:=hs
      refine Qae (Qag (Qag (Qab (Qaa (Qaf QcU rfl (Qaa (QaK (V:=.slice a2q q.ticks.length c2q) Qfu hs 1 rfl rfl rfl (Qaa (QaX (n:=q.ticks.length) Qei (Rd.own' hr2q hs) (by simp) rfl (Qaa (Qac (V:=I6 0) rfl (Qae (Qak (Qax (fun ρ μ ρ' w'=>∃ (ρo:Env) (k3:Nat) (a8:Option Addr) (c8:Nat) (L8:List Lst),ρ'=upd (mix [18,115,116,117,118,119,120,121] ρo ρ) 115 (I6 (k3:Int))∧(k3≤q.ticks.length)∧(L8=Qdk p.ticks (q.ticks.take k3))∧μ=q.ticks.length-k3∧Own w no w' [blk b1 ((vc p.known)++[(.slice a1p p.ents.length c1p:Value),(.slice a2p p.ticks.length c2p:Value) ]) 39,blk b3 ((vc q.known)++[(.slice a1q q.ents.length c1q:Value),(.slice a2q q.ticks.length c2q:Value) ]) 39,blk b5 ((vc vzero)++[(.slice none 0 0:Value),(.slice none 0 0:Value) ]) 39,Qde r15 dv cv (QaD p.ents),Qde r16 dv cv (QaD q.ents),row (.slice a8 L8.length c8) (L8.map lsc) 87 2,blk b24 ((vc (vjoin p.known q.known))++[(.slice a7 L7.length c7:Value),(.slice a8 L8.length c8:Value) ]) 39,row (.slice a7 L7.length c7) (sx61.1.map cec) 59 7]) ?_ ?_))))))))))))))
      ·exact ⟨_,_,0,a22,c23,p.ticks,Qah (Qam (ds:=[18,115,116,117,118,119,120,121]) (Agr.refl _ _)) rfl,(by omega),rfl,rfl,hs⟩
      ·rintro μ ρ' w62 ⟨ρo,k3,a8,c8,L8,rfl,hk3,hL8,rfl,hs⟩
       refine Qag (Qab (Qaa (QaP rfl rfl (Qae (Qag (Qal (t:=decide ((k3:Int)<((q.ticks.length:Nat):Int))) rfl (fun c63=>?_) (fun c63=>?_)))))))
       ·
        replace c63:=QQ1 c63
        refine Qan (Qag (Qak (Qag (Qab (Qaa (Qat Qei Qcs.1 (Rd.own' hr2q hs) rfl rfl (by omega) (by rw [QQ6];omega) (Qaa (QaZ (j:=0) (vs:=lsc (gd q.ticks k3)) k3 Qcs (Rd.own' hr2q hs) (QaY (by omega)) rfl rfl rfl (by omega) (Qaa (QaJ (cs:=lsc (⟨0,0⟩:Lst)) Qm3 rfl hs fun b64 w65 hs=>(Qaa (QcC (V:=.agg (lsc (gd q.ticks k3)).toArray) (vs:=lsc (gd q.ticks k3)) (cs':=lsc (gd q.ticks k3)) Qcs.1 hs 8 rfl rfl rfl rfl rfl (QQ8 rfl) (Qcw _) (Qaw rfl) fun w66 hs=>(Qae ?_)))))))))))))
        have hT8:QeN L8:=by rw [hL8];exact Qkx hra.rt _
        have hl8:L8.length≤10000:=by have:=Qki (s:=p.ticks) (q.ticks.take k3);rw [← hL8,List.length_take] at this;omega
        refine Qab (Qaa (QaR (cs:=lsc (gd q.ticks k3)) Qcs hs 8 rfl rfl rfl ?_))
        replace hs:=hs.join 6 5 (by decide) rfl rfl
        refine Qaa (Qbn (α:=Option Addr × Nat) (vs:=[Pt b24 0,.agg (lsc (gd q.ticks k3)).toArray]) (V:=fun _=>.tuple #[]) (R:=star [blk b24 (vc (vjoin p.known q.known)++[(.slice a7 L7.length c7:Value),(.slice a8 L8.length c8:Value)]) 39,row (.slice a8 L8.length c8) (L8.map lsc) 87 2]) (R':=fun x=>star [blk b24 (vc (vjoin p.known q.known)++[(.slice a7 L7.length c7:Value),(.slice x.1 (Qdb ((gd q.ticks k3).cart) ((gd q.ticks k3).tick) L8).length x.2:Value)]) 39,row (.slice x.1 (Qdb ((gd q.ticks k3).cart) ((gd q.ticks k3).tick) L8).length x.2) ((Qdb ((gd q.ticks k3).cart) ((gd q.ticks k3).tick) L8).map lsc) 87 2]) (Lo:=fun _=>[]) (F:=fun _ _=>True) QsK rfl rfl hs 6 rfl (fun S hS hlS=>Qlx _ S b24 (vjoin p.known q.known) (.slice a7 L7.length c7) a8 c8 L8 (gd q.ticks k3) (by omega) hT8 hS hlS) fun x67 w68 hs _=>?_)
        replace hs:=hs.split 6 rfl
        replace hs:=hs.put 5 (QQ8 rfl)
        refine Qae (Qab (Qaa (Qav (a:=(k3:Int)) (b:=1) (c:=((k3+1:Nat):Int)) rfl rfl (Qaj (by omega) (by omega)) (Qaa (Qac (V:=I6 ((k3+1:Nat):Int)) rfl (Qae ?_))))))
        refine ⟨_,?_,_,k3+1,x67.1,x67.2,Qdb ((gd q.ticks k3).cart) ((gd q.ticks k3).tick) L8,Qah (Qam (ds:=[18,115,116,117,118,119,120,121]) (by repeat (first|exact Agr.refl _ _|refine Agr.upd ?_ rfl|refine Agr.mix ?_ rfl))) rfl,(by omega),(by rw [QiG (by omega),← hL8]),rfl,hs.take 8⟩
        omega
       ·
        replace c63:=QQ2 c63
        refine Qaz (Qag (Qab (Qaa (QaR (cs:=(vc (vjoin p.known q.known))++[(.slice a7 L7.length c7:Value),(.slice a8 L8.length c8:Value) ]) Qbz hs 6 rfl rfl rfl (Qaa (QcC (V:=.agg ((vc (vjoin p.known q.known))++[(.slice a7 L7.length c7:Value),(.slice a8 L8.length c8:Value) ]).toArray) (vs:=(vc (vjoin p.known q.known))++[(.slice a7 L7.length c7:Value),(.slice a8 L8.length c8:Value) ]) (cs':=(vc (vjoin p.known q.known))++[(.slice a7 L7.length c7:Value),(.slice a8 L8.length c8:Value) ]) Qbz.1 hs 2 rfl rfl rfl rfl rfl (QQ8 rfl) (QbU (QcJ _) (Qau rfl (Qau rfl Qbu))) (Qaw rfl) fun w69 hs=>(Qaa (Qad (V:=I6 0) rfl (Qae (Qas ?_))))))))))
        refine ⟨_,Qc4 (cs:=(vc (vjoin p.known q.known))++[(.slice a7 L7.length c7:Value),(.slice a8 L8.length c8:Value) ]) (V:=I6 0) Tryz.results26 Qbz hs 2 rfl rfl rfl rfl,?_⟩
        have hcc:=QlI (b:=q) (l:=p.ents) fun j hj=>hcf j (by omega)
        have hLL:L7=p.ents.filter (Qex q)++q.ents.filter (Qeu p):=by rw [hL7,Qb6 (l:=q.ents) (by omega)]
        have hsx:QkB (p.ents.filter (Qex q)++q.ents.filter (Qeu p)) sx61.1:=by rw [← hLL];exact sx61.2
        obtain ⟨hI,hR⟩:=QhR hra hrb hcc hsx
        have hml:=QjV hra hrb hcc hsx hLL
        have hT:L8=Qdk p.ticks q.ticks:=by rw [hL8,Qb6 (l:=q.ticks) (by omega)]
        rw [hI]
        rw [hR] at hml ⊢
        subst hT
        rw [hml] at hs ⊢
        exact ⟨((a7,c7),(a8,c8)),rfl,hs.two 7 5 (by decide) rfl rfl,trivial⟩
end Tt
end Go.Proofs
namespace Go.Proofs
open Go Go.Vx Go.RowKit
namespace Tt
theorem QgE (R:Sta) (I:Int) (w:World) (s:Sta) (a1:Option Addr) (c1:Nat) (a2:Option Addr) (c2:Nat) (o:Opn) (hO:QbH o) (hok:QcT s) (hle:s.ents.length≤1000) (hlt:s.ticks.length≤1000) (hr1:Rd w (.slice a1 s.ents.length c1) 7 (s.ents.map cec)) (hr2:Rd w (.slice a2 s.ticks.length c2) 2 (s.ticks.map lsc)) (hR:QaE s o=R) (hI:Qcg s o=I):Calls Tryz.prog 7 #[.agg ((vc s.known)++[(.slice a1 s.ents.length c1:Value),(.slice a2 s.ticks.length c2:Value) ]).toArray,.agg (oc o).toArray] w (fun e w'=>∃ x:(Option Addr × Nat) × (Option Addr × Nat),e = .returned (.tuple #[.agg (vc (R).known++[(.slice x.1.1 (R).ents.length x.1.2:Value),(.slice x.2.1 (R).ticks.length x.2.2:Value)]).toArray,.int .i64 I])∧Own w no w' [row (.slice x.1.1 (R).ents.length x.1.2) ((R).ents.map cec) 59 7,row (.slice x.2.1 (R).ticks.length x.2.2) ((R).ticks.map lsc) 87 2]∧True):=by
 subst hR;subst hI;exact QhK w s a1 c1 a2 c2 o hO hok hle hlt hr1 hr2
theorem Qke (R:Sta) (I:Int) (w:World) (p:Sta) (a1p:Option Addr) (c1p:Nat) (a2p:Option Addr) (c2p:Nat) (q:Sta) (a1q:Option Addr) (c1q:Nat) (a2q:Option Addr) (c2q:Nat) (hsortE:QhV Tryz.prog 68 35 cec 59 7 QkB) (hokp:QcT p) (hlep:p.ents.length≤1000) (hltp:p.ticks.length≤1000) (hokq:QcT q) (hleq:q.ents.length≤1000) (hltq:q.ticks.length≤1000) (hr1p:Rd w (.slice a1p p.ents.length c1p) 7 (p.ents.map cec)) (hr2p:Rd w (.slice a2p p.ticks.length c2p) 2 (p.ticks.map lsc)) (hr1q:Rd w (.slice a1q q.ents.length c1q) 7 (q.ents.map cec)) (hr2q:Rd w (.slice a2q q.ticks.length c2q) 2 (q.ticks.map lsc)) (hR:QaN p q=R) (hI:Qct p q=I):Calls Tryz.prog 26 #[.agg ((vc p.known)++[(.slice a1p p.ents.length c1p:Value),(.slice a2p p.ticks.length c2p:Value) ]).toArray,.agg ((vc q.known)++[(.slice a1q q.ents.length c1q:Value),(.slice a2q q.ticks.length c2q:Value) ]).toArray] w (fun e w'=>∃ x:(Option Addr × Nat) × (Option Addr × Nat),e = .returned (.tuple #[.agg (vc (R).known++[(.slice x.1.1 (R).ents.length x.1.2:Value),(.slice x.2.1 (R).ticks.length x.2.2:Value)]).toArray,.int .i64 I])∧Own w no w' [row (.slice x.1.1 (R).ents.length x.1.2) ((R).ents.map cec) 59 7,row (.slice x.2.1 (R).ticks.length x.2.2) ((R).ticks.map lsc) 87 2]∧True):=by
 subst hR;subst hI;exact Qmt w p a1p c1p a2p c2p q a1q c1q a2q c2q hsortE hokp hlep hltp hokq hleq hltq hr1p hr2p hr1q hr2q
end Tt
end Go.Proofs
namespace Go.Proofs
open Go Go.Vx Go.RowKit
namespace Tt
theorem QeI (w:World) (s:Sta) (a1:Option Addr) (c1:Nat) (a2:Option Addr) (c2:Nat) (n:Int) (V:Vw) (hV:Qfy s n (QaO s)=V) (hok:QcT s) (hle:s.ents.length≤1000) (hlt:s.ticks.length≤1000) (hr1:Rd w (.slice a1 s.ents.length c1) 7 (s.ents.map cec)) (hr2:Rd w (.slice a2 s.ticks.length c2) 2 (s.ticks.map lsc)):Calls Tryz.prog 20 #[.agg ((vc s.known)++[(.slice a1 s.ents.length c1:Value),(.slice a2 s.ticks.length c2:Value) ]).toArray,.int .u16 n] w (fun e w'=>∃ x:Option Addr × Nat,e = .returned (.agg [.int .u16 (V).cart,.slice x.1 (V).lines.length x.2,.bool (V).out,.int .u32 (V).tick].toArray)∧Own w no w' [row (.slice x.1 (V).lines.length x.2) ((V).lines.map lc) 74 2]∧True):=by
 subst hV;exact Qn3 w s a1 c1 a2 c2 n hok hle hlt hr1 hr2
theorem Qlw (w:World) (hsortE:QhV Tryz.prog 68 35 cec 59 7 QkB):Calls Tryz.prog 5 #[] w (fun e w'=>e = .returned (.bool true)∧Own w no w' []):=by
 refine Qai (n:=95) Tryz.func5 rfl Tryz.ntmps5 rfl ?_
 have hs:=Own.start w
 have haE:=QuM
 refine Qag (Qab (Qaa (Qad (V:=.bool false) rfl (Qae (Qag (Qab (Qaa (QcH (vs:=[]) (cs:=(vc vzero)++[(.slice none 0 0:Value),(.slice none 0 0:Value) ]) [vc vzero,[(.slice none 0 0:Value)],[(.slice none 0 0:Value)]] [vc vzero,[(.slice none 0 0:Value)],[(.slice none 0 0:Value)]] QiT rfl (rfl) rfl rfl (Qaa (Qcy (vs:=[(1,.int .u32 1)]) (cs:=dc (⟨0,1⟩:Dot)) Qrq (rfl) rfl (Qaa (Qbb (V:=.agg (oc (⟨(⟨0,1⟩:Dot),1,3,4,2,5,vzero⟩:Opn)).toArray) (V':=.agg (oc Qq4).toArray) (QcH (vs:=[(0,.agg (dc (⟨0,1⟩:Dot)).toArray),(1,.int .u8 1),(2,I7 3),(3,I7 4),(4,I7 2),(5,.int .u32 5)]) (cs:=oc (⟨(⟨0,1⟩:Dot),1,3,4,2,5,vzero⟩:Opn)) [dc (⟨0,0⟩:Dot),[(.int .u8 0:Value)],[(I7 0:Value)],[(I7 0:Value)],[(I7 0:Value)],[(.int .u32 0:Value)],vc vzero] [dc (⟨0,1⟩:Dot),[(.int .u8 1:Value)],[(I7 3:Value)],[(I7 4:Value)],[(I7 2:Value)],[(.int .u32 5:Value)],vc vzero] Qqy rfl (rfl) rfl rfl ⟨rfl,rfl⟩) rfl (Qaa (Qby (α:=(Option Addr × Nat) × (Option Addr × Nat)) (vs:=[.agg ((vc vzero)++[(.slice none 0 0:Value),(.slice none 0 0:Value) ]).toArray,.agg (oc Qq4).toArray]) (V:=fun x:(Option Addr × Nat) × (Option Addr × Nat)=>.tuple #[.agg (vc Qbd.known++[(.slice x.1.1 (Qbd.ents).length x.1.2:Value),(.slice x.2.1 (Qbd.ticks).length x.2.2:Value)]).toArray,I6 0]) (Lo:=fun x=>[row (.slice x.1.1 (Qbd.ents).length x.1.2) ((Qbd.ents).map cec) 59 7,row (.slice x.2.1 (Qbd.ticks).length x.2.2) ((Qbd.ticks).map lsc) 87 2]) (F:=fun _ _=>True) Qth rfl rfl ?hc hs fun x2 w1 hs _=>?_))))))))))))))
 case hc=>exact (QgE Qbd 0 _ (⟨vzero,[],[]⟩:Sta) none 0 none 0 Qq4 Qmd QfA (by decide +kernel) (by decide +kernel) (Rd.nil _ 7) (Rd.nil _ 2) Quw Quy)
 refine Qaa (Qac (V:=.tuple #[.agg ((vc Qbd.known)++[(.slice x2.1.1 ((Qbd.ents).length) x2.1.2:Value),(.slice x2.2.1 ((Qbd.ticks).length) x2.2.2:Value) ]).toArray,I6 0]) rfl (Qaa (QaB (V:=.agg ((vc Qbd.known)++[(.slice x2.1.1 ((Qbd.ents).length) x2.1.2:Value),(.slice x2.2.1 ((Qbd.ticks).length) x2.2.2:Value) ]).toArray) rfl rfl (Qaa (QaB (V:=I6 0) rfl rfl (Qaa (QaJ (cs:=(vc vzero)++[(.slice none 0 0:Value),(.slice none 0 0:Value) ]) Qfw rfl hs fun b3 w4 hs=>(Qaa (QcC (V:=.agg ((vc Qbd.known)++[(.slice x2.1.1 ((Qbd.ents).length) x2.1.2:Value),(.slice x2.2.1 ((Qbd.ticks).length) x2.2.2:Value) ]).toArray) (vs:=(vc Qbd.known)++[(.slice x2.1.1 ((Qbd.ents).length) x2.1.2:Value),(.slice x2.2.1 ((Qbd.ticks).length) x2.2.2:Value) ]) (cs':=(vc Qbd.known)++[(.slice x2.1.1 ((Qbd.ents).length) x2.1.2:Value),(.slice x2.2.1 ((Qbd.ticks).length) x2.2.2:Value) ]) Qbz.1 hs 2 rfl rfl rfl rfl rfl (QQ8 rfl) (QbU (QcJ _) (Qau rfl (Qau rfl Qbu))) (Qaw rfl) fun w5 hs=>?_)))))))))
 replace hs:Own w no w5 [row (.slice x2.1.1 ((Qbd.ents).length) x2.1.2) (Qbd.ents.map cec) 59 7,row (.slice x2.2.1 ((Qbd.ticks).length) x2.2.2) (Qbd.ticks.map lsc) 87 2,blk b3 ((vc Qbd.known)++[(.slice x2.1.1 ((Qbd.ents).length) x2.1.2:Value),(.slice x2.2.1 ((Qbd.ticks).length) x2.2.2:Value) ]) 39]:=hs
 refine Qaa (Qad (V:=I6 0) rfl (Qae (Qag (Qab (Qaa (QaR (cs:=(vc Qbd.known)++[(.slice x2.1.1 ((Qbd.ents).length) x2.1.2:Value),(.slice x2.2.1 ((Qbd.ticks).length) x2.2.2:Value) ]) Qbz hs 2 rfl rfl rfl (Qaa (Qcy (vs:=[(1,.int .u32 2)]) (cs:=dc (⟨0,2⟩:Dot)) Qrq (rfl) rfl (Qaa (Qcy (vs:=[(0,.int .u32 1)]) (cs:=vc (vset vzero 0 1)) QrT (rfl) rfl (Qaa (Qbb (V:=.agg (oc (⟨(⟨0,2⟩:Dot),3,3,4,0,6,vset vzero 0 1⟩:Opn)).toArray) (V':=.agg (oc Qq7).toArray) (QcH (vs:=[(0,.agg (dc (⟨0,2⟩:Dot)).toArray),(1,.int .u8 3),(2,I7 3),(3,I7 4),(5,.int .u32 6),(6,.agg (vc (vset vzero 0 1)).toArray)]) (cs:=oc (⟨(⟨0,2⟩:Dot),3,3,4,0,6,vset vzero 0 1⟩:Opn)) [dc (⟨0,0⟩:Dot),[(.int .u8 0:Value)],[(I7 0:Value)],[(I7 0:Value)],[(I7 0:Value)],[(.int .u32 0:Value)],vc vzero] [dc (⟨0,2⟩:Dot),[(.int .u8 3:Value)],[(I7 3:Value)],[(I7 4:Value)],[(I7 0:Value)],[(.int .u32 6:Value)],vc (vset vzero 0 1)] Qqy rfl (rfl) rfl rfl ⟨rfl,rfl⟩) rfl (Qaa (Qby (α:=(Option Addr × Nat) × (Option Addr × Nat)) (vs:=[.agg ((vc Qbd.known)++[(.slice x2.1.1 ((Qbd.ents).length) x2.1.2:Value),(.slice x2.2.1 ((Qbd.ticks).length) x2.2.2:Value) ]).toArray,.agg (oc Qq7).toArray]) (V:=fun x:(Option Addr × Nat) × (Option Addr × Nat)=>.tuple #[.agg (vc Qbj.known++[(.slice x.1.1 (Qbj.ents).length x.1.2:Value),(.slice x.2.1 (Qbj.ticks).length x.2.2:Value)]).toArray,I6 0]) (Lo:=fun x=>[row (.slice x.1.1 (Qbj.ents).length x.1.2) ((Qbj.ents).map cec) 59 7,row (.slice x.2.1 (Qbj.ticks).length x.2.2) ((Qbj.ticks).map lsc) 87 2]) (F:=fun _ _=>True) Qth rfl rfl ?hc hs fun x7 w6 hs _=>?_))))))))))))))
 case hc=>exact (QgE Qbj 0 _ Qbd x2.1.1 x2.1.2 x2.2.1 x2.2.2 Qq7 Qmb QfW (by decide +kernel) (by decide +kernel) (hs.rd 0 rfl) (hs.rd 1 rfl) QuB Quz)
 refine Qaa (Qac (V:=.tuple #[.agg ((vc Qbj.known)++[(.slice x7.1.1 ((Qbj.ents).length) x7.1.2:Value),(.slice x7.2.1 ((Qbj.ticks).length) x7.2.2:Value) ]).toArray,I6 0]) rfl (Qaa (QaB (V:=.agg ((vc Qbj.known)++[(.slice x7.1.1 ((Qbj.ents).length) x7.1.2:Value),(.slice x7.2.1 ((Qbj.ticks).length) x7.2.2:Value) ]).toArray) rfl rfl (Qaa (QaB (V:=I6 0) rfl rfl (Qaa (QaJ (cs:=(vc vzero)++[(.slice none 0 0:Value),(.slice none 0 0:Value) ]) Qfw rfl hs fun b8 w9 hs=>(Qaa (QcC (V:=.agg ((vc Qbj.known)++[(.slice x7.1.1 ((Qbj.ents).length) x7.1.2:Value),(.slice x7.2.1 ((Qbj.ticks).length) x7.2.2:Value) ]).toArray) (vs:=(vc Qbj.known)++[(.slice x7.1.1 ((Qbj.ents).length) x7.1.2:Value),(.slice x7.2.1 ((Qbj.ticks).length) x7.2.2:Value) ]) (cs':=(vc Qbj.known)++[(.slice x7.1.1 ((Qbj.ents).length) x7.1.2:Value),(.slice x7.2.1 ((Qbj.ticks).length) x7.2.2:Value) ]) Qbz.1 hs 5 rfl rfl rfl rfl rfl (QQ8 rfl) (QbU (QcJ _) (Qau rfl (Qau rfl Qbu))) (Qaw rfl) fun w10 hs=>?_)))))))))
 replace hs:Own w no w10 [row (.slice x2.1.1 ((Qbd.ents).length) x2.1.2) (Qbd.ents.map cec) 59 7,row (.slice x2.2.1 ((Qbd.ticks).length) x2.2.2) (Qbd.ticks.map lsc) 87 2,blk b3 ((vc Qbd.known)++[(.slice x2.1.1 ((Qbd.ents).length) x2.1.2:Value),(.slice x2.2.1 ((Qbd.ticks).length) x2.2.2:Value) ]) 39,row (.slice x7.1.1 ((Qbj.ents).length) x7.1.2) (Qbj.ents.map cec) 59 7,row (.slice x7.2.1 ((Qbj.ticks).length) x7.2.2) (Qbj.ticks.map lsc) 87 2,blk b8 ((vc Qbj.known)++[(.slice x7.1.1 ((Qbj.ents).length) x7.1.2:Value),(.slice x7.2.1 ((Qbj.ticks).length) x7.2.2:Value) ]) 39]:=hs
 refine Qaa (Qad (V:=I6 0) rfl (Qae (Qag (Qab (Qaa (QaR (cs:=(vc Qbd.known)++[(.slice x2.1.1 ((Qbd.ents).length) x2.1.2:Value),(.slice x2.2.1 ((Qbd.ticks).length) x2.2.2:Value) ]) Qbz hs 2 rfl rfl rfl (Qaa (QaR (cs:=(vc Qbj.known)++[(.slice x7.1.1 ((Qbj.ents).length) x7.1.2:Value),(.slice x7.2.1 ((Qbj.ticks).length) x7.2.2:Value) ]) Qbz hs 5 rfl rfl rfl (Qaa (Qby (α:=(Option Addr × Nat) × (Option Addr × Nat)) (vs:=[.agg ((vc Qbd.known)++[(.slice x2.1.1 ((Qbd.ents).length) x2.1.2:Value),(.slice x2.2.1 ((Qbd.ticks).length) x2.2.2:Value) ]).toArray,.agg ((vc Qbj.known)++[(.slice x7.1.1 ((Qbj.ents).length) x7.1.2:Value),(.slice x7.2.1 ((Qbj.ticks).length) x7.2.2:Value) ]).toArray]) (V:=fun x:(Option Addr × Nat) × (Option Addr × Nat)=>.tuple #[.agg (vc (QaN Qbd Qbj).known++[(.slice x.1.1 ((QaN Qbd Qbj).ents).length x.1.2:Value),(.slice x.2.1 ((QaN Qbd Qbj).ticks).length x.2.2:Value)]).toArray,I6 0]) (Lo:=fun x=>[row (.slice x.1.1 ((QaN Qbd Qbj).ents).length x.1.2) (((QaN Qbd Qbj).ents).map cec) 59 7,row (.slice x.2.1 ((QaN Qbd Qbj).ticks).length x.2.2) (((QaN Qbd Qbj).ticks).map lsc) 87 2]) (F:=fun _ _=>True) QtJ rfl rfl ?hc hs fun x12 w11 hs _=>?_))))))))))
 case hc=>exact (Qke (QaN Qbd Qbj) 0 _ Qbd x2.1.1 x2.1.2 x2.2.1 x2.2.2 Qbj x7.1.1 x7.1.2 x7.2.1 x7.2.2 hsortE QfW (by decide +kernel) (by decide +kernel) QiW (by decide +kernel) (by decide +kernel) (hs.rd 0 rfl) (hs.rd 1 rfl) (hs.rd 3 rfl) (hs.rd 4 rfl) rfl QuD)
 refine Qaa (Qac (V:=.tuple #[.agg ((vc ((QaN Qbd Qbj).known))++[(.slice x12.1.1 (((QaN Qbd Qbj).ents).length) x12.1.2:Value),(.slice x12.2.1 (((QaN Qbd Qbj).ticks).length) x12.2.2:Value) ]).toArray,I6 0]) rfl (Qaa (QaB (V:=.agg ((vc ((QaN Qbd Qbj).known))++[(.slice x12.1.1 (((QaN Qbd Qbj).ents).length) x12.1.2:Value),(.slice x12.2.1 (((QaN Qbd Qbj).ticks).length) x12.2.2:Value) ]).toArray) rfl rfl (Qaa (QaB (V:=I6 0) rfl rfl (Qaa (QaJ (cs:=(vc vzero)++[(.slice none 0 0:Value),(.slice none 0 0:Value) ]) Qfw rfl hs fun b13 w14 hs=>(Qaa (QcC (V:=.agg ((vc ((QaN Qbd Qbj).known))++[(.slice x12.1.1 (((QaN Qbd Qbj).ents).length) x12.1.2:Value),(.slice x12.2.1 (((QaN Qbd Qbj).ticks).length) x12.2.2:Value) ]).toArray) (vs:=(vc ((QaN Qbd Qbj).known))++[(.slice x12.1.1 (((QaN Qbd Qbj).ents).length) x12.1.2:Value),(.slice x12.2.1 (((QaN Qbd Qbj).ticks).length) x12.2.2:Value) ]) (cs':=(vc ((QaN Qbd Qbj).known))++[(.slice x12.1.1 (((QaN Qbd Qbj).ents).length) x12.1.2:Value),(.slice x12.2.1 (((QaN Qbd Qbj).ticks).length) x12.2.2:Value) ]) Qbz.1 hs 8 rfl rfl rfl rfl rfl (QQ8 rfl) (QbU (QcJ _) (Qau rfl (Qau rfl Qbu))) (Qaw rfl) fun w15 hs=>?_)))))))))
 replace hs:Own w no w15 [row (.slice x2.1.1 ((Qbd.ents).length) x2.1.2) (Qbd.ents.map cec) 59 7,row (.slice x2.2.1 ((Qbd.ticks).length) x2.2.2) (Qbd.ticks.map lsc) 87 2,blk b3 ((vc Qbd.known)++[(.slice x2.1.1 ((Qbd.ents).length) x2.1.2:Value),(.slice x2.2.1 ((Qbd.ticks).length) x2.2.2:Value) ]) 39,row (.slice x7.1.1 ((Qbj.ents).length) x7.1.2) (Qbj.ents.map cec) 59 7,row (.slice x7.2.1 ((Qbj.ticks).length) x7.2.2) (Qbj.ticks.map lsc) 87 2,blk b8 ((vc Qbj.known)++[(.slice x7.1.1 ((Qbj.ents).length) x7.1.2:Value),(.slice x7.2.1 ((Qbj.ticks).length) x7.2.2:Value) ]) 39,row (.slice x12.1.1 (((QaN Qbd Qbj).ents).length) x12.1.2) (((QaN Qbd Qbj).ents).map cec) 59 7,row (.slice x12.2.1 (((QaN Qbd Qbj).ticks).length) x12.2.2) (((QaN Qbd Qbj).ticks).map lsc) 87 2,blk b13 ((vc ((QaN Qbd Qbj).known))++[(.slice x12.1.1 (((QaN Qbd Qbj).ents).length) x12.1.2:Value),(.slice x12.2.1 (((QaN Qbd Qbj).ticks).length) x12.2.2:Value) ]) 39]:=hs
 refine Qaa (Qad (V:=I6 0) rfl (Qae (Qag (Qab (Qaa (QaR (cs:=(vc Qbd.known)++[(.slice x2.1.1 ((Qbd.ents).length) x2.1.2:Value),(.slice x2.2.1 ((Qbd.ticks).length) x2.2.2:Value) ]) Qbz hs 2 rfl rfl rfl (Qaa (Qby (α:=Option Addr × Nat) (vs:=[.agg ((vc Qbd.known)++[(.slice x2.1.1 ((Qbd.ents).length) x2.1.2:Value),(.slice x2.2.1 ((Qbd.ticks).length) x2.2.2:Value) ]).toArray,I7 3]) (V:=fun x=>.agg #[I7 3,.slice x.1 ([(⟨4,2⟩:Line)].length) x.2,.bool false,.int .u32 5]) (Lo:=fun x=>[row (.slice x.1 [(⟨4,2⟩:Line)].length x.2) ([(⟨4,2⟩:Line)].map lc) 74 2]) (F:=fun _ _=>True) QoB rfl rfl ?hc hs fun x17 w16 hs _=>?_))))))))
 case hc=>exact (QeI _ Qbd x2.1.1 x2.1.2 x2.2.1 x2.2.2 3 (⟨3,[(⟨4,2⟩:Line)],false,5⟩:Vw) (QuH) QfW (by decide +kernel) (by decide +kernel) (hs.rd 0 rfl) (hs.rd 1 rfl))
 refine Qaa (QaJ (cs:=[I7 0,.slice none 0 0,.bool false,.int .u32 0]) Qik rfl hs fun b18 w19 hs=>(Qaa (QcC (V:=.agg #[I7 3,.slice x17.1 ([(⟨4,2⟩:Line)].length) x17.2,.bool false,.int .u32 5]) (vs:=[I7 3,.slice x17.1 ([(⟨4,2⟩:Line)].length) x17.2,.bool false,.int .u32 5]) (cs':=[I7 3,.slice x17.1 ([(⟨4,2⟩:Line)].length) x17.2,.bool false,.int .u32 5]) Qeh.1 hs 10 rfl rfl rfl rfl rfl (QQ8 rfl) (Qau rfl (Qau rfl (Qau rfl (Qau rfl Qbu)))) (Qaw rfl) fun w20 hs=>?_)))
 replace hs:Own w no w20 [row (.slice x2.1.1 ((Qbd.ents).length) x2.1.2) (Qbd.ents.map cec) 59 7,row (.slice x2.2.1 ((Qbd.ticks).length) x2.2.2) (Qbd.ticks.map lsc) 87 2,blk b3 ((vc Qbd.known)++[(.slice x2.1.1 ((Qbd.ents).length) x2.1.2:Value),(.slice x2.2.1 ((Qbd.ticks).length) x2.2.2:Value) ]) 39,row (.slice x7.1.1 ((Qbj.ents).length) x7.1.2) (Qbj.ents.map cec) 59 7,row (.slice x7.2.1 ((Qbj.ticks).length) x7.2.2) (Qbj.ticks.map lsc) 87 2,blk b8 ((vc Qbj.known)++[(.slice x7.1.1 ((Qbj.ents).length) x7.1.2:Value),(.slice x7.2.1 ((Qbj.ticks).length) x7.2.2:Value) ]) 39,row (.slice x12.1.1 (((QaN Qbd Qbj).ents).length) x12.1.2) (((QaN Qbd Qbj).ents).map cec) 59 7,row (.slice x12.2.1 (((QaN Qbd Qbj).ticks).length) x12.2.2) (((QaN Qbd Qbj).ticks).map lsc) 87 2,blk b13 ((vc ((QaN Qbd Qbj).known))++[(.slice x12.1.1 (((QaN Qbd Qbj).ents).length) x12.1.2:Value),(.slice x12.2.1 (((QaN Qbd Qbj).ticks).length) x12.2.2:Value) ]) 39,row (.slice x17.1 ([(⟨4,2⟩:Line)].length) x17.2) ([(⟨4,2⟩:Line)].map lc) 74 2,blk b18 [I7 3,.slice x17.1 ([(⟨4,2⟩:Line)].length) x17.2,.bool false,.int .u32 5] 64]:=hs
 refine Qae (Qag (Qab (Qaa (Qac (V:=I6 0) rfl (Qaa (Qbb (V:=.bool (decide ((0:Int)=0))) (V':=.bool true) (QaM rfl rfl ⟨rfl,rfl⟩) (congrArg Value.bool (by decide)) (Qaa (Qac (V:=.bool true) rfl (Qba rfl (Qac (V:=I6 0) rfl (Qba rfl (Qbb (V:=.bool (decide ((0:Int)=0))) (V':=.bool true) (QaM rfl rfl ⟨rfl,rfl⟩) (congrArg Value.bool (by decide)) (Qaa (Qcp (V:=.bool true) rfl rfl (Qaa (Qac (V:=.bool true) rfl (Qba rfl (Qac (V:=I6 0) rfl (Qba rfl (Qbb (V:=.bool (decide ((0:Int)=0))) (V':=.bool true) (QaM rfl rfl ⟨rfl,rfl⟩) (congrArg Value.bool (by decide)) (Qaa (Qcp (V:=.bool true) rfl rfl (Qaa (Qac (V:=.bool true) rfl (Qba rfl (Qaf QbG rfl (Qba rfl (QaK (V:=.slice x2.1.1 ((Qbd.ents).length) x2.1.2) Qdc hs 2 rfl rfl rfl (Qba rfl (QaX (n:=(Qbd.ents).length) Qbm (hs.rd 0 rfl) (by simp) rfl (Qba rfl (Qbb (V:=.bool (decide ((((Qbd.ents).length:Nat):Int)=1))) (V':=.bool true) (QaM rfl rfl ⟨rfl,rfl⟩) (congrArg Value.bool (by decide +kernel)) (Qaa (Qcp (V:=.bool true) rfl rfl (Qaa (Qac (V:=.bool true) rfl (Qba rfl (Qaf QbG rfl (Qba rfl (QaK (V:=.slice x7.1.1 ((Qbj.ents).length) x7.1.2) Qdc hs 5 rfl rfl rfl (Qba rfl (QaX (n:=(Qbj.ents).length) Qbm (hs.rd 3 rfl) (by simp) rfl (Qba rfl (Qbb (V:=.bool (decide ((((Qbj.ents).length:Nat):Int)=0))) (V':=.bool true) (QaM rfl rfl ⟨rfl,rfl⟩) (congrArg Value.bool (by decide +kernel)) (Qaa (Qcp (V:=.bool true) rfl rfl (Qaa (Qac (V:=.bool true) rfl (Qba rfl (Qaf Qc9 rfl (Qba rfl (QbO (vs:=vc Qbj.known) QbT hs 5 rfl rfl rfl rfl (Qba rfl (Qcy (vs:=[(0,.int .u32 2)]) (cs:=vc (vset vzero 0 2)) QrT (rfl) rfl (Qba rfl (Qbb (V:=.bool (decide (Qbj.known=vset vzero 0 2))) (V':=.bool true) (Qnu (xs:=vc Qbj.known) (ys:=vc (vset vzero 0 2)) Tryz.eqGuardType24 (Qr3 Qbj.known (vset vzero 0 2)) rfl rfl rfl ⟨rfl,rfl⟩) (congrArg Value.bool (by decide +kernel)) (Qaa (Qcp (V:=.bool true) rfl rfl (Qaa (Qac (V:=.bool true) rfl (Qba rfl (Qaf QbG rfl (Qba rfl (QaK (V:=.slice x12.1.1 (((QaN Qbd Qbj).ents).length) x12.1.2) Qdc hs 8 rfl rfl rfl (Qba rfl (QaX (n:=((QaN Qbd Qbj).ents).length) Qbm (hs.rd 6 rfl) (by simp) rfl (Qba rfl (Qbb (V:=.bool (decide (((((QaN Qbd Qbj).ents).length:Nat):Int)=0))) (V':=.bool true) (QaM rfl rfl ⟨rfl,rfl⟩) (congrArg Value.bool (by rw [haE];decide)) (Qaa (Qcp (V:=.bool true) rfl rfl (Qaa (Qac (V:=.bool true) rfl (Qba rfl (Qaf QcR rfl (Qba rfl (QaK (V:=.slice x17.1 ([(⟨4,2⟩:Line)].length) x17.2) Qft hs 10 rfl rfl rfl (Qba rfl (QaX (n:=[(⟨4,2⟩:Line)].length) QiD (hs.rd 9 rfl) (by simp) rfl ?_))))))))))))))))))))))))))))))))))))))))))))))))))))))))))))))))))))))))))))))
 refine Qba rfl (Qbb (V:=.bool (decide ((([(⟨4,2⟩:Line)].length:Nat):Int)=1))) (V':=.bool true) (QaM rfl rfl ⟨rfl,rfl⟩) (congrArg Value.bool (by decide +kernel)) (Qaa (Qcp (V:=.bool true) rfl rfl (Qaa (Qac (V:=.bool true) rfl (Qba rfl (Qaf QcR rfl (Qba rfl (QaK (V:=.slice x17.1 ([(⟨4,2⟩:Line)].length) x17.2) Qft hs 10 rfl rfl rfl (Qba rfl (Qat QiD Qis.1 (hs.rd 9 rfl) rfl rfl (by decide) (by simp only [QQ6,List.length_cons,List.length_nil];omega) (Qba rfl (Qaf QqZ rfl (Qba rfl (QaQ (j:=1) (V:=.int .u32 ((gd [(⟨4,2⟩:Line)] 0).qty)) 0 Qa7 (hs.rd 9 rfl) (QaY (by simp only [List.length_cons,List.length_nil];omega)) rfl rfl (by omega) (Qba rfl (Qbb (V:=.bool (decide ((gd [(⟨4,2⟩:Line)] 0).qty=2))) (V':=.bool true) (QaM rfl rfl ⟨rfl,rfl⟩) (congrArg Value.bool (by decide +kernel)) (Qaa (Qcp (V:=.bool true) rfl rfl (Qaa (Qac (V:=.bool true) rfl (Qba rfl (QaR (cs:=(vc Qbj.known)++[(.slice x7.1.1 ((Qbj.ents).length) x7.1.2:Value),(.slice x7.2.1 ((Qbj.ticks).length) x7.2.2:Value) ]) Qbz hs 5 rfl rfl rfl (Qba rfl (Qby (α:=Option Addr × Nat) (vs:=[.agg ((vc Qbj.known)++[(.slice x7.1.1 ((Qbj.ents).length) x7.1.2:Value),(.slice x7.2.1 ((Qbj.ticks).length) x7.2.2:Value) ]).toArray,I7 3]) (V:=fun x=>.agg #[I7 3,.slice x.1 (([]:List Line).length) x.2,.bool false,.int .u32 6]) (Lo:=fun x=>[row (.slice x.1 ([]:List Line).length x.2) (([]:List Line).map lc) 74 2]) (F:=fun _ _=>True) QoB rfl rfl ?hc hs fun x22 w21 hs _=>?_)))))))))))))))))))))))))
 case hc=>exact (QeI _ Qbj x7.1.1 x7.1.2 x7.2.1 x7.2.2 3 (⟨3,([]:List Line),false,6⟩:Vw) (QuQ) QiW (by decide +kernel) (by decide +kernel) (hs.rd 3 rfl) (hs.rd 4 rfl))
 refine Qba rfl (Qos (V:=.int .u32 6) (fun w=>by simp [Instr.field,part,asAgg]) rfl ?_)
 refine Qba rfl (Qbb (V:=.bool (decide ((6:Int)=6))) (V':=.bool true) (QaM rfl rfl ⟨rfl,rfl⟩) (congrArg Value.bool (by decide)) (Qaa (Qcp (V:=.bool true) rfl rfl (Qaa (Qac (V:=.bool true) rfl (Qba rfl (QaR (cs:=(vc Qbd.known)++[(.slice x2.1.1 ((Qbd.ents).length) x2.1.2:Value),(.slice x2.2.1 ((Qbd.ticks).length) x2.2.2:Value) ]) Qbz hs 2 rfl rfl rfl (Qba rfl (QdD (V':=.bool true) (congrArg Value.bool (by decide +kernel)) (vs:=[.agg ((vc Qbd.known)++[(.slice x2.1.1 ((Qbd.ents).length) x2.1.2:Value),(.slice x2.2.1 ((Qbd.ticks).length) x2.2.2:Value) ]).toArray]) (V:=.bool (QaO Qbd)) QiA rfl rfl ?hc hs fun w23 hs=>?_)))))))))
 case hc=>exact (Qc7 _ Qbd x2.1.1 x2.1.2 x2.2.1 x2.2.2 QfW (by decide +kernel) (by decide +kernel) (hs.rd 0 rfl) (hs.rd 1 rfl))
 refine Qaa (Qcp (V:=.bool true) rfl rfl (Qaa (Qac (V:=.bool true) rfl (Qba rfl (QaR (cs:=(vc Qbj.known)++[(.slice x7.1.1 ((Qbj.ents).length) x7.1.2:Value),(.slice x7.2.1 ((Qbj.ticks).length) x7.2.2:Value) ]) Qbz hs 5 rfl rfl rfl (Qba rfl (Qby (vs:=[.agg ((vc Qbj.known)++[(.slice x7.1.1 ((Qbj.ents).length) x7.1.2:Value),(.slice x7.2.1 ((Qbj.ticks).length) x7.2.2:Value) ]).toArray]) (V:=fun x:Option Addr × Nat=>.slice x.1 (QcV Qbj).length x.2) QrV rfl rfl (QhN _ Qbj x7.1.1 x7.1.2 x7.2.1 x7.2.2 QiW (by decide +kernel) (by decide +kernel) (hs.rd 3 rfl) (hs.rd 4 rfl)) hs fun x24 w25 hs _=>(Qba rfl (QaX (n:=(QcV Qbj).length) QaI (hs.rd 12 rfl) (by simp) rfl (Qba rfl (Qbb (V:=.bool (decide ((((QcV Qbj).length:Nat):Int)=1))) (V':=.bool true) (QaM rfl rfl ⟨rfl,rfl⟩) (congrArg Value.bool (by decide +kernel)) (Qaa (Qcp (V:=.bool true) rfl rfl (Qaa (Qad (V:=.bool true) rfl (Qae (Qas ?_)))))))))))))))))
 refine ⟨_,Qao (V:=.bool true) Tryz.results5 rfl,?_⟩
 refine ⟨congrArg Ending.returned ?_,hs.take 0⟩
 rfl
end Tt
end Go.Proofs
namespace Go.Proofs
open Go Go.Vx Go.RowKit
namespace Tt
theorem cartFold_ok (w:World) (a:Option Addr) (ca:Nat) (l:List Opn) (hl:∀ o∈l,QbH o) (hr:Rd w (.slice a l.length ca) 23 (l.map oc)) (hsortE:QhV Tryz.prog 68 35 cec 59 7 QkB) (hsortU:Qmr Tryz.prog 98 .u16 31) (n:Int):Calls Tryz.prog 4 #[.slice a l.length ca,.int .u16 n] w (fun e w'=>e = .returned (.bool true)∧Own w no w' []):=by
 refine Qai (n:=153) Tryz.func4 rfl Tryz.ntmps4 rfl ?_
 have hs:=Own.start w
 have hn:=hr.sml
 refine Qag (Qab (Qaa (Qad (V:=.bool false) rfl (Qae (Qag (Qag (Qab (Qaa (Qar (vs:=[]) (V:=.bool true) QuJ rfl rfl ?hc hs fun w1 hs=>?_)))))))))
 case hc=>exact (Qlw _ hsortE)
 refine Qaa (Qbw rfl (Qae (Qb3 rfl ?_)))
 refine Qan (Qag (Qag (Qab (Qaa (Qac (V:=.slice a l.length ca) rfl (Qaa (Qar (vs:=[.slice a l.length ca]) (V:=.bool (Qew l)) Qt4 rfl rfl ?hc hs fun w2 hs=>?_)))))))
 case hc=>exact (QpR _ a ca l hl (Rd.own' hr hs))
 refine Qaa (Qbw rfl (Qae (Qal (t:=!(Qew l)) rfl (fun c3=>?_) (fun c3=>?_))))
 ·
  replace c3:=QbL c3
  refine Qag (Qab (Qaa (Qad (V:=.bool true) rfl (Qae (Qas ?_)))))
  refine ⟨_,Qao (V:=.bool true) Tryz.results4 rfl,?_⟩
  refine ⟨congrArg Ending.returned ?_,hs.take 0⟩
  rfl
 ·
  replace c3:=Qbr c3
  refine Qan (Qag ?_)
  obtain ⟨hlen,hcl,hq⟩:=Qoq hl c3
  have hln:=Qjw l
  refine Qab (Qaa (Qac (V:=.slice a l.length ca) rfl (Qaa (Qby (α:=(Option Addr × Nat) × (Option Addr × Nat)) (vs:=[.slice a l.length ca]) (V:=fun x:(Option Addr × Nat) × (Option Addr × Nat)=>.tuple #[.agg (vc (Qaq l).known++[(.slice x.1.1 ((Qaq l).ents).length x.1.2:Value),(.slice x.2.1 ((Qaq l).ticks).length x.2.2:Value)]).toArray,.bool true]) (Lo:=fun x=>[row (.slice x.1.1 ((Qaq l).ents).length x.1.2) (((Qaq l).ents).map cec) 59 7,row (.slice x.2.1 ((Qaq l).ticks).length x.2.2) (((Qaq l).ticks).map lsc) 87 2]) (F:=fun _ _=>True) QtG rfl rfl ?hc hs fun x5 w4 hs _=>?_))))
  case hc=>exact (QqY _ a ca l hl hlen hq (Rd.own' hr hs))
  refine Qaa (Qac (V:=.tuple #[.agg ((vc ((Qaq l).known))++[(.slice x5.1.1 (((Qaq l).ents).length) x5.1.2:Value),(.slice x5.2.1 (((Qaq l).ticks).length) x5.2.2:Value) ]).toArray,.bool true]) rfl (Qaa (QaB (V:=.agg ((vc ((Qaq l).known))++[(.slice x5.1.1 (((Qaq l).ents).length) x5.1.2:Value),(.slice x5.2.1 (((Qaq l).ticks).length) x5.2.2:Value) ]).toArray) rfl rfl (Qaa (QaB (V:=.bool true) rfl rfl (Qaa (QaJ (cs:=(vc vzero)++[(.slice none 0 0:Value),(.slice none 0 0:Value) ]) Qfw rfl hs fun b6 w7 hs=>(Qaa (QcC (V:=.agg ((vc ((Qaq l).known))++[(.slice x5.1.1 (((Qaq l).ents).length) x5.1.2:Value),(.slice x5.2.1 (((Qaq l).ticks).length) x5.2.2:Value) ]).toArray) (vs:=(vc ((Qaq l).known))++[(.slice x5.1.1 (((Qaq l).ents).length) x5.1.2:Value),(.slice x5.2.1 (((Qaq l).ticks).length) x5.2.2:Value) ]) (cs':=(vc ((Qaq l).known))++[(.slice x5.1.1 (((Qaq l).ents).length) x5.1.2:Value),(.slice x5.2.1 (((Qaq l).ticks).length) x5.2.2:Value) ]) Qbz.1 hs 2 rfl rfl rfl rfl rfl (QQ8 rfl) (QbU (QcJ _) (Qau rfl (Qau rfl Qbu))) (Qaw rfl) fun w8 hs=>(Qaa (Qad (V:=.bool true) rfl (Qae (Qag (Qag ?_))))))))))))))
  have hvk:=hq.ok.1
  refine Qab (Qaa (Qac (V:=.bool true) rfl (Qaa (Qbw rfl (Qaa (Qac (V:=.bool false) rfl (Qba rfl (QaR (cs:=(vc ((Qaq l).known))++[(.slice x5.1.1 (((Qaq l).ents).length) x5.1.2:Value),(.slice x5.2.1 (((Qaq l).ticks).length) x5.2.2:Value) ]) Qbz hs 2 rfl rfl rfl (Qba rfl (QdD (V':=.bool true) (congrArg Value.bool (QbP.2 hq.right)) (vs:=[.agg ((vc ((Qaq l).known))++[(.slice x5.1.1 (((Qaq l).ents).length) x5.1.2:Value),(.slice x5.2.1 (((Qaq l).ticks).length) x5.2.2:Value) ]).toArray]) (V:=.bool (QaO (Qaq l))) QiA rfl rfl ?hc hs fun w9 hs=>?_))))))))))
  case hc=>exact (Qc7 _ (Qaq l) x5.1.1 x5.1.2 x5.2.1 x5.2.2 hq.ok (by omega) (by omega) (hs.rd 0 rfl) (hs.rd 1 rfl))
  refine Qba rfl (Qbw rfl (Qaa (Qcp (V:=.bool false) rfl rfl (Qaa (Qac (V:=.bool false) rfl (Qba rfl (Qaf Qc9 rfl (Qba rfl (QbO (vs:=vc ((Qaq l).known)) QbT hs 2 rfl rfl rfl rfl (Qba rfl (Qar (vs:=[.agg (vc ((Qaq l).known)).toArray]) (V:=.int .u64 (vsum ((Qaq l).known))) QrA rfl rfl ?hc hs fun w10 hs=>?_)))))))))))
  case hc=>exact (QlQ _ ((Qaq l).known) (by first|assumption|exact QcG))
  refine Qba rfl (Qac (V:=.slice a l.length ca) rfl (Qba rfl (QaX (n:=l.length) Qbv (Rd.own' hr hs) (by simp) rfl (Qba rfl (QbD QfC Qpt rfl (QcX (by omega) (by omega)) (Qba rfl (Qbb (V:=.bool (!decide (vsum ((Qaq l).known)=((l.length:Nat):Int)))) (V':=.bool false) (Qcr rfl rfl ⟨rfl,rfl⟩) (congrArg Value.bool (by rw [Qc1,hq.sum];simp)) (Qaa (Qcp (V:=.bool false) rfl rfl (Qae (Qb3 rfl ?_)))))))))))
  refine Qan (Qag (Qab (Qaa (Qad (V:=I6 0) rfl (Qae (Qag (Qag ?_)))))))
  have hml:(l.map (QaG l)).length=l.length:=QQ6 ..
  refine Qab (Qaa (Qac (V:=.slice a l.length ca) rfl (Qaa (Qby (vs:=[.slice a l.length ca]) (V:=fun x:Option Addr × Nat=>.slice x.1 (l.map (QaG l)).length x.2) Quu rfl rfl (Qmg _ a ca l hl (by omega) (Rd.own' hr hs)) hs fun x11 w12 hs _=>?_))))
  replace hs:Own w no w12 [row (.slice x5.1.1 (((Qaq l).ents).length) x5.1.2) (((Qaq l).ents).map cec) 59 7,row (.slice x5.2.1 (((Qaq l).ticks).length) x5.2.2) (((Qaq l).ticks).map lsc) 87 2,blk b6 ((vc ((Qaq l).known))++[(.slice x5.1.1 (((Qaq l).ents).length) x5.1.2:Value),(.slice x5.2.1 (((Qaq l).ticks).length) x5.2.2:Value) ]) 39,row (.slice x11.1 ((l.map (QaG l)).length) x11.2) ((l.map (QaG l)).map bc) 4 1]:=hs
  refine Qaa (QaX (n:=(l.map (QaG l)).length) QrL (hs.rd 3 rfl) (by simp) rfl (Qaa (Qac (V:=I6 0) rfl (Qae (Qak (Qax (fun ρ μ ρ' w'=>∃ (ρo:Env) (k:Nat) (cnt:Nat),ρ'=upd (upd (mix [4,7,8,9,10,12,42,43,44,45,46,47,48,49,50,51,52,53,54,55,56,57,58,59,60,61,62,63,64,65,66,67,68,69,70,71,72,73,74,75,76,77,78,79,80,81,82,83,84,85,86,87,88,89,90,91,92,93,94,95,96,97,98,99,100,101,102,103,104,105,106,107,108,109,110,111,112,113,114,115,116,117,118,119,120,121,122] ρo ρ) 42 (I6 (k:Int))) 7 (I6 (cnt:Int))∧(k≤(l.map (QaG l)).length)∧(cnt=((l.take k).filter (QaG l)).length)∧μ=(l.map (QaG l)).length-k∧Own w no w' [row (.slice x5.1.1 (((Qaq l).ents).length) x5.1.2) (((Qaq l).ents).map cec) 59 7,row (.slice x5.2.1 (((Qaq l).ticks).length) x5.2.2) (((Qaq l).ticks).map lsc) 87 2,blk b6 ((vc ((Qaq l).known))++[(.slice x5.1.1 (((Qaq l).ents).length) x5.1.2:Value),(.slice x5.2.1 (((Qaq l).ticks).length) x5.2.2:Value) ]) 39,row (.slice x11.1 ((l.map (QaG l)).length) x11.2) ((l.map (QaG l)).map bc) 4 1]) ?_ ?_))))))
  ·exact ⟨_,_,0,0,Qah (Qah (Qam (ds:=[4,7,8,9,10,12,42,43,44,45,46,47,48,49,50,51,52,53,54,55,56,57,58,59,60,61,62,63,64,65,66,67,68,69,70,71,72,73,74,75,76,77,78,79,80,81,82,83,84,85,86,87,88,89,90,91,92,93,94,95,96,97,98,99,100,101,102,103,104,105,106,107,108,109,110,111,112,113,114,115,116,117,118,119,120,121,122]) (Agr.refl _ _)) rfl) rfl,(by omega),rfl,rfl,hs⟩
  ·rintro μ ρ' w13 ⟨ρo,k,cnt,rfl,hk,hcn,rfl,hs⟩
   have hcb:cnt≤l.length:=by rw [hcn];exact Nat.le_trans (List.length_filter_le _ _) (by rw [List.length_take];omega)
   refine Qag (Qab (Qaa (QaP rfl rfl (Qae (Qag (Qal (t:=decide ((k:Int)<(((l.map (QaG l)).length:Nat):Int))) rfl (fun c14=>?_) (fun c14=>?_)))))))
   ·
    replace c14:=QQ1 c14
    refine Qan (Qag (Qak (Qag (Qab (Qaa (Qac (V:=I6 (k:Int)) rfl (Qaa (Qat QrL QmZ.1 (hs.rd 3 rfl) rfl rfl (by omega) (by rw [QQ6];omega) (Qaa (Qbb (V:=.bool (gd (l.map (QaG l)) k)) (V':=.bool (QaG l (gd l k))) (QaQ (j:=0) (V:=.bool (gd (l.map (QaG l)) k)) k QmZ (hs.rd 3 rfl) (QaY (by omega)) rfl rfl (by omega) ⟨rfl,rfl⟩) (congrArg Value.bool (gdm (QaG l) (by omega))) (Qaa (Qad (V:=I6 (k:Int)) rfl (Qaa (Qad (V:=.bool (QaG l (gd l k))) rfl (Qae (Qag (Qag (Qab (Qaa (Qac (V:=.bool (QaG l (gd l k))) rfl (Qaa (Qbw rfl (Qae (Qal (t:=!(QaG l (gd l k))) rfl (fun c15=>?_) (fun c15=>?_)))))))))))))))))))))))))
    ·
     replace c15:=QbL c15
     refine Qaz (Qab (Qaa (Qav (a:=(k:Int)) (b:=1) (c:=((k+1:Nat):Int)) rfl rfl (Qaj (by omega) (by omega)) (Qaa (Qac (V:=I6 ((k+1:Nat):Int)) rfl (Qae ?_))))))
     refine ⟨_,?_,_,k+1,cnt,Qah (Qah (Qam (ds:=[4,7,8,9,10,12,42,43,44,45,46,47,48,49,50,51,52,53,54,55,56,57,58,59,60,61,62,63,64,65,66,67,68,69,70,71,72,73,74,75,76,77,78,79,80,81,82,83,84,85,86,87,88,89,90,91,92,93,94,95,96,97,98,99,100,101,102,103,104,105,106,107,108,109,110,111,112,113,114,115,116,117,118,119,120,121,122]) (by repeat (first|exact Agr.refl _ _|refine Agr.upd ?_ rfl|refine Agr.mix ?_ rfl))) rfl) rfl,(by omega),((QjF hcn (by omega)).2 c15),rfl,hs.take 4⟩
     omega
    ·
     replace c15:=Qbr c15
     refine Qan (Qag (Qab (Qaa (Qac (V:=I6 (cnt:Int)) rfl (Qaa (Qav (a:=(cnt:Int)) (b:=1) (c:=((cnt+1:Nat):Int)) rfl rfl (Qaj (by omega) (by omega)) (Qaa (Qad (V:=I6 ((cnt+1:Nat):Int)) rfl (Qae (Qag (Qab (Qaa (Qad (V:=.bool false) rfl (Qae (Qag (Qag (Qab (Qaa (Qaf QbG rfl (Qaa (QaK (V:=.slice x5.1.1 (((Qaq l).ents).length) x5.1.2) Qdc hs 2 rfl rfl rfl (Qaa (QaX (n:=((Qaq l).ents).length) Qbm (hs.rd 0 rfl) (by simp) rfl (Qaa (Qac (V:=I6 0) rfl (Qae (Qak (Qax (fun ρ μ ρ' w'=>∃ (ρo:Env) (j:Nat) (fd:Bool),ρ'=upd (upd (mix [10,12,54,55,56,57,58,59,60,61,62,63,64,65,66,67,68,69,70,71,72,73,74,75,76,77,78,79,80,81,82,83,84,85,86,87,88,89,90,91,92,93,94,95,96,97,98,99,100,101,102,103,104,105,106,107,108,109,110,111,112,113,114,115,116,117,118,119] ρo ρ) 54 (I6 (j:Int))) 10 (.bool fd)∧(j≤(Qaq l).ents.length)∧(fd=((Qaq l).ents.take j).any (fun e=>decide (e=QcB (gd l k))))∧μ=(Qaq l).ents.length-j∧Own w no w' [row (.slice x5.1.1 (((Qaq l).ents).length) x5.1.2) (((Qaq l).ents).map cec) 59 7,row (.slice x5.2.1 (((Qaq l).ticks).length) x5.2.2) (((Qaq l).ticks).map lsc) 87 2,blk b6 ((vc ((Qaq l).known))++[(.slice x5.1.1 (((Qaq l).ents).length) x5.1.2:Value),(.slice x5.2.1 (((Qaq l).ticks).length) x5.2.2:Value) ]) 39,row (.slice x11.1 ((l.map (QaG l)).length) x11.2) ((l.map (QaG l)).map bc) 4 1]) ?_ ?_))))))))))))))))))))))))))))
     ·exact ⟨_,_,0,false,Qah (Qah (Qam (ds:=[10,12,54,55,56,57,58,59,60,61,62,63,64,65,66,67,68,69,70,71,72,73,74,75,76,77,78,79,80,81,82,83,84,85,86,87,88,89,90,91,92,93,94,95,96,97,98,99,100,101,102,103,104,105,106,107,108,109,110,111,112,113,114,115,116,117,118,119]) (Agr.refl _ _)) rfl) rfl,(by omega),rfl,rfl,hs⟩
     ·rintro μ ρ' w16 ⟨ρo,j,fd,rfl,hj,hfd,rfl,hs⟩
      refine Qag (Qab (Qaa (QaP rfl rfl (Qae (Qag (Qal (t:=decide ((j:Int)<((((Qaq l).ents).length:Nat):Int))) rfl (fun c17=>?_) (fun c17=>?_)))))))
      ·
       replace c17:=QQ1 c17
       refine Qan (Qag (Qak (Qag (Qab (Qaa (Qat Qbm QaA.1 (hs.rd 0 rfl) rfl rfl (by omega) (by rw [QQ6];omega) (Qaa (QaZ (j:=0) (vs:=cec (gd ((Qaq l).ents) j)) j QaA (hs.rd 0 rfl) (QaY (by omega)) rfl rfl rfl (by omega) (Qaa (QaJ (cs:=cec (⟨0,0,0,0,(⟨0,0⟩:Dot),0⟩:Cen)) Qek rfl hs fun b18 w19 hs=>(Qaa (QcC (V:=.agg (cec (gd ((Qaq l).ents) j)).toArray) (vs:=cec (gd ((Qaq l).ents) j)) (cs':=cec (gd ((Qaq l).ents) j)) QaA.1 hs 4 rfl rfl rfl rfl rfl (QQ8 rfl) (Qa2 _) (Qaw rfl) fun w20 hs=>(Qae (QaC HM [some 58,some 59,some 60,some 61,some 62,some 63,some 64,some 65,some 66,some 67,some 68,some 69,some 70,some 71,some 72,some 73,some 74,some 75,some 76,some 77,some 78,some 79,some 80,some 81,some 82,some 83,some 84,some 85,some 86,some 87,some 88,some 89,some 90,some 91,some 92,some 93,some 94,some 95,some 96,some 97,some 98,some 99,some 100,some 101,some 102,some 103,some 104,some 105,some 106,some 107,some 108,some 109,some 110,some 111,some 112,some 113,some 114,some 115,some 116,some 117,some 118,some 10] [] [0,1,3,7,3,3,51,115,243,511,1023,2047,4095,2047,2047,26623,59391,124927,262143,524287,1048575,2097151,4194303,2097151,2097151,27262975,60817407,127926271,268435455,536870911,1073741823,2147483647,4294967295,2147483647,2147483647,27917287423,62277025791,130996502527,274877906943,549755813887,1099511627775,2199023255551,4398046511103,2199023255551,2199023255551,28587302322175,63771674411007,134140418588671,281474976710655,562949953421311,1125899906842623,2251799813685247,4503599627370495,2251799813685247,2251799813685247,29273397577908223,65302194596872191,137359788634800127,288230376151711743,576460752303423487,1152921504606846975,2305843009213693951] [pv (.bool fd),pv (.bool fd),pg (fd == false) (Pt b18 (0+4)),pg (fd == false) (.agg (dc ((gd ((Qaq l).ents) j).dot)).toArray),pg (fd == false) (.slice a l.length ca),pg (fd == false) (I6 (k:Int)),pg (fd == false) (.pointer (some ⟨bkS (.slice a l.length ca),ofS (.slice a l.length ca)+(k:Int).toNat*23,none⟩)),pg (fd == false) (.pointer (some ⟨bkS (.slice a l.length ca),ofS (.slice a l.length ca)+(k:Int).toNat*23+0,none⟩)),pg (fd == false) (.agg (dc ((gd l k).dot)).toArray),pg (fd == false) (.bool (decide ((gd ((Qaq l).ents) j).dot=(gd l k).dot))),pg (fd == false) (.bool (decide ((gd ((Qaq l).ents) j).dot=(gd l k).dot))),pg ((fd == false)&&((decide ((gd ((Qaq l).ents) j).dot=(gd l k).dot)) == true)) (Pt b18 (0+3)),pg ((fd == false)&&((decide ((gd ((Qaq l).ents) j).dot=(gd l k).dot)) == true)) (.int .u8 ((gd ((Qaq l).ents) j).kind)),pg ((fd == false)&&((decide ((gd ((Qaq l).ents) j).dot=(gd l k).dot)) == true)) (.slice a l.length ca),pg ((fd == false)&&((decide ((gd ((Qaq l).ents) j).dot=(gd l k).dot)) == true)) (I6 (k:Int)),pg ((fd == false)&&((decide ((gd ((Qaq l).ents) j).dot=(gd l k).dot)) == true)) (.pointer (some ⟨bkS (.slice a l.length ca),ofS (.slice a l.length ca)+(k:Int).toNat*23,none⟩)),pg ((fd == false)&&((decide ((gd ((Qaq l).ents) j).dot=(gd l k).dot)) == true)) (.pointer (some ⟨bkS (.slice a l.length ca),ofS (.slice a l.length ca)+(k:Int).toNat*23+2,none⟩)),pg ((fd == false)&&((decide ((gd ((Qaq l).ents) j).dot=(gd l k).dot)) == true)) (.int .u8 ((gd l k).kind)),pg ((fd == false)&&((decide ((gd ((Qaq l).ents) j).dot=(gd l k).dot)) == true)) (.bool (decide ((gd ((Qaq l).ents) j).kind=(gd l k).kind))),pg (fd == false) (.bool ((decide ((gd ((Qaq l).ents) j).dot=(gd l k).dot))&&(decide ((gd ((Qaq l).ents) j).kind=(gd l k).kind)))),pg (fd == false) (.bool ((decide ((gd ((Qaq l).ents) j).dot=(gd l k).dot))&&(decide ((gd ((Qaq l).ents) j).kind=(gd l k).kind)))),pg ((fd == false)&&(((decide ((gd ((Qaq l).ents) j).dot=(gd l k).dot))&&(decide ((gd ((Qaq l).ents) j).kind=(gd l k).kind))) == true)) (Pt b18 (0+0)),pg ((fd == false)&&(((decide ((gd ((Qaq l).ents) j).dot=(gd l k).dot))&&(decide ((gd ((Qaq l).ents) j).kind=(gd l k).kind))) == true)) (I7 ((gd ((Qaq l).ents) j).cart)),pg ((fd == false)&&(((decide ((gd ((Qaq l).ents) j).dot=(gd l k).dot))&&(decide ((gd ((Qaq l).ents) j).kind=(gd l k).kind))) == true)) (.slice a l.length ca),pg ((fd == false)&&(((decide ((gd ((Qaq l).ents) j).dot=(gd l k).dot))&&(decide ((gd ((Qaq l).ents) j).kind=(gd l k).kind))) == true)) (I6 (k:Int)),pg ((fd == false)&&(((decide ((gd ((Qaq l).ents) j).dot=(gd l k).dot))&&(decide ((gd ((Qaq l).ents) j).kind=(gd l k).kind))) == true)) (.pointer (some ⟨bkS (.slice a l.length ca),ofS (.slice a l.length ca)+(k:Int).toNat*23,none⟩)),pg ((fd == false)&&(((decide ((gd ((Qaq l).ents) j).dot=(gd l k).dot))&&(decide ((gd ((Qaq l).ents) j).kind=(gd l k).kind))) == true)) (.pointer (some ⟨bkS (.slice a l.length ca),ofS (.slice a l.length ca)+(k:Int).toNat*23+3,none⟩)),pg ((fd == false)&&(((decide ((gd ((Qaq l).ents) j).dot=(gd l k).dot))&&(decide ((gd ((Qaq l).ents) j).kind=(gd l k).kind))) == true)) (I7 ((gd l k).cart)),pg ((fd == false)&&(((decide ((gd ((Qaq l).ents) j).dot=(gd l k).dot))&&(decide ((gd ((Qaq l).ents) j).kind=(gd l k).kind))) == true)) (.bool (decide ((gd ((Qaq l).ents) j).cart=(gd l k).cart))),pg (fd == false) (.bool (((decide ((gd ((Qaq l).ents) j).dot=(gd l k).dot))&&(decide ((gd ((Qaq l).ents) j).kind=(gd l k).kind)))&&(decide ((gd ((Qaq l).ents) j).cart=(gd l k).cart)))),pg (fd == false) (.bool (((decide ((gd ((Qaq l).ents) j).dot=(gd l k).dot))&&(decide ((gd ((Qaq l).ents) j).kind=(gd l k).kind)))&&(decide ((gd ((Qaq l).ents) j).cart=(gd l k).cart)))),pg ((fd == false)&&((((decide ((gd ((Qaq l).ents) j).dot=(gd l k).dot))&&(decide ((gd ((Qaq l).ents) j).kind=(gd l k).kind)))&&(decide ((gd ((Qaq l).ents) j).cart=(gd l k).cart))) == true)) (Pt b18 (0+1)),pg ((fd == false)&&((((decide ((gd ((Qaq l).ents) j).dot=(gd l k).dot))&&(decide ((gd ((Qaq l).ents) j).kind=(gd l k).kind)))&&(decide ((gd ((Qaq l).ents) j).cart=(gd l k).cart))) == true)) (I7 ((gd ((Qaq l).ents) j).item)),pg ((fd == false)&&((((decide ((gd ((Qaq l).ents) j).dot=(gd l k).dot))&&(decide ((gd ((Qaq l).ents) j).kind=(gd l k).kind)))&&(decide ((gd ((Qaq l).ents) j).cart=(gd l k).cart))) == true)) (.slice a l.length ca),pg ((fd == false)&&((((decide ((gd ((Qaq l).ents) j).dot=(gd l k).dot))&&(decide ((gd ((Qaq l).ents) j).kind=(gd l k).kind)))&&(decide ((gd ((Qaq l).ents) j).cart=(gd l k).cart))) == true)) (I6 (k:Int)),pg ((fd == false)&&((((decide ((gd ((Qaq l).ents) j).dot=(gd l k).dot))&&(decide ((gd ((Qaq l).ents) j).kind=(gd l k).kind)))&&(decide ((gd ((Qaq l).ents) j).cart=(gd l k).cart))) == true)) (.pointer (some ⟨bkS (.slice a l.length ca),ofS (.slice a l.length ca)+(k:Int).toNat*23,none⟩)),pg ((fd == false)&&((((decide ((gd ((Qaq l).ents) j).dot=(gd l k).dot))&&(decide ((gd ((Qaq l).ents) j).kind=(gd l k).kind)))&&(decide ((gd ((Qaq l).ents) j).cart=(gd l k).cart))) == true)) (.pointer (some ⟨bkS (.slice a l.length ca),ofS (.slice a l.length ca)+(k:Int).toNat*23+4,none⟩)),pg ((fd == false)&&((((decide ((gd ((Qaq l).ents) j).dot=(gd l k).dot))&&(decide ((gd ((Qaq l).ents) j).kind=(gd l k).kind)))&&(decide ((gd ((Qaq l).ents) j).cart=(gd l k).cart))) == true)) (I7 ((gd l k).item)),pg ((fd == false)&&((((decide ((gd ((Qaq l).ents) j).dot=(gd l k).dot))&&(decide ((gd ((Qaq l).ents) j).kind=(gd l k).kind)))&&(decide ((gd ((Qaq l).ents) j).cart=(gd l k).cart))) == true)) (.bool (decide ((gd ((Qaq l).ents) j).item=(gd l k).item))),pg (fd == false) (.bool ((((decide ((gd ((Qaq l).ents) j).dot=(gd l k).dot))&&(decide ((gd ((Qaq l).ents) j).kind=(gd l k).kind)))&&(decide ((gd ((Qaq l).ents) j).cart=(gd l k).cart)))&&(decide ((gd ((Qaq l).ents) j).item=(gd l k).item)))),pg (fd == false) (.bool ((((decide ((gd ((Qaq l).ents) j).dot=(gd l k).dot))&&(decide ((gd ((Qaq l).ents) j).kind=(gd l k).kind)))&&(decide ((gd ((Qaq l).ents) j).cart=(gd l k).cart)))&&(decide ((gd ((Qaq l).ents) j).item=(gd l k).item)))),pg ((fd == false)&&(((((decide ((gd ((Qaq l).ents) j).dot=(gd l k).dot))&&(decide ((gd ((Qaq l).ents) j).kind=(gd l k).kind)))&&(decide ((gd ((Qaq l).ents) j).cart=(gd l k).cart)))&&(decide ((gd ((Qaq l).ents) j).item=(gd l k).item))) == true)) (Pt b18 (0+2)),pg ((fd == false)&&(((((decide ((gd ((Qaq l).ents) j).dot=(gd l k).dot))&&(decide ((gd ((Qaq l).ents) j).kind=(gd l k).kind)))&&(decide ((gd ((Qaq l).ents) j).cart=(gd l k).cart)))&&(decide ((gd ((Qaq l).ents) j).item=(gd l k).item))) == true)) (I7 ((gd ((Qaq l).ents) j).qty)),pg ((fd == false)&&(((((decide ((gd ((Qaq l).ents) j).dot=(gd l k).dot))&&(decide ((gd ((Qaq l).ents) j).kind=(gd l k).kind)))&&(decide ((gd ((Qaq l).ents) j).cart=(gd l k).cart)))&&(decide ((gd ((Qaq l).ents) j).item=(gd l k).item))) == true)) (.slice a l.length ca),pg ((fd == false)&&(((((decide ((gd ((Qaq l).ents) j).dot=(gd l k).dot))&&(decide ((gd ((Qaq l).ents) j).kind=(gd l k).kind)))&&(decide ((gd ((Qaq l).ents) j).cart=(gd l k).cart)))&&(decide ((gd ((Qaq l).ents) j).item=(gd l k).item))) == true)) (I6 (k:Int)),pg ((fd == false)&&(((((decide ((gd ((Qaq l).ents) j).dot=(gd l k).dot))&&(decide ((gd ((Qaq l).ents) j).kind=(gd l k).kind)))&&(decide ((gd ((Qaq l).ents) j).cart=(gd l k).cart)))&&(decide ((gd ((Qaq l).ents) j).item=(gd l k).item))) == true)) (.pointer (some ⟨bkS (.slice a l.length ca),ofS (.slice a l.length ca)+(k:Int).toNat*23,none⟩)),pg ((fd == false)&&(((((decide ((gd ((Qaq l).ents) j).dot=(gd l k).dot))&&(decide ((gd ((Qaq l).ents) j).kind=(gd l k).kind)))&&(decide ((gd ((Qaq l).ents) j).cart=(gd l k).cart)))&&(decide ((gd ((Qaq l).ents) j).item=(gd l k).item))) == true)) (.pointer (some ⟨bkS (.slice a l.length ca),ofS (.slice a l.length ca)+(k:Int).toNat*23+5,none⟩)),pg ((fd == false)&&(((((decide ((gd ((Qaq l).ents) j).dot=(gd l k).dot))&&(decide ((gd ((Qaq l).ents) j).kind=(gd l k).kind)))&&(decide ((gd ((Qaq l).ents) j).cart=(gd l k).cart)))&&(decide ((gd ((Qaq l).ents) j).item=(gd l k).item))) == true)) (I7 ((gd l k).qty)),pg ((fd == false)&&(((((decide ((gd ((Qaq l).ents) j).dot=(gd l k).dot))&&(decide ((gd ((Qaq l).ents) j).kind=(gd l k).kind)))&&(decide ((gd ((Qaq l).ents) j).cart=(gd l k).cart)))&&(decide ((gd ((Qaq l).ents) j).item=(gd l k).item))) == true)) (.bool (decide ((gd ((Qaq l).ents) j).qty=(gd l k).qty))),pg (fd == false) (.bool (((((decide ((gd ((Qaq l).ents) j).dot=(gd l k).dot))&&(decide ((gd ((Qaq l).ents) j).kind=(gd l k).kind)))&&(decide ((gd ((Qaq l).ents) j).cart=(gd l k).cart)))&&(decide ((gd ((Qaq l).ents) j).item=(gd l k).item)))&&(decide ((gd ((Qaq l).ents) j).qty=(gd l k).qty)))),pg (fd == false) (.bool (((((decide ((gd ((Qaq l).ents) j).dot=(gd l k).dot))&&(decide ((gd ((Qaq l).ents) j).kind=(gd l k).kind)))&&(decide ((gd ((Qaq l).ents) j).cart=(gd l k).cart)))&&(decide ((gd ((Qaq l).ents) j).item=(gd l k).item)))&&(decide ((gd ((Qaq l).ents) j).qty=(gd l k).qty)))),pg ((fd == false)&&((((((decide ((gd ((Qaq l).ents) j).dot=(gd l k).dot))&&(decide ((gd ((Qaq l).ents) j).kind=(gd l k).kind)))&&(decide ((gd ((Qaq l).ents) j).cart=(gd l k).cart)))&&(decide ((gd ((Qaq l).ents) j).item=(gd l k).item)))&&(decide ((gd ((Qaq l).ents) j).qty=(gd l k).qty))) == true)) (Pt b18 (0+6)),pg ((fd == false)&&((((((decide ((gd ((Qaq l).ents) j).dot=(gd l k).dot))&&(decide ((gd ((Qaq l).ents) j).kind=(gd l k).kind)))&&(decide ((gd ((Qaq l).ents) j).cart=(gd l k).cart)))&&(decide ((gd ((Qaq l).ents) j).item=(gd l k).item)))&&(decide ((gd ((Qaq l).ents) j).qty=(gd l k).qty))) == true)) (.int .u64 ((gd ((Qaq l).ents) j).count)),pg ((fd == false)&&((((((decide ((gd ((Qaq l).ents) j).dot=(gd l k).dot))&&(decide ((gd ((Qaq l).ents) j).kind=(gd l k).kind)))&&(decide ((gd ((Qaq l).ents) j).cart=(gd l k).cart)))&&(decide ((gd ((Qaq l).ents) j).item=(gd l k).item)))&&(decide ((gd ((Qaq l).ents) j).qty=(gd l k).qty))) == true)) (.slice a l.length ca),pg ((fd == false)&&((((((decide ((gd ((Qaq l).ents) j).dot=(gd l k).dot))&&(decide ((gd ((Qaq l).ents) j).kind=(gd l k).kind)))&&(decide ((gd ((Qaq l).ents) j).cart=(gd l k).cart)))&&(decide ((gd ((Qaq l).ents) j).item=(gd l k).item)))&&(decide ((gd ((Qaq l).ents) j).qty=(gd l k).qty))) == true)) (I6 (k:Int)),pg ((fd == false)&&((((((decide ((gd ((Qaq l).ents) j).dot=(gd l k).dot))&&(decide ((gd ((Qaq l).ents) j).kind=(gd l k).kind)))&&(decide ((gd ((Qaq l).ents) j).cart=(gd l k).cart)))&&(decide ((gd ((Qaq l).ents) j).item=(gd l k).item)))&&(decide ((gd ((Qaq l).ents) j).qty=(gd l k).qty))) == true)) (.pointer (some ⟨bkS (.slice a l.length ca),ofS (.slice a l.length ca)+(k:Int).toNat*23,none⟩)),pg ((fd == false)&&((((((decide ((gd ((Qaq l).ents) j).dot=(gd l k).dot))&&(decide ((gd ((Qaq l).ents) j).kind=(gd l k).kind)))&&(decide ((gd ((Qaq l).ents) j).cart=(gd l k).cart)))&&(decide ((gd ((Qaq l).ents) j).item=(gd l k).item)))&&(decide ((gd ((Qaq l).ents) j).qty=(gd l k).qty))) == true)) (.agg (oc (gd l k)).toArray),pg ((fd == false)&&((((((decide ((gd ((Qaq l).ents) j).dot=(gd l k).dot))&&(decide ((gd ((Qaq l).ents) j).kind=(gd l k).kind)))&&(decide ((gd ((Qaq l).ents) j).cart=(gd l k).cart)))&&(decide ((gd ((Qaq l).ents) j).item=(gd l k).item)))&&(decide ((gd ((Qaq l).ents) j).qty=(gd l k).qty))) == true)) (.int .u64 (Qa6 (gd l k))),pg ((fd == false)&&((((((decide ((gd ((Qaq l).ents) j).dot=(gd l k).dot))&&(decide ((gd ((Qaq l).ents) j).kind=(gd l k).kind)))&&(decide ((gd ((Qaq l).ents) j).cart=(gd l k).cart)))&&(decide ((gd ((Qaq l).ents) j).item=(gd l k).item)))&&(decide ((gd ((Qaq l).ents) j).qty=(gd l k).qty))) == true)) (.bool (decide ((gd ((Qaq l).ents) j).count=Qa6 (gd l k)))),pg (fd == false) (.bool ((((((decide ((gd ((Qaq l).ents) j).dot=(gd l k).dot))&&(decide ((gd ((Qaq l).ents) j).kind=(gd l k).kind)))&&(decide ((gd ((Qaq l).ents) j).cart=(gd l k).cart)))&&(decide ((gd ((Qaq l).ents) j).item=(gd l k).item)))&&(decide ((gd ((Qaq l).ents) j).qty=(gd l k).qty)))&&(decide ((gd ((Qaq l).ents) j).count=Qa6 (gd l k))))),pv (.bool (fd||decide (gd (Qaq l).ents j=QcB (gd l k)))),pv (.bool (fd||decide (gd (Qaq l).ents j=QcB (gd l k))))] (fun _ _=>_) [61] (by kernel_rfl) hs ⟨?_,?_,?_,?_,?_,?_,?_,?_,?_,?_,?_,?_,?_,?_,?_,?_,?_,?_,?_,?_,?_,?_,?_,?_,?_,?_,?_,?_,?_,?_,?_,?_,?_,?_,?_,?_,?_,?_,?_,?_,?_,?_,?_,?_,?_,?_,?_,?_,?_,?_,?_,?_,?_,?_,?_,?_,?_,?_,?_,?_,?_,?_,trivial⟩ ?_))))))))))))))
       ·exact ob [] [61] rfl rfl fun D ρ w hs=>Qac (V:=.bool fd) rfl ⟨rfl,hs⟩
       ·exact ob [0] [] rfl rfl fun D ρ w hs=>Qac (V:=.bool fd) rfl ⟨rfl,hs⟩
       ·exact obg [1] [] fd rfl (fun _=>rfl) rfl (fun _ _ _ _ h=>h) fun D ρ w hG hs=>Qaf QbW rfl ⟨rfl,hs⟩
       ·exact obgy [1,2] [] [2] fd rfl (fun _=>rfl) rfl (fun _ _ _ _ h=>h) (fun hG=>⟨hG,trivial⟩) fun D ρ w hG hs=>QbO (vs:=dc ((gd ((Qaq l).ents) j).dot)) Qcv hs 4 rfl rfl rfl rfl ⟨rfl,hs⟩
       ·exact obg [1] [] fd rfl (fun _=>rfl) rfl (fun _ _ _ _ h=>h) fun D ρ w hG hs=>Qac (V:=.slice a l.length ca) rfl ⟨rfl,hs⟩
       ·exact obg [1] [] fd rfl (fun _=>rfl) rfl (fun _ _ _ _ h=>h) fun D ρ w hG hs=>Qac (V:=I6 (k:Int)) rfl ⟨rfl,hs⟩
       ·exact obgy [1,4,5] [] [4,5] fd rfl (fun _=>rfl) rfl (fun _ _ _ _ h=>h) (fun hG=>⟨hG,hG,trivial⟩) fun D ρ w hG hs=>Qat Qbv Qa0.1 (Rd.own' hr hs) rfl rfl (by omega) (by rw [QQ6];omega) ⟨rfl,hs⟩
       ·exact obgy [1,6] [] [6] fd rfl (fun _=>rfl) rfl (fun _ _ _ _ h=>h) (fun hG=>⟨hG,trivial⟩) fun D ρ w hG hs=>Qaf Qbg rfl ⟨rfl,hs⟩
       ·exact obgy [1,7] [] [7] fd rfl (fun _=>rfl) rfl (fun _ _ _ _ h=>h) (fun hG=>⟨hG,trivial⟩) fun D ρ w hG hs=>QaZ (j:=0) (vs:=dc ((gd l k).dot)) k Qcv (Rd.own' hr hs) (QaY (by omega)) rfl rfl rfl (by omega) ⟨rfl,hs⟩
       ·exact obgy [1,3,8] [] [3,8] fd rfl (fun _=>rfl) rfl (fun _ _ _ _ h=>h) (fun hG=>⟨hG,hG,trivial⟩) fun D ρ w hG hs=>Qnu (xs:=dc ((gd ((Qaq l).ents) j).dot)) (ys:=dc ((gd l k).dot)) Tryz.eqGuardType30 (QoN ((gd ((Qaq l).ents) j).dot) ((gd l k).dot)) rfl rfl rfl ⟨rfl,hs⟩
       ·exact obgy [1,9] [] [9] fd rfl (fun _=>rfl) rfl (fun _ _ _ _ h=>h) (fun hG=>⟨hG,trivial⟩) fun D ρ w hG hs=>Qac (V:=.bool (decide ((gd ((Qaq l).ents) j).dot=(gd l k).dot))) rfl ⟨rfl,hs⟩
       ·exact obg [10] [] (decide ((gd ((Qaq l).ents) j).dot=(gd l k).dot)) rfl (fun _=>rfl) rfl (fun _ _ _ _ h=>h) fun D ρ w hG hs=>Qaf Qe5 rfl ⟨rfl,hs⟩
       ·exact obgy [10,11] [] [11] (decide ((gd ((Qaq l).ents) j).dot=(gd l k).dot)) rfl (fun _=>rfl) rfl (fun _ _ _ _ h=>h) (fun hG=>⟨hG,trivial⟩) fun D ρ w hG hs=>QaK (V:=.int .u8 ((gd ((Qaq l).ents) j).kind)) QcF hs 4 rfl rfl rfl ⟨rfl,hs⟩
       ·exact obg [10] [] (decide ((gd ((Qaq l).ents) j).dot=(gd l k).dot)) rfl (fun _=>rfl) rfl (fun _ _ _ _ h=>h) fun D ρ w hG hs=>Qac (V:=.slice a l.length ca) rfl ⟨rfl,hs⟩
       ·exact obg [10] [] (decide ((gd ((Qaq l).ents) j).dot=(gd l k).dot)) rfl (fun _=>rfl) rfl (fun _ _ _ _ h=>h) fun D ρ w hG hs=>Qac (V:=I6 (k:Int)) rfl ⟨rfl,hs⟩
       ·refine obgy [10,13,14] [] [13,14] (decide ((gd ((Qaq l).ents) j).dot=(gd l k).dot)) rfl (fun _=>rfl) rfl (fun _ _ _ _ h=>h) (fun hG=>⟨hG,hG,trivial⟩) fun D ρ w hG hs=>?_
        have hgd1:=QQ1 (eq_of_beq (Qcd (hG)))
        exact Qat Qbv Qa0.1 (Rd.own' hr hs) rfl rfl (by omega) (by rw [QQ6];omega) ⟨rfl,hs⟩
       ·exact obgy [10,15] [] [15] (decide ((gd ((Qaq l).ents) j).dot=(gd l k).dot)) rfl (fun _=>rfl) rfl (fun _ _ _ _ h=>h) (fun hG=>⟨hG,trivial⟩) fun D ρ w hG hs=>Qaf Qbt rfl ⟨rfl,hs⟩
       ·refine obgy [10,16] [] [16] (decide ((gd ((Qaq l).ents) j).dot=(gd l k).dot)) rfl (fun _=>rfl) rfl (fun _ _ _ _ h=>h) (fun hG=>⟨hG,trivial⟩) fun D ρ w hG hs=>?_
        have hgd1:=QQ1 (eq_of_beq (Qcd (hG)))
        exact QaQ (j:=2) (V:=.int .u8 ((gd l k).kind)) k QcF (Rd.own' hr hs) (QaY (by omega)) rfl rfl (by omega) ⟨rfl,hs⟩
       ·exact obgy [10,12,17] [] [12,17] (decide ((gd ((Qaq l).ents) j).dot=(gd l k).dot)) rfl (fun _=>rfl) rfl (fun _ _ _ _ h=>h) (fun hG=>⟨hG,hG,trivial⟩) fun D ρ w hG hs=>QaM rfl rfl ⟨rfl,hs⟩
       ·exact obgy [1,10,18] [] [10] fd rfl (fun _=>rfl) rfl (fun _ _ _ _ h=>h) (fun hG=>⟨hG,trivial⟩) fun D ρ w hG hs=>QeA (h':=decide ((gd ((Qaq l).ents) j).kind=(gd l k).kind)) (G:=(fd == false)) hG rfl rfl rfl ⟨rfl,hs⟩
       ·exact obgy [1,19] [] [19] fd rfl (fun _=>rfl) rfl (fun _ _ _ _ h=>h) (fun hG=>⟨hG,trivial⟩) fun D ρ w hG hs=>Qac (V:=.bool ((decide ((gd ((Qaq l).ents) j).dot=(gd l k).dot))&&(decide ((gd ((Qaq l).ents) j).kind=(gd l k).kind)))) rfl ⟨rfl,hs⟩
       ·exact obg [20] [] ((decide ((gd ((Qaq l).ents) j).dot=(gd l k).dot))&&(decide ((gd ((Qaq l).ents) j).kind=(gd l k).kind))) rfl (fun _=>rfl) rfl (fun _ _ _ _ h=>h) fun D ρ w hG hs=>Qaf Qe7 rfl ⟨rfl,hs⟩
       ·exact obgy [20,21] [] [21] ((decide ((gd ((Qaq l).ents) j).dot=(gd l k).dot))&&(decide ((gd ((Qaq l).ents) j).kind=(gd l k).kind))) rfl (fun _=>rfl) rfl (fun _ _ _ _ h=>h) (fun hG=>⟨hG,trivial⟩) fun D ρ w hG hs=>QaK (V:=I7 ((gd ((Qaq l).ents) j).cart)) Qap hs 4 rfl rfl rfl ⟨rfl,hs⟩
       ·exact obg [20] [] ((decide ((gd ((Qaq l).ents) j).dot=(gd l k).dot))&&(decide ((gd ((Qaq l).ents) j).kind=(gd l k).kind))) rfl (fun _=>rfl) rfl (fun _ _ _ _ h=>h) fun D ρ w hG hs=>Qac (V:=.slice a l.length ca) rfl ⟨rfl,hs⟩
       ·exact obg [20] [] ((decide ((gd ((Qaq l).ents) j).dot=(gd l k).dot))&&(decide ((gd ((Qaq l).ents) j).kind=(gd l k).kind))) rfl (fun _=>rfl) rfl (fun _ _ _ _ h=>h) fun D ρ w hG hs=>Qac (V:=I6 (k:Int)) rfl ⟨rfl,hs⟩
       ·exact obgy [20,23,24] [] [23,24] ((decide ((gd ((Qaq l).ents) j).dot=(gd l k).dot))&&(decide ((gd ((Qaq l).ents) j).kind=(gd l k).kind))) rfl (fun _=>rfl) rfl (fun _ _ _ _ h=>h) (fun hG=>⟨hG,hG,trivial⟩) fun D ρ w hG hs=>Qat Qbv Qa0.1 (Rd.own' hr hs) rfl rfl (by omega) (by rw [QQ6];omega) ⟨rfl,hs⟩
       ·exact obgy [20,25] [] [25] ((decide ((gd ((Qaq l).ents) j).dot=(gd l k).dot))&&(decide ((gd ((Qaq l).ents) j).kind=(gd l k).kind))) rfl (fun _=>rfl) rfl (fun _ _ _ _ h=>h) (fun hG=>⟨hG,trivial⟩) fun D ρ w hG hs=>Qaf QcS rfl ⟨rfl,hs⟩
       ·exact obgy [20,26] [] [26] ((decide ((gd ((Qaq l).ents) j).dot=(gd l k).dot))&&(decide ((gd ((Qaq l).ents) j).kind=(gd l k).kind))) rfl (fun _=>rfl) rfl (fun _ _ _ _ h=>h) (fun hG=>⟨hG,trivial⟩) fun D ρ w hG hs=>QaQ (j:=3) (V:=I7 ((gd l k).cart)) k Qap (Rd.own' hr hs) (QaY (by omega)) rfl rfl (by omega) ⟨rfl,hs⟩
       ·exact obgy [20,22,27] [] [22,27] ((decide ((gd ((Qaq l).ents) j).dot=(gd l k).dot))&&(decide ((gd ((Qaq l).ents) j).kind=(gd l k).kind))) rfl (fun _=>rfl) rfl (fun _ _ _ _ h=>h) (fun hG=>⟨hG,hG,trivial⟩) fun D ρ w hG hs=>QaM rfl rfl ⟨rfl,hs⟩
       ·exact obgy [1,20,28] [] [20] fd rfl (fun _=>rfl) rfl (fun _ _ _ _ h=>h) (fun hG=>⟨hG,trivial⟩) fun D ρ w hG hs=>QeA (h':=decide ((gd ((Qaq l).ents) j).cart=(gd l k).cart)) (G:=(fd == false)) hG rfl rfl rfl ⟨rfl,hs⟩
       ·exact obgy [1,29] [] [29] fd rfl (fun _=>rfl) rfl (fun _ _ _ _ h=>h) (fun hG=>⟨hG,trivial⟩) fun D ρ w hG hs=>Qac (V:=.bool (((decide ((gd ((Qaq l).ents) j).dot=(gd l k).dot))&&(decide ((gd ((Qaq l).ents) j).kind=(gd l k).kind)))&&(decide ((gd ((Qaq l).ents) j).cart=(gd l k).cart)))) rfl ⟨rfl,hs⟩
       ·exact obg [30] [] (((decide ((gd ((Qaq l).ents) j).dot=(gd l k).dot))&&(decide ((gd ((Qaq l).ents) j).kind=(gd l k).kind)))&&(decide ((gd ((Qaq l).ents) j).cart=(gd l k).cart))) rfl (fun _=>rfl) rfl (fun _ _ _ _ h=>h) fun D ρ w hG hs=>Qaf QdV rfl ⟨rfl,hs⟩
       ·exact obgy [30,31] [] [31] (((decide ((gd ((Qaq l).ents) j).dot=(gd l k).dot))&&(decide ((gd ((Qaq l).ents) j).kind=(gd l k).kind)))&&(decide ((gd ((Qaq l).ents) j).cart=(gd l k).cart))) rfl (fun _=>rfl) rfl (fun _ _ _ _ h=>h) (fun hG=>⟨hG,trivial⟩) fun D ρ w hG hs=>QaK (V:=I7 ((gd ((Qaq l).ents) j).item)) Qap hs 4 rfl rfl rfl ⟨rfl,hs⟩
       ·exact obg [30] [] (((decide ((gd ((Qaq l).ents) j).dot=(gd l k).dot))&&(decide ((gd ((Qaq l).ents) j).kind=(gd l k).kind)))&&(decide ((gd ((Qaq l).ents) j).cart=(gd l k).cart))) rfl (fun _=>rfl) rfl (fun _ _ _ _ h=>h) fun D ρ w hG hs=>Qac (V:=.slice a l.length ca) rfl ⟨rfl,hs⟩
       ·exact obg [30] [] (((decide ((gd ((Qaq l).ents) j).dot=(gd l k).dot))&&(decide ((gd ((Qaq l).ents) j).kind=(gd l k).kind)))&&(decide ((gd ((Qaq l).ents) j).cart=(gd l k).cart))) rfl (fun _=>rfl) rfl (fun _ _ _ _ h=>h) fun D ρ w hG hs=>Qac (V:=I6 (k:Int)) rfl ⟨rfl,hs⟩
       ·exact obgy [30,33,34] [] [33,34] (((decide ((gd ((Qaq l).ents) j).dot=(gd l k).dot))&&(decide ((gd ((Qaq l).ents) j).kind=(gd l k).kind)))&&(decide ((gd ((Qaq l).ents) j).cart=(gd l k).cart))) rfl (fun _=>rfl) rfl (fun _ _ _ _ h=>h) (fun hG=>⟨hG,hG,trivial⟩) fun D ρ w hG hs=>Qat Qbv Qa0.1 (Rd.own' hr hs) rfl rfl (by omega) (by rw [QQ6];omega) ⟨rfl,hs⟩
       ·exact obgy [30,35] [] [35] (((decide ((gd ((Qaq l).ents) j).dot=(gd l k).dot))&&(decide ((gd ((Qaq l).ents) j).kind=(gd l k).kind)))&&(decide ((gd ((Qaq l).ents) j).cart=(gd l k).cart))) rfl (fun _=>rfl) rfl (fun _ _ _ _ h=>h) (fun hG=>⟨hG,trivial⟩) fun D ρ w hG hs=>Qaf Qcc rfl ⟨rfl,hs⟩
       ·exact obgy [30,36] [] [36] (((decide ((gd ((Qaq l).ents) j).dot=(gd l k).dot))&&(decide ((gd ((Qaq l).ents) j).kind=(gd l k).kind)))&&(decide ((gd ((Qaq l).ents) j).cart=(gd l k).cart))) rfl (fun _=>rfl) rfl (fun _ _ _ _ h=>h) (fun hG=>⟨hG,trivial⟩) fun D ρ w hG hs=>QaQ (j:=4) (V:=I7 ((gd l k).item)) k Qap (Rd.own' hr hs) (QaY (by omega)) rfl rfl (by omega) ⟨rfl,hs⟩
       ·exact obgy [30,32,37] [] [32,37] (((decide ((gd ((Qaq l).ents) j).dot=(gd l k).dot))&&(decide ((gd ((Qaq l).ents) j).kind=(gd l k).kind)))&&(decide ((gd ((Qaq l).ents) j).cart=(gd l k).cart))) rfl (fun _=>rfl) rfl (fun _ _ _ _ h=>h) (fun hG=>⟨hG,hG,trivial⟩) fun D ρ w hG hs=>QaM rfl rfl ⟨rfl,hs⟩
       ·exact obgy [1,30,38] [] [30] fd rfl (fun _=>rfl) rfl (fun _ _ _ _ h=>h) (fun hG=>⟨hG,trivial⟩) fun D ρ w hG hs=>QeA (h':=decide ((gd ((Qaq l).ents) j).item=(gd l k).item)) (G:=(fd == false)) hG rfl rfl rfl ⟨rfl,hs⟩
       ·exact obgy [1,39] [] [39] fd rfl (fun _=>rfl) rfl (fun _ _ _ _ h=>h) (fun hG=>⟨hG,trivial⟩) fun D ρ w hG hs=>Qac (V:=.bool ((((decide ((gd ((Qaq l).ents) j).dot=(gd l k).dot))&&(decide ((gd ((Qaq l).ents) j).kind=(gd l k).kind)))&&(decide ((gd ((Qaq l).ents) j).cart=(gd l k).cart)))&&(decide ((gd ((Qaq l).ents) j).item=(gd l k).item)))) rfl ⟨rfl,hs⟩
       ·exact obg [40] [] ((((decide ((gd ((Qaq l).ents) j).dot=(gd l k).dot))&&(decide ((gd ((Qaq l).ents) j).kind=(gd l k).kind)))&&(decide ((gd ((Qaq l).ents) j).cart=(gd l k).cart)))&&(decide ((gd ((Qaq l).ents) j).item=(gd l k).item))) rfl (fun _=>rfl) rfl (fun _ _ _ _ h=>h) fun D ρ w hG hs=>Qaf Qe3 rfl ⟨rfl,hs⟩
       ·exact obgy [40,41] [] [41] ((((decide ((gd ((Qaq l).ents) j).dot=(gd l k).dot))&&(decide ((gd ((Qaq l).ents) j).kind=(gd l k).kind)))&&(decide ((gd ((Qaq l).ents) j).cart=(gd l k).cart)))&&(decide ((gd ((Qaq l).ents) j).item=(gd l k).item))) rfl (fun _=>rfl) rfl (fun _ _ _ _ h=>h) (fun hG=>⟨hG,trivial⟩) fun D ρ w hG hs=>QaK (V:=I7 ((gd ((Qaq l).ents) j).qty)) Qap hs 4 rfl rfl rfl ⟨rfl,hs⟩
       ·exact obg [40] [] ((((decide ((gd ((Qaq l).ents) j).dot=(gd l k).dot))&&(decide ((gd ((Qaq l).ents) j).kind=(gd l k).kind)))&&(decide ((gd ((Qaq l).ents) j).cart=(gd l k).cart)))&&(decide ((gd ((Qaq l).ents) j).item=(gd l k).item))) rfl (fun _=>rfl) rfl (fun _ _ _ _ h=>h) fun D ρ w hG hs=>Qac (V:=.slice a l.length ca) rfl ⟨rfl,hs⟩
       ·exact obg [40] [] ((((decide ((gd ((Qaq l).ents) j).dot=(gd l k).dot))&&(decide ((gd ((Qaq l).ents) j).kind=(gd l k).kind)))&&(decide ((gd ((Qaq l).ents) j).cart=(gd l k).cart)))&&(decide ((gd ((Qaq l).ents) j).item=(gd l k).item))) rfl (fun _=>rfl) rfl (fun _ _ _ _ h=>h) fun D ρ w hG hs=>Qac (V:=I6 (k:Int)) rfl ⟨rfl,hs⟩
       ·exact obgy [40,43,44] [] [43,44] ((((decide ((gd ((Qaq l).ents) j).dot=(gd l k).dot))&&(decide ((gd ((Qaq l).ents) j).kind=(gd l k).kind)))&&(decide ((gd ((Qaq l).ents) j).cart=(gd l k).cart)))&&(decide ((gd ((Qaq l).ents) j).item=(gd l k).item))) rfl (fun _=>rfl) rfl (fun _ _ _ _ h=>h) (fun hG=>⟨hG,hG,trivial⟩) fun D ρ w hG hs=>Qat Qbv Qa0.1 (Rd.own' hr hs) rfl rfl (by omega) (by rw [QQ6];omega) ⟨rfl,hs⟩
       ·exact obgy [40,45] [] [45] ((((decide ((gd ((Qaq l).ents) j).dot=(gd l k).dot))&&(decide ((gd ((Qaq l).ents) j).kind=(gd l k).kind)))&&(decide ((gd ((Qaq l).ents) j).cart=(gd l k).cart)))&&(decide ((gd ((Qaq l).ents) j).item=(gd l k).item))) rfl (fun _=>rfl) rfl (fun _ _ _ _ h=>h) (fun hG=>⟨hG,trivial⟩) fun D ρ w hG hs=>Qaf Qcu rfl ⟨rfl,hs⟩
       ·exact obgy [40,46] [] [46] ((((decide ((gd ((Qaq l).ents) j).dot=(gd l k).dot))&&(decide ((gd ((Qaq l).ents) j).kind=(gd l k).kind)))&&(decide ((gd ((Qaq l).ents) j).cart=(gd l k).cart)))&&(decide ((gd ((Qaq l).ents) j).item=(gd l k).item))) rfl (fun _=>rfl) rfl (fun _ _ _ _ h=>h) (fun hG=>⟨hG,trivial⟩) fun D ρ w hG hs=>QaQ (j:=5) (V:=I7 ((gd l k).qty)) k Qap (Rd.own' hr hs) (QaY (by omega)) rfl rfl (by omega) ⟨rfl,hs⟩
       ·exact obgy [40,42,47] [] [42,47] ((((decide ((gd ((Qaq l).ents) j).dot=(gd l k).dot))&&(decide ((gd ((Qaq l).ents) j).kind=(gd l k).kind)))&&(decide ((gd ((Qaq l).ents) j).cart=(gd l k).cart)))&&(decide ((gd ((Qaq l).ents) j).item=(gd l k).item))) rfl (fun _=>rfl) rfl (fun _ _ _ _ h=>h) (fun hG=>⟨hG,hG,trivial⟩) fun D ρ w hG hs=>QaM rfl rfl ⟨rfl,hs⟩
       ·exact obgy [1,40,48] [] [40] fd rfl (fun _=>rfl) rfl (fun _ _ _ _ h=>h) (fun hG=>⟨hG,trivial⟩) fun D ρ w hG hs=>QeA (h':=decide ((gd ((Qaq l).ents) j).qty=(gd l k).qty)) (G:=(fd == false)) hG rfl rfl rfl ⟨rfl,hs⟩
       ·exact obgy [1,49] [] [49] fd rfl (fun _=>rfl) rfl (fun _ _ _ _ h=>h) (fun hG=>⟨hG,trivial⟩) fun D ρ w hG hs=>Qac (V:=.bool (((((decide ((gd ((Qaq l).ents) j).dot=(gd l k).dot))&&(decide ((gd ((Qaq l).ents) j).kind=(gd l k).kind)))&&(decide ((gd ((Qaq l).ents) j).cart=(gd l k).cart)))&&(decide ((gd ((Qaq l).ents) j).item=(gd l k).item)))&&(decide ((gd ((Qaq l).ents) j).qty=(gd l k).qty)))) rfl ⟨rfl,hs⟩
       ·exact obg [50] [] (((((decide ((gd ((Qaq l).ents) j).dot=(gd l k).dot))&&(decide ((gd ((Qaq l).ents) j).kind=(gd l k).kind)))&&(decide ((gd ((Qaq l).ents) j).cart=(gd l k).cart)))&&(decide ((gd ((Qaq l).ents) j).item=(gd l k).item)))&&(decide ((gd ((Qaq l).ents) j).qty=(gd l k).qty))) rfl (fun _=>rfl) rfl (fun _ _ _ _ h=>h) fun D ρ w hG hs=>Qaf QfK rfl ⟨rfl,hs⟩
       ·exact obgy [50,51] [] [51] (((((decide ((gd ((Qaq l).ents) j).dot=(gd l k).dot))&&(decide ((gd ((Qaq l).ents) j).kind=(gd l k).kind)))&&(decide ((gd ((Qaq l).ents) j).cart=(gd l k).cart)))&&(decide ((gd ((Qaq l).ents) j).item=(gd l k).item)))&&(decide ((gd ((Qaq l).ents) j).qty=(gd l k).qty))) rfl (fun _=>rfl) rfl (fun _ _ _ _ h=>h) (fun hG=>⟨hG,trivial⟩) fun D ρ w hG hs=>QaK (V:=.int .u64 ((gd ((Qaq l).ents) j).count)) QmK hs 4 rfl rfl rfl ⟨rfl,hs⟩
       ·exact obg [50] [] (((((decide ((gd ((Qaq l).ents) j).dot=(gd l k).dot))&&(decide ((gd ((Qaq l).ents) j).kind=(gd l k).kind)))&&(decide ((gd ((Qaq l).ents) j).cart=(gd l k).cart)))&&(decide ((gd ((Qaq l).ents) j).item=(gd l k).item)))&&(decide ((gd ((Qaq l).ents) j).qty=(gd l k).qty))) rfl (fun _=>rfl) rfl (fun _ _ _ _ h=>h) fun D ρ w hG hs=>Qac (V:=.slice a l.length ca) rfl ⟨rfl,hs⟩
       ·exact obg [50] [] (((((decide ((gd ((Qaq l).ents) j).dot=(gd l k).dot))&&(decide ((gd ((Qaq l).ents) j).kind=(gd l k).kind)))&&(decide ((gd ((Qaq l).ents) j).cart=(gd l k).cart)))&&(decide ((gd ((Qaq l).ents) j).item=(gd l k).item)))&&(decide ((gd ((Qaq l).ents) j).qty=(gd l k).qty))) rfl (fun _=>rfl) rfl (fun _ _ _ _ h=>h) fun D ρ w hG hs=>Qac (V:=I6 (k:Int)) rfl ⟨rfl,hs⟩
       ·exact obgy [50,53,54] [] [53,54] (((((decide ((gd ((Qaq l).ents) j).dot=(gd l k).dot))&&(decide ((gd ((Qaq l).ents) j).kind=(gd l k).kind)))&&(decide ((gd ((Qaq l).ents) j).cart=(gd l k).cart)))&&(decide ((gd ((Qaq l).ents) j).item=(gd l k).item)))&&(decide ((gd ((Qaq l).ents) j).qty=(gd l k).qty))) rfl (fun _=>rfl) rfl (fun _ _ _ _ h=>h) (fun hG=>⟨hG,hG,trivial⟩) fun D ρ w hG hs=>Qat Qbv Qa0.1 (Rd.own' hr hs) rfl rfl (by omega) (by rw [QQ6];omega) ⟨rfl,hs⟩
       ·exact obgy [50,55] [] [55] (((((decide ((gd ((Qaq l).ents) j).dot=(gd l k).dot))&&(decide ((gd ((Qaq l).ents) j).kind=(gd l k).kind)))&&(decide ((gd ((Qaq l).ents) j).cart=(gd l k).cart)))&&(decide ((gd ((Qaq l).ents) j).item=(gd l k).item)))&&(decide ((gd ((Qaq l).ents) j).qty=(gd l k).qty))) rfl (fun _=>rfl) rfl (fun _ _ _ _ h=>h) (fun hG=>⟨hG,trivial⟩) fun D ρ w hG hs=>QaZ (j:=0) (vs:=oc (gd l k)) k Qa0 (Rd.own' hr hs) (QaY (by omega)) rfl rfl rfl (by omega) ⟨rfl,hs⟩
       ·exact obgy [50,56] [] [56] (((((decide ((gd ((Qaq l).ents) j).dot=(gd l k).dot))&&(decide ((gd ((Qaq l).ents) j).kind=(gd l k).kind)))&&(decide ((gd ((Qaq l).ents) j).cart=(gd l k).cart)))&&(decide ((gd ((Qaq l).ents) j).item=(gd l k).item)))&&(decide ((gd ((Qaq l).ents) j).qty=(gd l k).qty))) rfl (fun _=>rfl) rfl (fun _ _ _ _ h=>h) (fun hG=>⟨hG,trivial⟩) fun D ρ w hG hs=>Qar (vs:=[.agg (oc (gd l k)).toArray]) (V:=.int .u64 (Qa6 (gd l k))) QqT rfl rfl (Qfe _ (gd l k) (hl _ (Qbq (by omega))).2.2.2.2.2.2) hs fun _ hs=>⟨rfl,hs⟩
       ·exact obgy [50,52,57] [] [52,57] (((((decide ((gd ((Qaq l).ents) j).dot=(gd l k).dot))&&(decide ((gd ((Qaq l).ents) j).kind=(gd l k).kind)))&&(decide ((gd ((Qaq l).ents) j).cart=(gd l k).cart)))&&(decide ((gd ((Qaq l).ents) j).item=(gd l k).item)))&&(decide ((gd ((Qaq l).ents) j).qty=(gd l k).qty))) rfl (fun _=>rfl) rfl (fun _ _ _ _ h=>h) (fun hG=>⟨hG,hG,trivial⟩) fun D ρ w hG hs=>QaM rfl rfl ⟨rfl,hs⟩
       ·exact obgy [1,50,58] [] [50] fd rfl (fun _=>rfl) rfl (fun _ _ _ _ h=>h) (fun hG=>⟨hG,trivial⟩) fun D ρ w hG hs=>QeA (h':=decide ((gd ((Qaq l).ents) j).count=Qa6 (gd l k))) (G:=(fd == false)) hG rfl rfl rfl ⟨rfl,hs⟩
       ·exact ob [1,59] [] rfl rfl fun D ρ w hs=>Qbb (V:=.bool (fd||((((((decide ((gd ((Qaq l).ents) j).dot=(gd l k).dot))&&(decide ((gd ((Qaq l).ents) j).kind=(gd l k).kind)))&&(decide ((gd ((Qaq l).ents) j).cart=(gd l k).cart)))&&(decide ((gd ((Qaq l).ents) j).item=(gd l k).item)))&&(decide ((gd ((Qaq l).ents) j).qty=(gd l k).qty)))&&(decide ((gd ((Qaq l).ents) j).count=Qa6 (gd l k)))))) (V':=.bool (fd||decide (gd (Qaq l).ents j=QcB (gd l k)))) (QbS (h':=(((((decide ((gd ((Qaq l).ents) j).dot=(gd l k).dot))&&(decide ((gd ((Qaq l).ents) j).kind=(gd l k).kind)))&&(decide ((gd ((Qaq l).ents) j).cart=(gd l k).cart)))&&(decide ((gd ((Qaq l).ents) j).item=(gd l k).item)))&&(decide ((gd ((Qaq l).ents) j).qty=(gd l k).qty)))&&(decide ((gd ((Qaq l).ents) j).count=Qa6 (gd l k)))) rfl rfl rfl ⟨rfl,rfl⟩) (congrArg Value.bool (by rw [Qqh])) ⟨rfl,hs⟩
       ·exact ob [60] [] rfl rfl fun D ρ w hs=>Qad (V:=.bool (fd||decide (gd (Qaq l).ents j=QcB (gd l k)))) rfl ⟨rfl,hs⟩
       rintro ρ1 w22 ρ2 hρ hs
       replace hρ:ρ2=upd (mix [58,59,60,61,62,63,64,65,66,67,68,69,70,71,72,73,74,75,76,77,78,79,80,81,82,83,84,85,86,87,88,89,90,91,92,93,94,95,96,97,98,99,100,101,102,103,104,105,106,107,108,109,110,111,112,113,114,115,116,117,118,10] ρ1 _) 10 (.bool (fd||decide (gd (Qaq l).ents j=QcB (gd l k)))):=hρ
       subst hρ
       refine Qab (Qaa (Qav (a:=(j:Int)) (b:=1) (c:=((j+1:Nat):Int)) rfl rfl (Qaj (by omega) (by omega)) (Qaa (Qac (V:=I6 ((j+1:Nat):Int)) rfl (Qae ?_)))))
       refine ⟨_,?_,_,j+1,fd||decide (gd (Qaq l).ents j=QcB (gd l k)),Qah (Qah (Qam (ds:=[10,12,54,55,56,57,58,59,60,61,62,63,64,65,66,67,68,69,70,71,72,73,74,75,76,77,78,79,80,81,82,83,84,85,86,87,88,89,90,91,92,93,94,95,96,97,98,99,100,101,102,103,104,105,106,107,108,109,110,111,112,113,114,115,116,117,118,119]) (by repeat (first|exact Agr.refl _ _|refine Agr.upd ?_ rfl|refine Agr.mix ?_ rfl))) rfl) rfl,(by omega),(Qdt (p:=(fun e=>decide (e=QcB (gd l k)))) hfd (by omega)),rfl,hs.take 4⟩
       omega
      ·
       replace c17:=QQ2 c17
       refine Qaz (Qag ?_)
       have hfd2:fd=true:=by rw [hfd,List.take_of_length_le (by omega)];exact Qj0 hq (by omega) c15
       refine Qab (Qaa (Qac (V:=.bool fd) rfl (Qaa (Qbb (V:=.bool (!fd)) (V':=.bool false) (Qbw rfl ⟨rfl,rfl⟩) (congrArg Value.bool (by rw [hfd2];rfl)) (Qae (Qb3 rfl ?_))))))
       refine Qan (Qab (Qaa (Qav (a:=(k:Int)) (b:=1) (c:=((k+1:Nat):Int)) rfl rfl (Qaj (by omega) (by omega)) (Qaa (Qac (V:=I6 ((k+1:Nat):Int)) rfl (Qae ?_))))))
       refine ⟨_,?_,_,k+1,cnt+1,Qah (Qah (Qam (ds:=[4,7,8,9,10,12,42,43,44,45,46,47,48,49,50,51,52,53,54,55,56,57,58,59,60,61,62,63,64,65,66,67,68,69,70,71,72,73,74,75,76,77,78,79,80,81,82,83,84,85,86,87,88,89,90,91,92,93,94,95,96,97,98,99,100,101,102,103,104,105,106,107,108,109,110,111,112,113,114,115,116,117,118,119,120,121,122]) (by repeat (first|exact Agr.refl _ _|refine Agr.upd ?_ rfl|refine Agr.mix ?_ rfl))) rfl) rfl,(by omega),((QjF hcn (by omega)).1 c15),rfl,hs.take 4⟩
       omega
   ·
    replace c14:=QQ2 c14
    refine Qaz (Qag ?_)
    have hc2:cnt=(Qaq l).ents.length:=by rw [hcn,List.take_of_length_le (by omega),QjX hq]
    refine Qab (Qaa (Qac (V:=I6 (cnt:Int)) rfl (Qaa (Qaf QbG rfl (Qaa (QaK (V:=.slice x5.1.1 (((Qaq l).ents).length) x5.1.2) Qdc hs 2 rfl rfl rfl (Qaa (QaX (n:=((Qaq l).ents).length) Qbm (hs.rd 0 rfl) (by simp) rfl (Qaa (Qbb (V:=.bool (decide ((cnt:Int)=((((Qaq l).ents).length:Nat):Int)))) (V':=.bool true) (QaM rfl rfl ⟨rfl,rfl⟩) (congrArg Value.bool (QQ3 (by omega))) (Qaa (Qac (V:=.bool true) rfl (Qba rfl (QaR (cs:=(vc ((Qaq l).known))++[(.slice x5.1.1 (((Qaq l).ents).length) x5.1.2:Value),(.slice x5.2.1 (((Qaq l).ticks).length) x5.2.2:Value) ]) Qbz hs 2 rfl rfl rfl (Qba rfl (Qac (V:=I7 n) rfl (Qba rfl (Qby (α:=Option Addr × Nat) (vs:=[.agg ((vc ((Qaq l).known))++[(.slice x5.1.1 (((Qaq l).ents).length) x5.1.2:Value),(.slice x5.2.1 (((Qaq l).ticks).length) x5.2.2:Value) ]).toArray,I7 n]) (V:=fun x=>.agg #[I7 ((Qa5 l n).cart),.slice x.1 (((Qa5 l n).lines).length) x.2,.bool ((Qa5 l n).out),.int .u32 ((Qa5 l n).tick)]) (Lo:=fun x=>[row (.slice x.1 ((Qa5 l n).lines).length x.2) (((Qa5 l n).lines).map lc) 74 2]) (F:=fun _ _=>True) QoB rfl rfl ?hc hs fun x24 w23 hs _=>?_))))))))))))))))))
    case hc=>exact (QeI _ (Qaq l) x5.1.1 x5.1.2 x5.2.1 x5.2.2 n (Qa5 l n:Vw) (Qjx hq n) hq.ok (by omega) (by omega) (hs.rd 0 rfl) (hs.rd 1 rfl))
    refine Qba rfl (Qac (V:=.slice a l.length ca) rfl (Qba rfl (Qac (V:=I7 n) rfl (Qba rfl (Qby (α:=Option Addr × Nat) (vs:=[.slice a l.length ca,I7 n]) (V:=fun x=>.agg #[I7 ((Qa5 l n).cart),.slice x.1 (((Qa5 l n).lines).length) x.2,.bool ((Qa5 l n).out),.int .u32 ((Qa5 l n).tick)]) (Lo:=fun x=>[row (.slice x.1 ((Qa5 l n).lines).length x.2) (((Qa5 l n).lines).map lc) 74 2]) (F:=fun _ _=>True) QtN rfl rfl ?hc hs fun x26 w25 hs _=>?_)))))
    case hc=>exact (QnD _ a ca l n hl (by omega) (Rd.own' hr hs) hsortU)
    refine Qba rfl (QdD (V':=.bool true) (congrArg Value.bool (Qh0 _)) (vs:=[.agg #[I7 ((Qa5 l n).cart),.slice x24.1 (((Qa5 l n).lines).length) x24.2,.bool ((Qa5 l n).out),.int .u32 ((Qa5 l n).tick)],.agg #[I7 ((Qa5 l n).cart),.slice x26.1 (((Qa5 l n).lines).length) x26.2,.bool ((Qa5 l n).out),.int .u32 ((Qa5 l n).tick)]]) (V:=.bool (decide ((Qa5 l n).cart=(Qa5 l n).cart)&&(((Qa5 l n).out) == ((Qa5 l n).out))&&decide ((Qa5 l n).tick=(Qa5 l n).tick)&&decide ((Qa5 l n).lines=(Qa5 l n).lines))) Qsd rfl rfl ?hc hs fun w27 hs=>?_)
    case hc=>exact (QjR _ ((Qa5 l n).cart) ((Qa5 l n).cart) ((Qa5 l n).tick) ((Qa5 l n).tick) ((Qa5 l n).out) ((Qa5 l n).out) x24.1 x26.1 x24.2 x26.2 ((Qa5 l n).lines) ((Qa5 l n).lines) (hs.rd 4 rfl) (hs.rd 5 rfl))
    refine Qaa (Qcp (V:=.bool true) rfl rfl (Qaa (Qac (V:=.bool true) rfl (Qba rfl (QaR (cs:=(vc ((Qaq l).known))++[(.slice x5.1.1 (((Qaq l).ents).length) x5.1.2:Value),(.slice x5.2.1 (((Qaq l).ticks).length) x5.2.2:Value) ]) Qbz hs 2 rfl rfl rfl (Qba rfl (Qac (V:=I7 n) rfl (Qba rfl (Qby (α:=Option Addr × Nat) (vs:=[.agg ((vc ((Qaq l).known))++[(.slice x5.1.1 (((Qaq l).ents).length) x5.1.2:Value),(.slice x5.2.1 (((Qaq l).ticks).length) x5.2.2:Value) ]).toArray,I7 n]) (V:=fun x=>.agg #[I7 ((Qa5 l n).cart),.slice x.1 (((Qa5 l n).lines).length) x.2,.bool ((Qa5 l n).out),.int .u32 ((Qa5 l n).tick)]) (Lo:=fun x=>[row (.slice x.1 ((Qa5 l n).lines).length x.2) (((Qa5 l n).lines).map lc) 74 2]) (F:=fun _ _=>True) QoB rfl rfl ?hc hs fun x29 w28 hs _=>?_)))))))))
    case hc=>exact (QeI _ (Qaq l) x5.1.1 x5.1.2 x5.2.1 x5.2.2 n (Qa5 l n:Vw) (Qjx hq n) hq.ok (by omega) (by omega) (hs.rd 0 rfl) (hs.rd 1 rfl))
    refine Qba rfl (Qac (V:=.slice a l.length ca) rfl (Qba rfl (Qac (V:=I7 n) rfl (Qba rfl (Qby (α:=Option Addr × Nat) (vs:=[.slice a l.length ca,I7 n]) (V:=fun x=>.agg #[I7 ((Qcm l n).cart),.slice x.1 (((Qcm l n).lines).length) x.2,.bool ((Qcm l n).out),.int .u32 ((Qcm l n).tick)]) (Lo:=fun x=>[row (.slice x.1 ((Qcm l n).lines).length x.2) (((Qcm l n).lines).map lc) 74 2]) (F:=fun _ _=>True) QtZ rfl rfl ?hc hs fun x31 w30 hs _=>?_)))))
    case hc=>exact (QlU _ a ca l n hl (by omega) (Rd.own' hr hs))
    replace hs:Own w no w30 [row (.slice x5.1.1 (((Qaq l).ents).length) x5.1.2) (((Qaq l).ents).map cec) 59 7,row (.slice x5.2.1 (((Qaq l).ticks).length) x5.2.2) (((Qaq l).ticks).map lsc) 87 2,blk b6 ((vc ((Qaq l).known))++[(.slice x5.1.1 (((Qaq l).ents).length) x5.1.2:Value),(.slice x5.2.1 (((Qaq l).ticks).length) x5.2.2:Value) ]) 39,row (.slice x11.1 ((l.map (QaG l)).length) x11.2) ((l.map (QaG l)).map bc) 4 1,row (.slice x24.1 (((Qa5 l n).lines).length) x24.2) (((Qa5 l n).lines).map lc) 74 2,row (.slice x26.1 (((Qa5 l n).lines).length) x26.2) (((Qa5 l n).lines).map lc) 74 2,row (.slice x29.1 (((Qa5 l n).lines).length) x29.2) (((Qa5 l n).lines).map lc) 74 2,row (.slice x31.1 (((Qcm l n).lines).length) x31.2) (((Qcm l n).lines).map lc) 74 2]:=hs
    refine Qba rfl (QdD (V':=.bool true) (congrArg Value.bool (by rw [QkY hq];exact Qh0 _)) (vs:=[.agg #[I7 ((Qa5 l n).cart),.slice x29.1 (((Qa5 l n).lines).length) x29.2,.bool ((Qa5 l n).out),.int .u32 ((Qa5 l n).tick)],.agg #[I7 ((Qcm l n).cart),.slice x31.1 (((Qcm l n).lines).length) x31.2,.bool ((Qcm l n).out),.int .u32 ((Qcm l n).tick)]]) (V:=.bool (decide ((Qa5 l n).cart=(Qcm l n).cart)&&(((Qa5 l n).out) == ((Qcm l n).out))&&decide ((Qa5 l n).tick=(Qcm l n).tick)&&decide ((Qa5 l n).lines=(Qcm l n).lines))) Qsd rfl rfl ?hc hs fun w32 hs=>?_)
    case hc=>exact (QjR _ ((Qa5 l n).cart) ((Qcm l n).cart) ((Qa5 l n).tick) ((Qcm l n).tick) ((Qa5 l n).out) ((Qcm l n).out) x29.1 x31.1 x29.2 x31.2 ((Qa5 l n).lines) ((Qcm l n).lines) (hs.rd 6 rfl) (hs.rd 7 rfl))
    refine Qaa (Qcp (V:=.bool true) rfl rfl (Qaa (Qac (V:=.bool true) rfl (Qba rfl (QaR (cs:=(vc ((Qaq l).known))++[(.slice x5.1.1 (((Qaq l).ents).length) x5.1.2:Value),(.slice x5.2.1 (((Qaq l).ticks).length) x5.2.2:Value) ]) Qbz hs 2 rfl rfl rfl (Qba rfl (Qby (vs:=[.agg ((vc ((Qaq l).known))++[(.slice x5.1.1 (((Qaq l).ents).length) x5.1.2:Value),(.slice x5.2.1 (((Qaq l).ticks).length) x5.2.2:Value) ]).toArray]) (V:=fun x:Option Addr × Nat=>.slice x.1 (QcV (Qaq l)).length x.2) QrV rfl rfl (QhN _ (Qaq l) x5.1.1 x5.1.2 x5.2.1 x5.2.2 hq.ok (by omega) (by omega) (hs.rd 0 rfl) (hs.rd 1 rfl)) hs fun x33 w34 hs _=>(Qba rfl (Qac (V:=.slice a l.length ca) rfl (Qba rfl (Qby (vs:=[.slice a l.length ca]) (V:=fun x:Option Addr × Nat=>.slice x.1 (Qdv l).length x.2) QtE rfl rfl (Qj5 _ a ca l hl (by omega) (Rd.own' hr hs)) hs fun x35 w36 hs _=>(Qba rfl (QdD (V':=.bool true) (congrArg Value.bool (QQ3 (Qmq hq))) (vs:=[.slice x33.1 ((QcV (Qaq l)).length) x33.2,.slice x35.1 ((Qdv l).length) x35.2]) (V:=.bool (decide (QcV (Qaq l)=Qdv l))) Qt2 rfl rfl ?hc hs fun w37 hs=>?_)))))))))))))
    case hc=>exact (QrC _ x33.1 x35.1 x33.2 x35.2 (QcV (Qaq l)) (Qdv l) (hs.rd 8 rfl) (hs.rd 9 rfl))
    refine Qaa (Qcp (V:=.bool true) rfl rfl (Qaa (Qad (V:=.bool true) rfl (Qae (Qas ?_)))))
    refine ⟨_,Qao (V:=.bool true) Tryz.results4 rfl,?_⟩
    refine ⟨congrArg Ending.returned ?_,hs.take 0⟩
    rfl
end Tt
end Go.Proofs
namespace Go.Proofs.YthbbcjimiemdgaaGreat
open Go.RowKit Go.Vx
theorem Tryz.own:ownKnob Tryz.prog.godebug=none:=by kernel_rfl
theorem Tryz.laidOut:laidOutB Tryz.prog=true:=by kernel_rfl
theorem O24:Qgo Tryz.prog 24 vc Qca:=Quj Tryz.underlying24 Tryz.underlying22 (by kernel_rfl) (by kernel_rfl)
theorem O30:Qgo Tryz.prog 30 dc Qc8:=QtU Tryz.underlying30 rfl rfl Tryz.underlying5 Tryz.underlying22 (by kernel_rfl) (by kernel_rfl) (by kernel_rfl)
theorem O33:Qgo Tryz.prog 33 oc QbH:=Qtu Tryz.underlying33 rfl rfl O30 O24 Tryz.underlying5 Tryz.underlying31 Tryz.underlying31 Tryz.underlying31 Tryz.underlying22 (by kernel_rfl) (by kernel_rfl)
end Go.Proofs.YthbbcjimiemdgaaGreat
namespace Go.Vx
open Go.RowKit Go.Shelf Go.Sort Go.Proofs
theorem Qot {w w':World} {L:List Res} (h:Own w no w' L):∃ q os,w'=grow (w.drewN q) os:=by
 refine ⟨w'.drawn-w.drawn,w'.heap.extract w.heap.size w'.heap.size,?_⟩
 have hd:w.drawn+(w'.drawn-w.drawn)=w'.drawn:=by have:=h.tape.2;omega
 have hh:w.heap++w'.heap.extract w.heap.size w'.heap.size=w'.heap:=by
  apply Array.ext_getElem?
  intro i
  by_cases hi:i<w.heap.size
  ·rw [Array.getElem?_append_left hi,h.old i hi (fun h=>h)]
  ·rw [Array.getElem?_append_right (by omega)]
   have:=h.size
   simp only [Array.getElem?_extract]
   split
   ·congr 1;omega
   ·rw [Array.getElem?_eq_none (by omega)]
 have h1:=h.os
 have h2:=h.tape.1
 have h3:=h.output
 cases w' with
 | mk heap tape drawn os output =>
  cases w with
  | mk heap0 tape0 drawn0 os0 output0 =>
   simp only at h1 h2 h3 hd hh
   subst h1;subst h2;subst h3
   simp [grow,World.drewN,hh,hd]
section
variable {P:Program} {ρ:Ren} {α:Type} [Inhabited α]
theorem Qi3 {enc:α→List Value} {k:Nat} {l:List α} (hk:∀ x,(enc x).length=k) {j:Nat} (hj:j<l.length*k):(l.map enc).flatten[j]?=some (flatK enc k l.toArray)[j]!:=by
 have hk0:0<k:=by
  rcases Nat.eq_zero_or_pos k with h|h
  ·subst h;simp at hj
  ·exact h
 have hi:j/k<l.length:=Nat.div_lt_of_lt_mul (by rw [Nat.mul_comm];exact hj)
 have hm:j%k<k:=Nat.mod_lt _ hk0
 have e1:(l.map enc)[j/k]?=some (enc l[j/k]):=by simp [hi]
 have e2:(enc l[j/k])[j%k]?=some (enc l[j/k])[j%k]!:=by
  rw [List.getElem?_eq_getElem (by rw [hk];exact hm),List.getElem!_eq_getElem?_getD,List.getElem?_eq_getElem (by rw [hk];exact hm)]
  rfl
 have h:=QgY (l.map enc) k (Qbl hk l) (j/k) (j%k) _ _ e1 e2
 rw [Nat.mul_comm,Nat.div_add_mod] at h
 rw [h,get_flatK enc k l.toArray j (by simpa using hj)]
 simp [hi]
theorem Qkg {enc:α→List Value} {k:Nat} {w:World} {S:Nat→Prop} {g cap T n:Nat} {l m:List α} {os:Array Obj} (hk:∀ x,(enc x).length=k) (h1:∀ x,∀ v∈enc x,v.oneCell'=true)
  (hR:(row (.slice (some ⟨g,0,none⟩) l.length cap) (l.map enc) T k).holds w S) (hlt:∀ b,S b→b<w.heap.size) (hlen:m.length=l.length) :
  Own w S (sortWorldK enc k w g 0 n m.toArray os) [row (.slice (some ⟨g,0,none⟩) l.length cap) (m.map enc) T k]:=by
 obtain ⟨_,hown,hS⟩:=hR
 have hSg:=hS g rfl
 have hgl:=hlt g hSg
 rcases hown.2 with ⟨hv,_⟩|⟨g',cap',cur,hv,_,hg,hnc,hcm,hcs,htake⟩
 ·cases hv
 ·simp only [Value.slice.injEq,Option.some.injEq,Addr.mk.injEq,and_true] at hv
  obtain ⟨rfl,hn,rfl⟩:=hv
  simp only [QQ6] at hnc htake hn
  have hX:∀ c,c<w.heap.size→(sortWorldK enc k w g 0 n m.toArray os).heap[c]?=(w.heap.modify g (onCells (putCells id 0 (flatK enc k m.toArray))))[c]?:=by
   intro c hc
   show ((w.heap.modify g (onCells (putCells id 0 (flatK enc k m.toArray))))++os)[c]?=_
   rw [Array.getElem?_append_left (by simpa using hc)]
  have hXg:(sortWorldK enc k w g 0 n m.toArray os).heap[g]?=some (.cells (putCells id 0 (flatK enc k m.toArray) cur) T (0,0)):=by
   rw [hX g hgl,Array.getElem?_modify,if_pos rfl,hg];rfl
  have hXo:∀ c,c<w.heap.size→c≠g→(sortWorldK enc k w g 0 n m.toArray os).heap[c]?=w.heap[c]?:=by
   intro c hc hne
   rw [hX c hc,Array.getElem?_modify,if_neg (fun e=>hne e.symm)]
  have hsz:(sortWorldK enc k w g 0 n m.toArray os).heap.size=w.heap.size+os.size:=by
   show ((w.heap.modify g (onCells (putCells id 0 (flatK enc k m.toArray))))++os).size=_
   simp
  refine ⟨rfl,⟨rfl,Nat.le_add_right _ _⟩,rfl,by omega,fun b hb hm=>hXo b hb (fun e=>hm (e ▸ hSg)),fun j b=>j=0∧b=g,fun j R hj=>?_,fun j b hb=>by rw [hb.2];omega,fun j j' b hb hb'=>hb.1.trans hb'.1.symm,fun j b hb _=>by rw [hb.2];exact hSg⟩
  cases j with
  | succ j=>simp at hj
  | zero =>
   simp only [List.getElem?_cons_zero,Option.some.injEq] at hj
   subst hj
   refine ⟨⟨Qbl hk m,QaU h1 m⟩,⟨?_,.inr ⟨g,cap,_,by rw [QQ6,hlen],Nat.zero_le _,hXg,by rw [QQ6];omega,hcm,by unfold putCells;simpa using hcs,?_⟩⟩,fun g' hg'=>by cases hg';exact ⟨rfl,rfl⟩⟩
   ·rw [QbX _ (Qbl hk m)]
   ·apply List.ext_getElem?
    intro j
    rw [List.getElem?_take,QQ6]
    by_cases hj:j<m.length*k
    ·have hjc:j<cur.size:=by
      rw [hcs]
      exact Nat.lt_of_lt_of_le hj (Nat.mul_le_mul_right _ (by omega))
     rw [if_pos hj,Qi3 hk hj,Array.getElem?_toList]
     unfold putCells
     rw [Array.getElem?_mapIdx,Array.getElem?_eq_getElem hjc]
     simp [hj]
    ·rw [if_neg hj,List.getElem?_eq_none (by rw [QbX _ (Qbl hk m),QQ6];omega)]
theorem QnC (L:SlLaysF0.n6 P ρ) {k T g:Nat} {enc:α→List Value} {cf:α→α→Int} (aE:∀ w,(isAgg (ρ.t 24)).run P w = .ok true w) (zE:∀ w,(Go.sizeOf (ρ.t 24)).run P w = .ok k w) (hk:∀ x,(enc x).length=k) (h1:∀ x,∀ v∈enc x,v.oneCell'=true)
  (hO:SWO (ltOf cf)) (hg:En P g) (hc:∀ w x y,Calls P g #[.agg (enc x).toArray,.agg (enc y).toArray] w fun e w'=>e = .returned (.int .i64 (cf x y))∧Own w no w' [])
  (hnil:∀ w,Calls P (ρ.f 6) #[.slice none 0 0,.func (.func g) #[] #[]] w fun e w'=>e = .returned (.tuple #[])∧w'=w) :
  QhV P (ρ.f 6) g enc T k (fun l m=>m.Perm l∧m.Pairwise fun x y=>¬cf y x<0):=by
 intro w S a c l hR hlt hsz
 have hR':=hR
 obtain ⟨_,hown,hS⟩:=hR
 rcases hown.2 with ⟨hv,hn⟩|⟨b,cap,cur,hv,_,hb,hnc,hcm,hcs,htake⟩
 ·have hl:l=[]:=by simpa using hn
  subst hl
  simp only [List.length_nil,Value.slice.injEq] at hv
  obtain ⟨rfl,_,rfl⟩:=hv
  exact (hnil w).mono fun e w' ⟨he,hw⟩=>⟨⟨[],List.Perm.refl _,List.Pairwise.nil⟩,he,by subst hw;exact Own.lent hR' hlt,trivial⟩
 ·simp only [Value.slice.injEq,QQ6] at hv
  obtain ⟨rfl,_,rfl⟩:=hv
  have hbl:=hlt b (hS b rfl)
  have hH:HoldsK enc k w b 0 l.toArray:=by
   intro j hj
   have hj':j<l.length*k:=by simpa using hj
   rw [Nat.zero_add]
   refine ⟨?_,frozen_of_row w b _ _ _ hb⟩
   rw [cell_of_row w b j _ _ _ hb]
   have h2:=Qi3 (l:=l) hk hj'
   rw [← htake,List.getElem?_take,QQ6,if_pos hj'] at h2
   simpa using h2
  have hcmp:CmpLays P g #[] enc k cf b 0 l.toArray.size w:=fun m os dk _ x y =>
   (hc _ x y).mono fun e w' ⟨he,ho⟩=>⟨he,Qot ho⟩
  refine (AnyQ.slices_SortFunc L k aE zE enc hk h1 cf hO g #[] b 0 c l.toArray w hg hcmp hH hbl (by simpa using hsz)).mono ?_
  rintro e w' ⟨he,d',n,os,hp,hs,rfl⟩
  obtain ⟨hp1,_,hp2⟩:=hp
  have hsz':d'.toList.length=l.length:=by simpa using hp1
  refine ⟨⟨d'.toList,?_,?_⟩,he,?_,trivial⟩
  ·have e1:d'.extract 0 l.toArray.size=d':=by rw [← hp1];simp
   have e2:l.toArray.extract 0 l.toArray.size=l.toArray:=by simp
   rw [e1,e2] at hp2
   simpa using hp2
  ·rw [List.pairwise_iff_getElem]
   intro i j hi hj hij
   have h3:=hs i j (Nat.zero_le _) hij (by rw [← hp1];simpa using hj)
   unfold ltOf at h3
   have e1:d'[i]! = d'.toList[i]:=by simp at hi;simp [hi]
   have e2:d'[j]! = d'.toList[j]:=by simp at hj;simp [hj]
   rw [e1,e2] at h3
   simpa using h3
  ·have:=Qkg (n:=n) (os:=os) hk h1 hR' hlt hsz'
   simpa using this
end
end Go.Vx
namespace Go.Proofs
open Go.Shelf
def Tryz.sortE_ren:Go.Shelf.Ren:=⟨fun|6=>68|15=>102|14=>101|28=>123|29=>124|20=>110|21=>116|22=>117|23=>118|24=>119|25=>120|26=>121|27=>122|46=>138|47=>139|48=>140|49=>141|50=>142|57=>148|n=>n,fun|22=>36|24=>59|25=>83|3=>3|39=>127|0=>0|53=>22|55=>54|4=>4|46=>160|45=>159|50=>81|5=>5|9=>9|66=>175|70=>179|76=>184|77=>185|n=>n,fun|n=>n⟩
theorem Tryz.sortE:Go.Proofs.SlLaysF0.n6 Tryz.prog Tryz.sortE_ren:={
 mixed:=by kernel_rfl
 f6:=⟨Tryz.f68.name,by decide,Tryz.func68.trans (congrArg some (by kernel_rfl))⟩
 f14:=⟨Tryz.f101.name,by decide,Tryz.func101.trans (congrArg some (by kernel_rfl))⟩
 f15:=Tryz.func102.trans (congrArg some (by kernel_rfl))
 f20:=⟨Tryz.f110.name,by decide,Tryz.func110.trans (congrArg some (by kernel_rfl))⟩
 f21:=⟨Tryz.f116.name,by decide,Tryz.func116.trans (congrArg some (by kernel_rfl))⟩
 f22:=⟨Tryz.f117.name,by decide,Tryz.func117.trans (congrArg some (by kernel_rfl))⟩
 f23:=⟨Tryz.f118.name,by decide,Tryz.func118.trans (congrArg some (by kernel_rfl))⟩
 f24:=⟨Tryz.f119.name,by decide,Tryz.func119.trans (congrArg some (by kernel_rfl))⟩
 f25:=⟨Tryz.f120.name,by decide,Tryz.func120.trans (congrArg some (by kernel_rfl))⟩
 f26:=⟨Tryz.f121.name,by decide,Tryz.func121.trans (congrArg some (by kernel_rfl))⟩
 f27:=⟨Tryz.f122.name,by decide,Tryz.func122.trans (congrArg some (by kernel_rfl))⟩
 f28:=Tryz.func123.trans (congrArg some (by kernel_rfl))
 f29:=Tryz.func124.trans (congrArg some (by kernel_rfl))
 f46:=⟨Tryz.f138.name,by decide,Tryz.func138.trans (congrArg some (by kernel_rfl))⟩
 f47:=Tryz.func139.trans (congrArg some (by kernel_rfl))
 f48:=Tryz.func140.trans (congrArg some (by kernel_rfl))
 f49:=⟨Tryz.f141.name,by decide,Tryz.func141.trans (congrArg some (by kernel_rfl))⟩
 f50:=⟨Tryz.f142.name,by decide,Tryz.func142.trans (congrArg some (by kernel_rfl))⟩
 f57:=⟨Tryz.f148.name,by decide,Tryz.func148.trans (congrArg some (by kernel_rfl))⟩
 t0:=Tryz.underlying0
 a0:=Tryz.isAgg0
 z0:=Tryz.sizeOf0
 v0:=Tryz.zeroValue0
 t3:=Tryz.underlying3
 a3:=Tryz.isAgg3
 z3:=Tryz.sizeOf3
 v3:=Tryz.zeroValue3
 t4:=Tryz.underlying4
 a4:=Tryz.isAgg4
 z4:=Tryz.sizeOf4
 v4:=Tryz.zeroValue4
 t5:=Tryz.underlying5
 a5:=Tryz.isAgg5
 z5:=Tryz.sizeOf5
 v5:=Tryz.zeroValue5
 t9:=Tryz.underlying9
 a9:=Tryz.isAgg9
 z9:=Tryz.sizeOf9
 v9:=Tryz.zeroValue9
 t22:=Tryz.underlying36
 a22:=Tryz.isAgg36
 z22:=Tryz.sizeOf36
 v22:=Tryz.zeroValue36
 t25:=Tryz.underlying83
 a25:=Tryz.isAgg83
 z25:=Tryz.sizeOf83
 v25:=Tryz.zeroValue83
 t39:=Tryz.underlying127
 a39:=Tryz.isAgg127
 z39:=Tryz.sizeOf127
 v39:=Tryz.zeroValue127
 t45:=Tryz.underlying159
 a45:=Tryz.isAgg159
 z45:=Tryz.sizeOf159
 v45:=Tryz.zeroValue159
 t46:=Tryz.underlying160
 a46:=Tryz.isAgg160
 z46:=Tryz.sizeOf160
 v46:=Tryz.zeroValue160
 t50:=Tryz.underlying81
 a50:=Tryz.isAgg81
 z50:=Tryz.sizeOf81
 v50:=Tryz.zeroValue81
 t53:=Tryz.underlying22
 a53:=Tryz.isAgg22
 z53:=Tryz.sizeOf22
 v53:=Tryz.zeroValue22
 t55:=Tryz.underlying54
 a55:=Tryz.isAgg54
 z55:=Tryz.sizeOf54
 v55:=Tryz.zeroValue54
 t66:=Tryz.underlying175
 a66:=Tryz.isAgg175
 z66:=Tryz.sizeOf175
 v66:=Tryz.zeroValue175
 t70:=Tryz.underlying179
 a70:=Tryz.isAgg179
 z70:=Tryz.sizeOf179
 v70:=Tryz.zeroValue179
 t76:=Tryz.underlying184
 a76:=Tryz.isAgg184
 z76:=Tryz.sizeOf184
 v76:=Tryz.zeroValue184
 t77:=Tryz.underlying185
 a77:=Tryz.isAgg185
 z77:=Tryz.sizeOf185
 v77:=Tryz.zeroValue185 }
end Go.Proofs
namespace Go.Proofs.YthbbcjimiemdgaaGreat
open Go.Vx Go.Sort Go.Proofs
theorem QuN:SWO (ltOf QbM) where
 irrefl x:=by unfold ltOf;rw [decide_eq_false_iff_not,QdI,Qb0];decide
 trans x y z h1 h2:=by unfold ltOf at *;rw [decide_eq_true_iff,QdI] at *;exact Qck h1 h2
 ntrans x y z h1 h2:=by unfold ltOf at *;rw [decide_eq_false_iff_not,QdI,Qdz] at *;omega
theorem Qsv:QhV Tryz.prog 68 35 cec 59 7 QkB :=
 QnC (ρ:=Tryz.sortE_ren) (k:=7) (T:=59) Tryz.sortE Tryz.isAgg59 Tryz.sizeOf59 (fun _=>rfl) Qa2 QuN Tryz.call35 (fun w x y=>Tt.place_ok w x y) (fun w=>AnyF.slices_SortFunc_none Tryz.sortE none 0 _ w)
end Go.Proofs.YthbbcjimiemdgaaGreat
namespace Go.Proofs
open Go Go.Vx Go.RowKit
open Go.Sort (ltInt medianAdjacent order2 partition)
namespace Tt
theorem QoF (w:World) (x:Int):Calls Tryz.prog 91 #[.int .u16 x] w (fun e w'=>e = .returned (.bool false)∧Own w no w' []):=by
 refine Qai (n:=6) Tryz.func91 rfl Tryz.ntmps91 rfl ?_
 have hs:=Own.start w
 refine Qag (Qab (Qaa (Qad (V:=.bool false) rfl (Qae (Qag (Qab (Qaa (Qac (V:=I7 x) rfl (Qaa (Qac (V:=I7 x) rfl (Qaa (Qcr rfl rfl (Qaa (Qad (V:=.bool (!decide (x=x))) rfl (Qae (Qas ?_))))))))))))))))
 refine ⟨_,Qao (V:=.bool (!decide (x=x))) Tryz.results91 rfl,?_⟩
 refine ⟨congrArg Ending.returned ?_,hs.take 0⟩
 simp
theorem Qcl (w:World) (x y:Int):Calls Tryz.prog 135 #[.int .u16 x,.int .u16 y] w (fun e w'=>e = .returned (.bool (decide (x<y)))∧Own w no w' []):=by
 refine Qai (n:=17) Tryz.func135 rfl Tryz.ntmps135 rfl ?_
 have hs:=Own.start w
 refine Qag (Qab (Qaa (Qad (V:=.bool false) rfl (Qae (Qag (Qbi [some 5,some 6,some 7,some 8,some 9,some 10,some 11,some 12,some 13,some 14,some 15,some 16,some 4] [] [0,1,3,7,15,31,63,127,255,255,1023,2047,4095] [pv (I7 x),pv (.bool false),pv (.bool false),pg false (.bool true),pg false (.bool true),pg false (.bool true),pv (.bool false),pv (.bool false),pv (I7 x),pv (I7 y),pv (.bool (decide (x<y))),pv (.bool (decide (x<y))),pv (.bool (decide (x<y)))] (fun _ _=>_) [12] (by kernel_rfl) hs ⟨?_,?_,?_,?_,?_,?_,?_,?_,?_,?_,?_,?_,?_,trivial⟩ ?_))))))
 ·exact ob [] [] rfl rfl fun D ρ w hs=>Qac (V:=I7 x) rfl ⟨rfl,hs⟩
 ·exact ob [0] [] rfl rfl fun D ρ w hs=>Qar (vs:=[I7 x]) (V:=.bool false) QqG rfl rfl (QoF _ x) hs fun _ hs=>⟨rfl,hs⟩
 ·exact ob [1] [] rfl rfl fun D ρ w hs=>Qac (V:=.bool false) rfl ⟨rfl,hs⟩
 ·exact obg [] [] false rfl (fun _=>rfl) rfl (fun _ _ _ _ h=>h) (fun _ _ _ h=>nomatch h)
 ·exact obg [] [] false rfl (fun _=>rfl) rfl (fun _ _ _ _ h=>h) (fun _ _ _ h=>nomatch h)
 ·exact obg [] [] false rfl (fun _=>rfl) rfl (fun _ _ _ _ h=>h) (fun _ _ _ h=>nomatch h)
 ·exact ob [2] [] rfl rfl fun D ρ w hs=>Qcp (V:=.bool false) rfl rfl ⟨rfl,hs⟩
 ·exact ob [6] [] rfl rfl fun D ρ w hs=>Qac (V:=.bool false) rfl ⟨rfl,hs⟩
 ·exact obg [7] [] false rfl (fun _=>rfl) rfl (fun _ _ _ h=>nomatch h) fun D ρ w _ hs=>Qac (V:=I7 x) rfl ⟨rfl,hs⟩
 ·exact obg [7] [] false rfl (fun _=>rfl) rfl (fun _ _ _ h=>nomatch h) fun D ρ w _ hs=>Qac (V:=I7 y) rfl ⟨rfl,hs⟩
 ·exact obg [7,8,9] [] false rfl (fun _=>rfl) rfl (fun _ _ _ h=>nomatch h) fun D ρ w _ hs=>QaP rfl rfl ⟨rfl,hs⟩
 ·exact ob [7,10] [] rfl rfl fun D ρ w hs=>Qcp (V:=.bool (decide (x<y))) rfl rfl ⟨rfl,hs⟩
 ·exact ob [11] [] rfl rfl fun D ρ w hs=>Qad (V:=.bool (decide (x<y))) rfl ⟨rfl,hs⟩
 rintro ρ1 w2 ρ2 hρ hs
 replace hρ:ρ2=upd (mix [5,6,7,8,9,10,11,12,13,14,15,16,4] ρ1 _) 4 (.bool (decide (x<y))):=hρ
 subst hρ
 refine Qas ?_
 refine ⟨_,Qao (V:=.bool (decide (x<y))) Tryz.results135 rfl,?_⟩
 refine ⟨congrArg Ending.returned ?_,hs.take 0⟩
 first|rfl|simp
theorem Qpl {lo j:Nat} {d:Array Int} (h1:(lo:Int)<(j:Int)) (h2:d[j]!<d[j-1]!):Sort.insInner ltInt lo j d=Sort.insInner ltInt lo (j-1) (Sort.swp d j (j-1)):=by
 obtain ⟨i,rfl⟩:∃ i,j=i+1:=⟨j-1,by omega⟩
 rw [Nat.add_sub_cancel] at *
 rw [Sort.insInner,if_pos]
 simp [ltInt,h2];omega
theorem Qri {lo j:Nat} {d:Array Int} (h:(decide ((lo:Int)<(j:Int))&&decide (d[j]!<d[j-1]!))=false):Sort.insInner ltInt lo j d=d:=by
 cases j with
 | zero=>rfl
 | succ i =>
  rw [Sort.insInner,if_neg]
  intro h2
  simp [ltInt] at h2 h
  have:=h (by omega)
  omega
theorem Qpx {lo hi k:Nat} {d:Array Int} (h:(k:Int)<(hi:Int)):Sort.insOuter ltInt lo hi k d=Sort.insOuter ltInt lo hi (k+1) (Sort.insInner ltInt lo k d):=by
 rw [Sort.insOuter,if_pos (by omega)]
theorem Qr7 {lo hi k:Nat} {d:Array Int} (h:¬(k:Int)<(hi:Int)):Sort.insOuter ltInt lo hi k d=d:=by
 rw [Sort.insOuter,if_neg (by omega)]
theorem Qr2 (w:World) (S:Nat→Prop) (a:Option Addr) (N c:Nat) (d:Array Int) (hsz:d.size=N) (hN:N≤2305843009213693951) (lo hi:Nat) (h1:lo≤hi) (h2:hi≤N) (hR:(row (.slice a N c) (d.toList.map (ic .u16)) 31 1).holds w S) (hlt:∀ x,S x→x<w.heap.size):Calls Tryz.prog 129 #[.slice a N c,.int .i64 (lo:Int),.int .i64 (hi:Int)] w (fun e w'=>∃ x:Unit,e = .returned (.tuple #[])∧Own w S w' [row (.slice a N c) ((Sort.insertionSort ltInt d lo hi).toList.map (ic .u16)) 31 1]∧(Sort.insertionSort ltInt d lo hi).size=N):=by
 refine Qai (n:=49) Tryz.func129 rfl Tryz.ntmps129 rfl ?_
 have hs:=Own.lent hR hlt
 refine Qag (Qab (Qaa (Qac (V:=I6 (lo:Int)) rfl (Qaa (Qav (a:=(lo:Int)) (b:=1) (c:=((lo+1:Nat):Int)) rfl rfl (Qaj (by omega) (by omega)) (Qaa (Qad (V:=I6 ((lo+1:Nat):Int)) rfl (Qae (Qak (Qax (fun ρ μ ρ' w'=>∃ (ρo:Env) (k:Nat) (d1:Array Int),ρ'=upd (mix [6,7,10,11,12,13,14,15,16,17,18,19,20,21,22,23,24,25,26,27,28,29,30,31,32,33,34,35,36,37,38,39,40,41,42,43,44,45,46,47,48] ρo ρ) 6 (I6 (k:Int))∧(lo+1≤k)∧(k≤hi∨k=lo+1)∧(d1.size=N)∧(Sort.insOuter ltInt lo hi k d1=Sort.insertionSort ltInt d lo hi)∧μ=hi-k∧Own w S w' [row (.slice a N c) (d1.toList.map (ic .u16)) 31 1]) ?_ ?_))))))))))
 ·exact ⟨_,_,lo+1,d,Qah (Qam (ds:=[6,7,10,11,12,13,14,15,16,17,18,19,20,21,22,23,24,25,26,27,28,29,30,31,32,33,34,35,36,37,38,39,40,41,42,43,44,45,46,47,48]) (Agr.refl _ _)) rfl,(Nat.le_refl _),(Or.inr rfl),hsz,rfl,rfl,hs⟩
 ·rintro μ ρ' w1 ⟨ρo,k,d1,rfl,hk0,hk,hz1,hev,rfl,hs⟩
  refine Qag (Qag (Qab (Qaa (Qac (V:=I6 (k:Int)) rfl (Qaa (Qac (V:=I6 (hi:Int)) rfl (Qaa (QaP rfl rfl (Qae (Qal (t:=decide ((k:Int)<(hi:Int))) rfl (fun c2=>?_) (fun c2=>?_)))))))))))
  ·
   replace c2:=QQ1 c2
   refine Qan (Qag (Qak (Qag (Qab (Qaa (Qac (V:=I6 (k:Int)) rfl (Qaa (Qad (V:=I6 (k:Int)) rfl (Qae (Qak (Qax (fun ρ μ ρ' w'=>∃ (ρo:Env) (j:Nat) (d2:Array Int),ρ'=upd (mix [7,16,17,18,19,20,21,22,23,24,25,26,27,28,29,30,31,32,33,34,35,36,37,38,39,40,41,42,43,44,45,46,47,48] ρo ρ) 7 (I6 (j:Int))∧(lo≤j)∧(j≤k)∧(d2.size=N)∧(Sort.insInner ltInt lo j d2=Sort.insInner ltInt lo k d1)∧μ=2*j∧Own w S w' [row (.slice a N c) (d2.toList.map (ic .u16)) 31 1]) ?_ ?_)))))))))))
   ·exact ⟨_,_,k,d1,Qah (Qam (ds:=[7,16,17,18,19,20,21,22,23,24,25,26,27,28,29,30,31,32,33,34,35,36,37,38,39,40,41,42,43,44,45,46,47,48]) (Agr.refl _ _)) rfl,(by omega),(Nat.le_refl _),hz1,rfl,rfl,hs⟩
   ·rintro μ ρ' w3 ⟨ρo,j,d2,rfl,hj0,hj,hz2,hin,rfl,hs⟩
    refine Qag (Qag (QaC HM [some 16,some 17,some 18,some 19,some 20,some 21,some 22,some 23,some 24,some 25,some 26,some 27,some 28,some 29,some 30] [] [0,0,3,7,15,15,63,127,15,15,527,1807,3855,8191,16383] [pv (I6 (j:Int)),pv (I6 (lo:Int)),pv (.bool (decide ((lo:Int)<(j:Int)))),pv (.bool (decide ((lo:Int)<(j:Int)))),pg ((decide ((lo:Int)<(j:Int))) == true) (.slice a N c),pg ((decide ((lo:Int)<(j:Int))) == true) (I6 (j:Int)),pg ((decide ((lo:Int)<(j:Int))) == true) (.pointer (some ⟨bkS (.slice a N c),ofS (.slice a N c)+(j:Int).toNat*1,none⟩)),pg ((decide ((lo:Int)<(j:Int))) == true) (I7 (d2[j]!)),pg ((decide ((lo:Int)<(j:Int))) == true) (.slice a N c),pg ((decide ((lo:Int)<(j:Int))) == true) (I6 (j:Int)),pg ((decide ((lo:Int)<(j:Int))) == true) (I6 ((j-1:Nat):Int)),pg ((decide ((lo:Int)<(j:Int))) == true) (.pointer (some ⟨bkS (.slice a N c),ofS (.slice a N c)+((j-1:Nat):Int).toNat*1,none⟩)),pg ((decide ((lo:Int)<(j:Int))) == true) (I7 (d2[j-1]!)),pg ((decide ((lo:Int)<(j:Int))) == true) (.bool (decide (d2[j]!<d2[j-1]!))),pv (.bool ((decide ((lo:Int)<(j:Int)))&&(decide (d2[j]!<d2[j-1]!))))] (fun _ _=>_) [14] (by kernel_rfl) hs ⟨?_,?_,?_,?_,?_,?_,?_,?_,?_,?_,?_,?_,?_,?_,?_,trivial⟩ ?_))
    ·exact ob [] [] rfl rfl fun D ρ w hs=>Qac (V:=I6 (j:Int)) rfl ⟨rfl,hs⟩
    ·exact ob [] [] rfl rfl fun D ρ w hs=>Qac (V:=I6 (lo:Int)) rfl ⟨rfl,hs⟩
    ·exact ob [0,1] [] rfl rfl fun D ρ w hs=>Qcb rfl rfl ⟨rfl,hs⟩
    ·exact ob [2] [] rfl rfl fun D ρ w hs=>Qac (V:=.bool (decide ((lo:Int)<(j:Int)))) rfl ⟨rfl,hs⟩
    ·refine obg [3] [] (decide ((lo:Int)<(j:Int))) rfl (fun _=>rfl) rfl (fun _ _ _ _ h=>h) fun D ρ w hG hs=>?_
     have hgd:=QQ1 (eq_of_beq hG)
     exact Qac (V:=.slice a N c) rfl ⟨rfl,hs⟩
    ·refine obg [3] [] (decide ((lo:Int)<(j:Int))) rfl (fun _=>rfl) rfl (fun _ _ _ _ h=>h) fun D ρ w hG hs=>?_
     have hgd:=QQ1 (eq_of_beq hG)
     exact Qac (V:=.int .i64 (j:Int)) rfl ⟨rfl,hs⟩
    ·refine obgy [3,4,5] [] [4,5] (decide ((lo:Int)<(j:Int))) rfl (fun _=>rfl) rfl (fun _ _ _ _ h=>h) (fun hG=>⟨hG,hG,trivial⟩) fun D ρ w hG hs=>?_
     have hgd:=QQ1 (eq_of_beq hG)
     exact Qat QaI Qap.1 (hs.rd 0 rfl) rfl rfl (by omega) (by simp only [QQ6,QQ9,QQ5,Go.Sort.size_swp];omega) ⟨rfl,hs⟩
    ·refine obgy [3,6] [] [6] (decide ((lo:Int)<(j:Int))) rfl (fun _=>rfl) rfl (fun _ _ _ _ h=>h) (fun hG=>⟨hG,trivial⟩) fun D ρ w hG hs=>?_
     have hgd:=QQ1 (eq_of_beq hG)
     exact QaQ (j:=0) (V:=.int .u16 (d2[j]!)) j Qap (hs.rd 0 rfl) (Qbk (by omega)) rfl rfl (by omega) ⟨rfl,hs⟩
    ·refine obg [3] [] (decide ((lo:Int)<(j:Int))) rfl (fun _=>rfl) rfl (fun _ _ _ _ h=>h) fun D ρ w hG hs=>?_
     have hgd:=QQ1 (eq_of_beq hG)
     exact Qac (V:=.slice a N c) rfl ⟨rfl,hs⟩
    ·refine obg [3] [] (decide ((lo:Int)<(j:Int))) rfl (fun _=>rfl) rfl (fun _ _ _ _ h=>h) fun D ρ w hG hs=>?_
     have hgd:=QQ1 (eq_of_beq hG)
     exact Qac (V:=.int .i64 (j:Int)) rfl ⟨rfl,hs⟩
    ·refine obgy [3,9] [] [9] (decide ((lo:Int)<(j:Int))) rfl (fun _=>rfl) rfl (fun _ _ _ _ h=>h) (fun hG=>⟨hG,trivial⟩) fun D ρ w hG hs=>?_
     have hgd:=QQ1 (eq_of_beq hG)
     exact Qa4 (a:=(j:Int)) (b:=1) (c:=((j-1:Nat):Int)) rfl rfl (Qaj (by omega) (by omega)) ⟨rfl,hs⟩
    ·refine obgy [3,8,10] [] [8,10] (decide ((lo:Int)<(j:Int))) rfl (fun _=>rfl) rfl (fun _ _ _ _ h=>h) (fun hG=>⟨hG,hG,trivial⟩) fun D ρ w hG hs=>?_
     have hgd:=QQ1 (eq_of_beq hG)
     exact Qat QaI Qap.1 (hs.rd 0 rfl) rfl rfl (by omega) (by simp only [QQ6,QQ9,QQ5,Go.Sort.size_swp];omega) ⟨rfl,hs⟩
    ·refine obgy [3,11] [] [11] (decide ((lo:Int)<(j:Int))) rfl (fun _=>rfl) rfl (fun _ _ _ _ h=>h) (fun hG=>⟨hG,trivial⟩) fun D ρ w hG hs=>?_
     have hgd:=QQ1 (eq_of_beq hG)
     exact QaQ (j:=0) (V:=.int .u16 (d2[j-1]!)) (j-1) Qap (hs.rd 0 rfl) (Qbk (by omega)) rfl rfl (by omega) ⟨rfl,hs⟩
    ·refine obgy [3,7,12] [] [7,12] (decide ((lo:Int)<(j:Int))) rfl (fun _=>rfl) rfl (fun _ _ _ _ h=>h) (fun hG=>⟨hG,hG,trivial⟩) fun D ρ w hG hs=>?_
     have hgd:=QQ1 (eq_of_beq hG)
     exact Qar (vs:=[.int .u16 (d2[j]!),.int .u16 (d2[j-1]!)]) (V:=.bool (decide (d2[j]!<d2[j-1]!))) Qc3 rfl rfl (Qcl _ (d2[j]!) (d2[j-1]!)) hs fun _ hs=>⟨rfl,hs⟩
    ·exact ob [3,13] [] rfl rfl fun D ρ w hs=>Qa3 (h':=decide (d2[j]!<d2[j-1]!)) rfl rfl rfl ⟨rfl,hs⟩
    rintro ρ1 w5 ρ2 hρ hs
    replace hρ:ρ2=upd (mix [16,17,18,19,20,21,22,23,24,25,26,27,28,29,30] ρ1 _) 30 (.bool ((decide ((lo:Int)<(j:Int)))&&(decide (d2[j]!<d2[j-1]!)))):=hρ
    subst hρ
    refine Qal (t:=(decide ((lo:Int)<(j:Int)))&&(decide (d2[j]!<d2[j-1]!))) rfl (fun c6=>?_) (fun c6=>?_)
    ·
     have c6r:=Qcd c6
     replace c6:=QbQ c6
     replace c6:=QQ1 c6
     replace c6r:=QQ1 c6r
     refine Qan (Qag (Qak (QaC HM [some 33,some 34,some 35,some 36,some 37,some 38,some 39,some 40,some 41,some 42,some 43,some 44,some 45,some 46,some 47,none,some 48,none] [] [0,0,0,0,8,0,0,64,224,480,0,0,3072,7168,16355,32739,65535,131071] [pv (.slice a N c),pv (I6 (j:Int)),pv (.slice a N c),pv (I6 (j:Int)),pv (I6 ((j-1:Nat):Int)),pv (.slice a N c),pv (I6 (j:Int)),pv (I6 ((j-1:Nat):Int)),pv (.pointer (some ⟨bkS (.slice a N c),ofS (.slice a N c)+((j-1:Nat):Int).toNat*1,none⟩)),pv (I7 (d2[j-1]!)),pv (.slice a N c),pv (I6 (j:Int)),pv (.pointer (some ⟨bkS (.slice a N c),ofS (.slice a N c)+(j:Int).toNat*1,none⟩)),pv (I7 (d2[j]!)),pv (.pointer (some ⟨bkS (.slice a N c),ofS (.slice a N c)+(j:Int).toNat*1,none⟩)),pn,pv (.pointer (some ⟨bkS (.slice a N c),ofS (.slice a N c)+((j-1:Nat):Int).toNat*1,none⟩)),pn] (fun D ρ=>[cond (D 17) (row (.slice a N c) ((((d2.setIfInBounds j (d2[j-1]!)).setIfInBounds (j-1) (d2[j]!)).toList).map (ic .u16)) 31 1) (cond (D 15) (row (.slice a N c) (((d2.setIfInBounds j (d2[j-1]!)).toList).map (ic .u16)) 31 1) (row (.slice a N c) (d2.toList.map (ic .u16)) 31 1))]) [] (by kernel_rfl) hs ⟨?_,?_,?_,?_,?_,?_,?_,?_,?_,?_,?_,?_,?_,?_,?_,?_,?_,?_,trivial⟩ ?_)))
     ·exact ob [] [] rfl rfl fun D ρ w hs=>Qac (V:=.slice a N c) rfl ⟨rfl,hs⟩
     ·exact ob [] [] rfl rfl fun D ρ w hs=>Qac (V:=I6 (j:Int)) rfl ⟨rfl,hs⟩
     ·exact ob [] [] rfl rfl fun D ρ w hs=>Qac (V:=.slice a N c) rfl ⟨rfl,hs⟩
     ·exact ob [] [] rfl rfl fun D ρ w hs=>Qac (V:=I6 (j:Int)) rfl ⟨rfl,hs⟩
     ·exact ob [3] [] rfl rfl fun D ρ w hs=>Qa4 (a:=(j:Int)) (b:=1) (c:=((j-1:Nat):Int)) rfl rfl (Qaj (by omega) (by omega)) ⟨rfl,hs⟩
     ·exact ob [] [] rfl rfl fun D ρ w hs=>Qac (V:=.slice a N c) rfl ⟨rfl,hs⟩
     ·exact ob [] [] rfl rfl fun D ρ w hs=>Qac (V:=I6 (j:Int)) rfl ⟨rfl,hs⟩
     ·exact ob [6] [] rfl rfl fun D ρ w hs=>Qa4 (a:=(j:Int)) (b:=1) (c:=((j-1:Nat):Int)) rfl rfl (Qaj (by omega) (by omega)) ⟨rfl,hs⟩
     ·exact ob [5,7] [15,17] rfl rfl fun D ρ w hs=>Qat QaI Qap.1 (hs.rd 0 rfl) rfl rfl (by omega) (by simp only [QQ6,QQ9,QQ5,Go.Sort.size_swp];omega) ⟨rfl,hs⟩
     ·exact ob [8] [15,17] rfl rfl fun D ρ w hs=>QaQ (j:=0) (V:=I7 (d2[j-1]!)) (j-1) Qap (hs.rd 0 rfl) (Qbk (by omega)) rfl rfl (by omega) ⟨rfl,hs⟩
     ·exact ob [] [] rfl rfl fun D ρ w hs=>Qac (V:=.slice a N c) rfl ⟨rfl,hs⟩
     ·exact ob [] [] rfl rfl fun D ρ w hs=>Qac (V:=I6 (j:Int)) rfl ⟨rfl,hs⟩
     ·exact ob [10,11] [15,17] rfl rfl fun D ρ w hs=>Qat QaI Qap.1 (hs.rd 0 rfl) rfl rfl (by omega) (by simp only [QQ6,QQ9,QQ5,Go.Sort.size_swp];omega) ⟨rfl,hs⟩
     ·exact ob [12] [15,17] rfl rfl fun D ρ w hs=>QaQ (j:=0) (V:=I7 (d2[j]!)) j Qap (hs.rd 0 rfl) (Qbk (by omega)) rfl rfl (by omega) ⟨rfl,hs⟩
     ·exact ob [0,1] [15,17] rfl rfl fun D ρ w hs=>Qat QaI Qap.1 (hs.rd 0 rfl) rfl rfl (by omega) (by simp only [QQ6,QQ9,QQ5,Go.Sort.size_swp];omega) ⟨rfl,hs⟩
     ·exact ob [9,14] [17] rfl rfl fun D ρ w hs=>Qcf (z:=d2[j-1]!) j Qap hs 0 rfl rfl (by omega) (by first|omega|(simp only [QQ5,Go.Sort.size_swp];omega)) rfl rfl rfl fun _ hs=>⟨trivial,hs⟩
     ·exact ob [2,4,15] [17] rfl rfl fun D ρ w hs=>Qat QaI Qap.1 (hs.rd 0 rfl) rfl rfl (by omega) (by simp only [QQ6,QQ9,QQ5,Go.Sort.size_swp];omega) ⟨rfl,hs⟩
     ·exact ob [13,15,16] [] rfl rfl fun D ρ w hs=>Qcf (z:=d2[j]!) (j-1) Qap hs 0 rfl rfl (by omega) (by first|omega|(simp only [QQ5,Go.Sort.size_swp];omega)) rfl rfl rfl fun _ hs=>⟨trivial,hs⟩
     rintro ρ1 w9 ρ2 hρ hs
     replace hρ:ρ2=mix [33,34,35,36,37,38,39,40,41,42,43,44,45,46,47,48] ρ1 _:=hρ
     replace hs:Own w S w9 [row (.slice a N c) ((((d2.setIfInBounds j (d2[j-1]!)).setIfInBounds (j-1) (d2[j]!)).toList).map (ic .u16)) 31 1]:=hs
     subst hρ
     refine Qab (Qaa (Qac (V:=I6 (j:Int)) rfl (Qaa (Qa4 (a:=(j:Int)) (b:=1) (c:=((j-1:Nat):Int)) rfl rfl (Qaj (by omega) (by omega)) (Qaa (Qad (V:=I6 ((j-1:Nat):Int)) rfl (Qae ?_)))))))
     refine ⟨_,?_,_,j-1,((d2.setIfInBounds j (d2[j-1]!)).setIfInBounds (j-1) (d2[j]!)),Qah (Qam (ds:=[7,16,17,18,19,20,21,22,23,24,25,26,27,28,29,30,31,32,33,34,35,36,37,38,39,40,41,42,43,44,45,46,47,48]) (by repeat (first|exact Agr.refl _ _|refine Agr.upd ?_ rfl|refine Agr.mix ?_ rfl))) rfl,(by omega),(by omega),(by simp only [QQ5];exact hz2),(by rw [← hin];exact (Qpl c6 c6r).symm),rfl,hs.take 1⟩
     omega
    ·
     refine Qaz (Qab (Qaa (Qac (V:=I6 (k:Int)) rfl (Qaa (Qav (a:=(k:Int)) (b:=1) (c:=((k+1:Nat):Int)) rfl rfl (Qaj (by omega) (by omega)) (Qaa (Qad (V:=I6 ((k+1:Nat):Int)) rfl (Qae ?_))))))))
     refine ⟨_,?_,_,k+1,d2,Qah (Qam (ds:=[6,7,10,11,12,13,14,15,16,17,18,19,20,21,22,23,24,25,26,27,28,29,30,31,32,33,34,35,36,37,38,39,40,41,42,43,44,45,46,47,48]) (by repeat (first|exact Agr.refl _ _|refine Agr.upd ?_ rfl|refine Agr.mix ?_ rfl))) rfl,(by omega),(by omega),hz2,(by rw [← hev,Qpx (d:=d1) c2,← hin,Qri c6]),rfl,hs.take 1⟩
     omega
  ·
   replace c2:=QQ2 c2
   refine Qaz ?_
   refine ⟨_,Qbo Tryz.results129,?_⟩
   have hX:d1=Sort.insertionSort ltInt d lo hi:=by rw [← hev,Qr7 c2]
   exact ⟨(),rfl,hX ▸ hs.take 1,hX ▸ (by first|assumption|(simp only [QQ5,Go.Sort.size_swp];omega))⟩
end Tt
end Go.Proofs
