/- A part of a proof: what functions of the program compute, and plain facts on that. -/
import Derived.Test.YtbjbjboehjdcaaaGreatCutsDiffsP6
import Derived.KernelRfl
import Derived.Test.YtbjbjboehjdcaaaGreatProg
import Derived.Shelf.SlSortCmp.WholeK
import Derived.Shelf.SlLaysF0
import Derived.Ground.SlsfProg
import Derived.Shelf.SlSortCmp.NoneTotal
set_option linter.unusedVariables false
set_option linter.unusedSimpArgs false
set_option maxHeartbeats 4000000
set_option maxRecDepth 100000
namespace Go.Proofs
open Go Go.Vx Go.RowKit
namespace Tt
theorem Qpj (w:World) (x y:Cen):Calls Tryz.prog 150 #[.agg (cec x).toArray,.agg (cec y).toArray] w (fun e w'=>e = .returned (.bool (Qcu x y))/\Own w no w' []):=by
 refine Qaj (n:=36) Tryz.func150 rfl Tryz.ntmps150 rfl ?_
 have hs:=Own.start w
 refine Qag (Qab (Qaa (QaN (V:=.agg (cec x).toArray) (cs:=cec x) rfl rfl hs fun b1 w2 hs=>(Qaa (QaN (V:=.agg (cec y).toArray) (cs:=cec y) rfl rfl hs fun b3 w4 hs=>(Qaa (Qad (V:=.bool false) rfl (Qaf (Qag (Qag (Qab (Qaa (Qae Qee rfl (Qaa (QaE (V:=.int .u64 x.count) QeA hs 0 rfl rfl rfl (Qaa (Qae Qee rfl (Qaa (QaE (V:=.int .u64 y.count) QeA hs 1 rfl rfl rfl (Qaa (Qch rfl rfl (Qaf (Qan (t:=!decide (x.count=y.count)) rfl (fun c5=>?_) (fun c5=>?_))))))))))))))))))))))))
 ·
  replace c5:=Qbn c5
  replace c5:=QQ2 c5
  refine Qag (Qab (Qaa (Qae Qee rfl (Qaa (QaE (V:=.int .u64 x.count) QeA hs 0 rfl rfl rfl (Qaa (Qae Qee rfl (Qaa (QaE (V:=.int .u64 y.count) QeA hs 1 rfl rfl rfl (Qaa (QaQ rfl rfl (Qaa (Qad (V:=.bool (decide (x.count<y.count))) rfl (Qaf (Qau ?_)))))))))))))))
  refine ⟨_,Qaq (V:=.bool (decide (x.count<y.count))) Tryz.results150 rfl,(Zr hs ?_)⟩
  unfold Qcu;rw [if_neg c5]
 replace c5:=Qbf c5
 replace c5:=QQ1 c5
 refine Qap (Qag (Qag (Qab (Qaa (Qae QbP rfl (Qaa (Qae QbI rfl (Qaa (QaE (V:=.int .u8 x.dot.rep) QcN hs 0 rfl rfl rfl (Qaa (Qae QbP rfl (Qaa (Qae QbI rfl (Qaa (QaE (V:=.int .u8 y.dot.rep) QcN hs 1 rfl rfl rfl (Qaa (Qch rfl rfl (Qaf (Qan (t:=!decide (x.dot.rep=y.dot.rep)) rfl (fun c6=>?_) (fun c6=>?_))))))))))))))))))))
 ·
  replace c6:=Qbn c6
  replace c6:=QQ2 c6
  refine Qag (Qab (Qaa (Qae QbP rfl (Qaa (Qae QbI rfl (Qaa (QaE (V:=.int .u8 x.dot.rep) QcN hs 0 rfl rfl rfl (Qaa (Qae QbP rfl (Qaa (Qae QbI rfl (Qaa (QaE (V:=.int .u8 y.dot.rep) QcN hs 1 rfl rfl rfl (Qaa (QaQ rfl rfl (Qaa (Qad (V:=.bool (decide (x.dot.rep<y.dot.rep))) rfl (Qaf (Qau ?_)))))))))))))))))))
  refine ⟨_,Qaq (V:=.bool (decide (x.dot.rep<y.dot.rep))) Tryz.results150 rfl,(Zr hs ?_)⟩
  unfold Qcu;rw [if_pos c5,if_neg c6]
 replace c6:=Qbf c6
 replace c6:=QQ1 c6
 refine Qap (Qag (Qab (Qaa (Qae QbP rfl (Qaa (Qae QbQ rfl (Qaa (QaE (V:=.int .u32 x.dot.seq) Qa6 hs 0 rfl rfl rfl (Qaa (Qae QbP rfl (Qaa (Qae QbQ rfl (Qaa (QaE (V:=.int .u32 y.dot.seq) Qa6 hs 1 rfl rfl rfl (Qaa (QaQ rfl rfl (Qaa (Qad (V:=.bool (decide (x.dot.seq<y.dot.seq))) rfl (Qaf (Qau ?_))))))))))))))))))))
 refine ⟨_,Qaq (V:=.bool (decide (x.dot.seq<y.dot.seq))) Tryz.results150 rfl,(Zr hs ?_)⟩
 unfold Qcu;rw [if_pos c5,if_pos c6]
theorem QnE (w:World) (s:Sta) (a1:Option Addr) (c1:Nat) (a2:Option Addr) (c2:Nat) (c n:Int) (hE0:∀ e∈s.ents,Qfb e) (hr1:Rd w (.slice a1 s.ents.length c1) 7 (s.ents.map cec)) (hr2:Rd w (.slice a2 s.ticks.length c2) 2 (s.ticks.map lsc)):Calls Tryz.prog 102 #[.agg ((vc s.known)++[(.slice a1 s.ents.length c1:Value),(.slice a2 s.ticks.length c2:Value) ]).toArray,.int .u16 c,.int .i64 n] w (fun e w'=>e = .returned (.tuple #[.int .u32 (QcT (QbG s c n)),.bool (QdX s c n)])/\Own w no w' []):=by
 refine Qaj (n:=74) Tryz.func102 rfl Tryz.ntmps102 rfl ?_
 have hs:=Own.start w
 have hn1:=hr1.sml
 refine Qag (Qab (Qaa (QaN (V:=.agg ((vc s.known)++[(.slice a1 s.ents.length c1:Value),(.slice a2 s.ticks.length c2:Value) ]).toArray) (cs:=(vc s.known)++[(.slice a1 s.ents.length c1:Value),(.slice a2 s.ticks.length c2:Value) ]) rfl rfl hs fun b1 w2 hs=>(Qaa (Qad (V:=.int .u32 0) rfl (Qaa (Qad (V:=.bool false) rfl (Qaf (Qag (Qab (Qaa (Qad (V:=.int .u32 0) rfl (Qaa (Qad (V:=I6 (-1)) rfl (Qaa (Qad (V:=.bool false) rfl (Qaf (Qag (Qag (Qab (Qaa (Qad (V:=I6 0) rfl (Qaf (Qam (QaA (fun J μ J' w'=>∃ (Jo:Env) (k:Nat) (sm:Int) (bi:Int) (av:Bool),J'=upd (upd (upd (upd (mix (sq 8 53) Jo J) 11 (I6 (k:Int))) 8 (.int .u32 sm)) 9 (I6 bi)) 10 (.bool av)/\(k<=s.ents.length)/\(sm=QfW (ofK s c n k))/\(Qe3 s c n k bi)/\(av=(s.ents.take k).any (itP c n))/\μ=s.ents.length-k/\Own w no w' [blk b1 ((vc s.known)++[(.slice a1 s.ents.length c1:Value),(.slice a2 s.ticks.length c2:Value) ]) 28]) ?_ ?_)))))))))))))))))))))))))
 ·exact ⟨_,_,0,0,-1,false,Qai (Qai (Qai (Qai (Qao (ds:=(sq 8 53)) (Agr.refl _ _)) rfl) rfl) rfl) rfl,(by omega),rfl,(.inl ⟨rfl,rfl⟩),rfl,rfl,hs⟩
 rintro μ J' w3 ⟨Jo,k,sm,bi,av,rfl,hk,hsm,hbi,hav,rfl,hs⟩
 have hbb:=Qqn hbi hk
 refine Qag (Qag (Qab (Qaa (Qac (V:=I6 (k:Int)) rfl (Qaa (Qae Qb1 rfl (Qaa (QaE (V:=.slice a1 s.ents.length c1) QdM hs 0 rfl rfl rfl (Qaa (Qa2 (n:=s.ents.length) Qc4 (Rd.own' hr1 hs) (by simp) rfl (Qaa (QaQ rfl rfl (Qaf (Qan (t:=decide ((k:Int)<((s.ents.length:Nat):Int))) rfl (fun c4=>?_) (fun c4=>?_)))))))))))))))
 ·
  replace c4:=QQ1 c4
  refine Qap (Qag (Qam (Qag (Qab (Qaa (Qae Qb1 rfl (Qaa (QaE (V:=.slice a1 s.ents.length c1) QdM hs 0 rfl rfl rfl (Qaa (Qac (V:=I6 (k:Int)) rfl (Qaa (Qaw Qc4 Qbu.1 (Rd.own' hr1 hs) rfl rfl (by omega) (by rw [QQ6];omega) (Qaa (Qa1 (j:=0) (vs:=cec (gd s.ents k)) k Qbu (Rd.own' hr1 hs) (QaT (by omega)) rfl rfl rfl (by omega) (Qaa (QaM (cs:=cec (⟨0,0,0,0,(⟨0,0⟩:Dot),0⟩:Cen)) QmZ rfl hs fun b5 w6 hs=>(Qaa (QcK (V:=.agg (cec (gd s.ents k)).toArray) (vs:=cec (gd s.ents k)) (cs':=cec (gd s.ents k)) Qbu.1 hs 1 rfl rfl rfl rfl rfl (QQ8 rfl) (Qa8 _) (QaB rfl) fun w7 hs=>(Qaf (Qag (Qag ?_)))))))))))))))))))))
  have hce:=hE0 _ (QbK (l:=s.ents) (i:=k) (by omega))
  have ⟨_,⟨hi1,hi2⟩,⟨hq1,hq2⟩,_⟩:=hce
  refine Qbj [some 25,some 26,some 27,some 28,some 29,some 30,some 31,some 32,some 33,some 34,some 35,some 36,some 37,some 38,some 39,some 40] [] [0,1,0,7,15,31,63,127,31,511,1023,2047,4095,8191,16383,32767] [pv (Pq b5 (0+0)),pv (I7 ((gd s.ents k).cart)),pv (I7 c),pv (.bool (!decide ((gd s.ents k).cart=c))),pv (.bool (!decide ((gd s.ents k).cart=c))),pg ((!decide ((gd s.ents k).cart=c)) == false) (Pq b5 (0+1)),pg ((!decide ((gd s.ents k).cart=c)) == false) (I7 ((gd s.ents k).item)),pg ((!decide ((gd s.ents k).cart=c)) == false) (I6 ((gd s.ents k).item)),pg ((!decide ((gd s.ents k).cart=c)) == false) (I6 n),pg ((!decide ((gd s.ents k).cart=c)) == false) (.bool (!decide ((gd s.ents k).item=n))),pv (.bool ((!decide ((gd s.ents k).cart=c))||(!decide ((gd s.ents k).item=n)))),pv (.bool ((!decide ((gd s.ents k).cart=c))||(!decide ((gd s.ents k).item=n)))),pg (((!decide ((gd s.ents k).cart=c))||(!decide ((gd s.ents k).item=n))) == false) (Pq b5 (0+3)),pg (((!decide ((gd s.ents k).cart=c))||(!decide ((gd s.ents k).item=n))) == false) (.int .u8 ((gd s.ents k).kind)),pg (((!decide ((gd s.ents k).cart=c))||(!decide ((gd s.ents k).item=n))) == false) (.bool (decide ((gd s.ents k).kind=4))),pv (.bool (((!decide ((gd s.ents k).cart=c))||(!decide ((gd s.ents k).item=n)))||(decide ((gd s.ents k).kind=4))))] (fun _ _=>_) [15] (by kernel_rfl) hs ⟨?_,?_,?_,?_,?_,?_,?_,?_,?_,?_,?_,?_,?_,?_,?_,?_,trivial⟩ ?_
  ·exact oa [] fun D J w hs=>Qae Qdj rfl (Zz hs)
  ·exact oa [0] fun D J w hs=>QaE (V:=.int .u16 ((gd s.ents k).cart)) Qar hs 1 rfl rfl rfl (Zz hs)
  ·exact oa [] fun D J w hs=>Qac (V:=.int .u16 c) rfl (Zz hs)
  ·exact oa [1,2] fun D J w hs=>Qch rfl rfl (Zz hs)
  ·exact oa [3] fun D J w hs=>Qac (V:=.bool (!decide ((gd s.ents k).cart=c))) rfl (Zz hs)
  ·exact og [4] fun D J w hG hs=>Qae QfR rfl (Zz hs)
  ·exact oy [4,5] [5] fun D J w hG hs=>QaE (V:=.int .u16 ((gd s.ents k).item)) Qar hs 1 rfl rfl rfl (Zz hs)
  ·exact oy [4,6] [6] fun D J w hG hs=>QbU QgQ Qg2 rfl (QbH (by omega) (by omega)) (Zz hs)
  ·exact og [4] fun D J w hG hs=>Qac (V:=.int .i64 n) rfl (Zz hs)
  ·exact oy [4,7,8] [7,8] fun D J w hG hs=>Qch rfl rfl (Zz hs)
  ·exact oa [4,9] fun D J w hs=>Qb4 (h':=!decide ((gd s.ents k).item=n)) rfl rfl rfl (Zz hs)
  ·exact oa [10] fun D J w hs=>Qac (V:=.bool ((!decide ((gd s.ents k).cart=c))||(!decide ((gd s.ents k).item=n)))) rfl (Zz hs)
  ·exact og [11] fun D J w hG hs=>Qae Qes rfl (Zz hs)
  ·exact oy [11,12] [12] fun D J w hG hs=>QaE (V:=.int .u8 ((gd s.ents k).kind)) QcN hs 1 rfl rfl rfl (Zz hs)
  ·exact oy [11,13] [13] fun D J w hG hs=>QaS rfl rfl (Zz hs)
  ·exact oa [11,14] fun D J w hs=>Qb4 (h':=decide ((gd s.ents k).kind=4)) rfl rfl rfl (Zz hs)
  rintro J1 w8 J2 hJ hs
  replace hJ:J2=upd (mix (sq 25 16) J1 _) 40 (.bool (((!decide ((gd s.ents k).cart=c))||(!decide ((gd s.ents k).item=n)))||(decide ((gd s.ents k).kind=4)))):=hJ
  subst hJ
  refine Qan (t:=((!decide ((gd s.ents k).cart=c))||(!decide ((gd s.ents k).item=n)))||(decide ((gd s.ents k).kind=4))) rfl (fun c9=>?_) (fun c9=>?_)
  ·
   refine QaF (Qab (Qaa (Qac (V:=I6 (k:Int)) rfl (Qaa (QaD (a:=(k:Int)) (b:=1) (c:=((k+1:Nat):Int)) rfl rfl (Qak (by omega) (by omega)) (Qaa (Qad (V:=I6 ((k+1:Nat):Int)) rfl (Qaf ?_))))))))
   have hit:itP c n (gd s.ents k)=false:=by
    have hq:=c9
    unfold itP
    revert hq
    cases decide ((gd s.ents k).cart=c)<;>cases decide ((gd s.ents k).item=n)<;>cases decide ((gd s.ents k).kind=4)<;>simp
   refine ⟨_,?_,_,k+1,sm,bi,av,Qai (Qai (Qai (Qai (Qao (ds:=(sq 8 53)) (by repeat (first|exact Agr.refl _ _|refine Agr.upd ?_ rfl|refine Agr.mix ?_ rfl))) rfl) rfl) rfl) rfl,(by omega),(by rw [Qqx (by omega) hit];exact hsm),(QmR hbi (by omega) hit),(by rw [← QcM (p:=itP c n) hav (by omega),hit,Bool.or_false]),rfl,hs.take 1⟩
   omega
  have c9r:=Qfk c9
  replace c9:=Qfj c9
  have c9rr:=Qfk c9
  replace c9:=Qfj c9
  replace c9:=Qbf c9
  replace c9:=QQ1 c9
  replace c9rr:=Qbf c9rr
  replace c9rr:=QQ1 c9rr
  replace c9r:=QQ2 c9r
  refine Qap (Qag (Qab (Qaa (Qad (V:=.bool true) rfl (Qaf (Qag (Qab (Qaa (Qae Qes rfl (Qaa (QaE (V:=.int .u8 ((gd s.ents k).kind)) QcN hs 1 rfl rfl rfl (Qaa (QaS rfl rfl (Qaf (Qan (t:=decide ((gd s.ents k).kind=1)) rfl (fun c10=>?_) (fun c10=>?_))))))))))))))))
  ·
   replace c10:=QQ1 c10
   refine Qab (Qaa (Qac (V:=.int .u32 sm) rfl (Qaa (Qae Qe5 rfl (Qaa (QaE (V:=I7 ((gd s.ents k).qty)) Qar hs 1 rfl rfl rfl (Qaa (QbU QgQ QkY rfl (Qgr (by omega) (by omega)) (Qaa (QaD (a:=sm) (b:=(gd s.ents k).qty) (c:=(sm+((gd s.ents k).qty))%4294967296) rfl rfl (Qj4 _) (Qaa (Qad (V:=.int .u32 ((sm+((gd s.ents k).qty))%4294967296)) rfl (Qaf (Qab (Qaa (Qac (V:=I6 (k:Int)) rfl (Qaa (QaD (a:=(k:Int)) (b:=1) (c:=((k+1:Nat):Int)) rfl rfl (Qak (by omega) (by omega)) (Qaa (Qad (V:=I6 ((k+1:Nat):Int)) rfl (Qaf ?_)))))))))))))))))))))
   have hit:itP c n (gd s.ents k)=true:=by
    unfold itP
    rw [QQ3 c9,QQ3 c9rr,QQ4 c9r];rfl
   refine ⟨_,?_,_,k+1,(sm+((gd s.ents k).qty))%4294967296,bi,true,Qai (Qai (Qai (Qai (Qao (ds:=(sq 8 53)) (by repeat (first|exact Agr.refl _ _|refine Agr.upd ?_ rfl|refine Agr.mix ?_ rfl))) rfl) rfl) rfl) rfl,(by omega),(QqX hsm (by omega) hit c10),(QoP hbi (by omega) hit c10),(by rw [← QcM (p:=itP c n) hav (by omega),hit,Bool.or_true]),rfl,hs.take 1⟩
   omega
  replace c10:=QQ2 c10
  refine Qag (QaI HM [some 49,some 50,some 51,some 52,some 53,some 54,some 55,some 56,some 57,some 58,some 59] [] [0,1,3,7,15,7,63,127,7,511,1023] [pv (I6 bi),pv (.bool (decide (bi<0))),pv (.bool (decide (bi<0))),pg ((decide (bi<0)) == false) (Pq b1 (0+16)),pg ((decide (bi<0)) == false) (.slice a1 s.ents.length c1),pg ((decide (bi<0)) == false) (I6 bi),pg ((decide (bi<0)) == false) (.pointer (some ⟨bkS (.slice a1 s.ents.length c1),ofS (.slice a1 s.ents.length c1)+bi.toNat*7,none⟩)),pg ((decide (bi<0)) == false) (.agg (cec (gd s.ents bi.toNat)).toArray),pg ((decide (bi<0)) == false) (.agg (cec (gd s.ents k)).toArray),pg ((decide (bi<0)) == false) (.bool (Qcu (gd s.ents bi.toNat) (gd s.ents k))),pv (.bool ((decide (bi<0))||(Qcu (gd s.ents bi.toNat) (gd s.ents k))))] (fun _ _=>_) [10] (by kernel_rfl) hs ⟨?_,?_,?_,?_,?_,?_,?_,?_,?_,?_,?_,trivial⟩ ?_)
  ·exact oa [] fun D J w hs=>Qac (V:=.int .i64 bi) rfl (Zz hs)
  ·exact oa [0] fun D J w hs=>QaQ rfl rfl (Zz hs)
  ·exact oa [1] fun D J w hs=>Qac (V:=.bool (decide (bi<0))) rfl (Zz hs)
  ·exact og [2] fun D J w hG hs=>Qae Qb1 rfl (Zz hs)
  ·exact oy [2,3] [3] fun D J w hG hs=>QaE (V:=.slice a1 s.ents.length c1) QdM hs 0 rfl rfl rfl (Zz hs)
  ·exact og [2] fun D J w hG hs=>Qac (V:=.int .i64 bi) rfl (Zz hs)
  ·refine oy [2,4,5] [4,5] fun D J w hG hs=>?_
   have hgd:=QQ2 (eq_of_beq (hG))
   exact Qaw Qc4 Qbu.1 (Rd.own' hr1 hs) rfl rfl (by omega) (by rw [QQ6];omega) (Zz hs)
  ·refine oy [2,6] [6] fun D J w hG hs=>?_
   have hgd:=QQ2 (eq_of_beq (hG))
   exact Qa1 (j:=0) (vs:=cec (gd s.ents bi.toNat)) bi.toNat Qbu (Rd.own' hr1 hs) (QaT (by omega)) rfl rfl rfl (by omega) (Zz hs)
  ·exact og [2] fun D J w hG hs=>QaG (cs:=cec (gd s.ents k)) Qbu hs 1 rfl rfl rfl (Zz hs)
  ·exact oy [2,7,8] [7,8] fun D J w hG hs=>Qat (vs:=[.agg (cec (gd s.ents bi.toNat)).toArray,.agg (cec (gd s.ents k)).toArray]) (V:=.bool (Qcu (gd s.ents bi.toNat) (gd s.ents k))) Qtt rfl rfl (Qpj _ (gd s.ents bi.toNat) (gd s.ents k)) hs fun _ hs=>Zz hs
  ·exact oa [2,9] fun D J w hs=>Qb4 (h':=Qcu (gd s.ents bi.toNat) (gd s.ents k)) rfl rfl rfl (Zz hs)
  rintro J1 w12 J2 hJ hs
  replace hJ:J2=upd (mix (sq 49 11) J1 _) 59 (.bool ((decide (bi<0))||(Qcu (gd s.ents bi.toNat) (gd s.ents k)))):=hJ
  subst hJ
  refine Qan (t:=(decide (bi<0))||(Qcu (gd s.ents bi.toNat) (gd s.ents k))) rfl (fun c13=>?_) (fun c13=>?_)
  ·
   refine Qab (Qaa (Qac (V:=I6 (k:Int)) rfl (Qaa (Qad (V:=I6 (k:Int)) rfl (Qaf (Qab (Qaa (Qac (V:=I6 (k:Int)) rfl (Qaa (QaD (a:=(k:Int)) (b:=1) (c:=((k+1:Nat):Int)) rfl rfl (Qak (by omega) (by omega)) (Qaa (Qad (V:=I6 ((k+1:Nat):Int)) rfl (Qaf ?_)))))))))))))
   have hit:itP c n (gd s.ents k)=true:=by
    unfold itP
    rw [QQ3 c9,QQ3 c9rr,QQ4 c9r];rfl
   refine ⟨_,?_,_,k+1,sm,(k:Int),true,Qai (Qai (Qai (Qai (Qao (ds:=(sq 8 53)) (by repeat (first|exact Agr.refl _ _|refine Agr.upd ?_ rfl|refine Agr.mix ?_ rfl))) rfl) rfl) rfl) rfl,(by omega),(Qqr hsm (by omega) hit c10),(Qmv hbi (by omega) hit c10 c13),(by rw [← QcM (p:=itP c n) hav (by omega),hit,Bool.or_true]),rfl,hs.take 1⟩
   omega
  have c13r:=Qfk c13
  replace c13:=Qfj c13
  replace c13:=QQ2 c13
  refine Qap (Qab (Qaa (Qac (V:=I6 (k:Int)) rfl (Qaa (QaD (a:=(k:Int)) (b:=1) (c:=((k+1:Nat):Int)) rfl rfl (Qak (by omega) (by omega)) (Qaa (Qad (V:=I6 ((k+1:Nat):Int)) rfl (Qaf ?_))))))))
  have hit:itP c n (gd s.ents k)=true:=by
   unfold itP
   rw [QQ3 c9,QQ3 c9rr,QQ4 c9r];rfl
  refine ⟨_,?_,_,k+1,sm,bi,true,Qai (Qai (Qai (Qai (Qao (ds:=(sq 8 53)) (by repeat (first|exact Agr.refl _ _|refine Agr.upd ?_ rfl|refine Agr.mix ?_ rfl))) rfl) rfl) rfl) rfl,(by omega),(Qqr hsm (by omega) hit c10),(QlG hbi (by omega) hit c10 (by rw [QQ4 c13,c13r];rfl)),(by rw [← QcM (p:=itP c n) hav (by omega),hit,Bool.or_true]),rfl,hs.take 1⟩
  omega
 replace c4:=QQ2 c4
 refine QaF (Qag (Qag ?_))
 have hbb:=Qqn hbi hk
 refine Qab (Qaa (Qac (V:=I6 bi) rfl (Qaa (Qcz rfl rfl (Qaf (Qan (t:=decide (0<=bi)) rfl (fun c14=>?_) (fun c14=>?_)))))))
 ·
  replace c14:=QQ1 c14
  have ⟨hq1,hq2⟩:=(hE0 _ (QbK (l:=s.ents) (i:=bi.toNat) (by omega))).2.2.1
  refine Qab (Qaa (Qac (V:=.int .u32 sm) rfl (Qaa (Qae Qb1 rfl (Qaa (QaE (V:=.slice a1 s.ents.length c1) QdM hs 0 rfl rfl rfl (Qaa (Qac (V:=I6 bi) rfl (Qaa (Qaw Qc4 Qbu.1 (Rd.own' hr1 hs) rfl rfl (by omega) (by rw [QQ6];omega) (Qaa (Qae Qe5 rfl (Qaa (QaR (j:=2) (V:=I7 ((gd s.ents bi.toNat).qty)) bi.toNat Qar (Rd.own' hr1 hs) (QaT (by omega)) rfl rfl (by omega) (Qaa (QbU QgQ QkY rfl (Qgr (by omega) (by omega)) (Qaa (QaD (a:=sm) (b:=(gd s.ents bi.toNat).qty) (c:=(sm+((gd s.ents bi.toNat).qty))%4294967296) rfl rfl (Qj4 _) (Qaa (Qad (V:=.int .u32 ((sm+((gd s.ents bi.toNat).qty))%4294967296)) rfl (Qaf (Qag (Qab (Qaa (Qac (V:=.int .u32 ((sm+((gd s.ents bi.toNat).qty))%4294967296)) rfl (Qaa (Qac (V:=.bool av) rfl (Qaa (Qad (V:=.int .u32 ((sm+((gd s.ents bi.toNat).qty))%4294967296)) rfl (Qaa (Qad (V:=.bool av) rfl (Qaf (Qau ?_)))))))))))))))))))))))))))))))))
  refine ⟨_,Qbs (U:=.int .u32 ((sm+((gd s.ents bi.toNat).qty))%4294967296)) (V:=.bool av) Tryz.results102 rfl rfl,?_⟩
  have hA:av=QdX s c n:=by rw [hav,List.take_of_length_le (by omega)];rfl
  have hQ:=Qot hsm hbi (by omega) c14
  refine Zr hs ?_
  rw [hQ,hA]
 replace c14:=QQ2 c14
 refine Qap (Qag (Qab (Qaa (Qac (V:=.int .u32 sm) rfl (Qaa (Qac (V:=.bool av) rfl (Qaa (Qad (V:=.int .u32 sm) rfl (Qaa (Qad (V:=.bool av) rfl (Qaf (Qau ?_))))))))))))
 refine ⟨_,Qbs (U:=.int .u32 sm) (V:=.bool av) Tryz.results102 rfl rfl,?_⟩
 have hA:av=QdX s c n:=by rw [hav,List.take_of_length_le (by omega)];rfl
 have hQ:=QoT hE0 hsm hbi (by omega) c14
 refine Zr hs ?_
 rw [hQ,hA]
end Tt
end Go.Proofs
namespace Go.Proofs
open Go Go.Vx Go.RowKit
namespace Tt
theorem Qi3 (w:World) (s:Sta) (a1:Option Addr) (c1:Nat) (a2:Option Addr) (c2:Nat) (c:Int) (hok:Qdz s) (hr1:Rd w (.slice a1 s.ents.length c1) 7 (s.ents.map cec)) (hr2:Rd w (.slice a2 s.ticks.length c2) 2 (s.ticks.map lsc)):Calls Tryz.prog 58 #[.agg ((vc s.known)++[(.slice a1 s.ents.length c1:Value),(.slice a2 s.ticks.length c2:Value) ]).toArray,.int .u16 c] w (fun e w'=>∃ x:Option Addr × Nat,e = .returned (.agg [.int .u16 (Qay s c (Qas s)).cart,.slice x.1 (Qay s c (Qas s)).lines.length x.2,.bool (Qay s c (Qas s)).out,.int .u32 (Qay s c (Qas s)).tick].toArray)/\Own w no w' [row (.slice x.1 (Qay s c (Qas s)).lines.length x.2) ((Qay s c (Qas s)).lines.map lc) 127 2]/\True):=by
 refine Qaj (n:=118) Tryz.func58 rfl Tryz.ntmps58 rfl ?_
 have hs:=Own.start w
 have ⟨hv0,hE0,hT0⟩:=hok
 have hn1:=hr1.sml
 refine Qag (Qab (Qaa (QaN (V:=.agg ((vc s.known)++[(.slice a1 s.ents.length c1:Value),(.slice a2 s.ticks.length c2:Value) ]).toArray) (cs:=(vc s.known)++[(.slice a1 s.ents.length c1:Value),(.slice a2 s.ticks.length c2:Value) ]) rfl rfl hs fun b1 w2 hs=>(Qaa (QaM (cs:=[I7 0,.slice none 0 0,.bool false,.int .u32 0]) Qis rfl hs fun b3 w4 hs=>(Qaf (Qag (Qab (Qaa (Qac (V:=I7 c) rfl (Qaa (Qbw (vs:=[(0,I7 c)]) (cs:=[I7 c,.slice none 0 0,.bool false,.int .u32 0]) QrK (rfl) rfl (Qaa (QaM (cs:=[I7 0,.slice none 0 0,.bool false,.int .u32 0]) Qis rfl hs fun b5 w6 hs=>(Qaa (QcK (V:=.agg #[I7 c,.slice none 0 0,.bool false,.int .u32 0]) (vs:=[I7 c,.slice none 0 0,.bool false,.int .u32 0]) (cs':=[I7 c,.slice none 0 0,.bool false,.int .u32 0]) Qcn.1 hs 2 rfl rfl rfl rfl rfl (QQ8 rfl) (Qav rfl (Qav rfl (Qav rfl (Qav rfl Qbk)))) (QaB rfl) fun w7 hs=>?_))))))))))))))))
 replace hs:Own w no w7 [blk b1 ((vc s.known)++[(.slice a1 s.ents.length c1:Value),(.slice a2 s.ticks.length c2:Value) ]) 28,blk b3 [I7 0,.slice none 0 0,.bool false,.int .u32 0] 49,blk b5 [I7 c,.slice none 0 0,.bool false,.int .u32 0] 49]:=hs
 refine Qaf (Qag (Qag (Qab (Qaa (QaG (cs:=(vc s.known)++[(.slice a1 s.ents.length c1:Value),(.slice a2 s.ticks.length c2:Value) ]) Qd9 hs 0 rfl rfl rfl (Qaa (Qat (vs:=[.agg ((vc s.known)++[(.slice a1 s.ents.length c1:Value),(.slice a2 s.ticks.length c2:Value) ]).toArray]) (V:=.bool (Qas s)) Qqj rfl rfl ?hc hs fun w8 hs=>?_)))))))
 case hc=>exact (Qg8 _ s a1 c1 a2 c2 hok (Rd.own' hr1 hs) (Rd.own' hr2 hs))
 refine Qaa (Qbz rfl (Qaf (Qan (t:=!(Qas s)) rfl (fun c9=>?_) (fun c9=>?_))))
 ·
  replace c9:=Qbn c9
  refine Qag (Qab (Qaa (QaG (cs:=[I7 c,.slice none 0 0,.bool false,.int .u32 0]) Qcn hs 2 rfl rfl rfl (Qaa (QcK (V:=.agg #[I7 c,.slice none 0 0,.bool false,.int .u32 0]) (vs:=[I7 c,.slice none 0 0,.bool false,.int .u32 0]) (cs':=[I7 c,.slice none 0 0,.bool false,.int .u32 0]) Qcn.1 hs 1 rfl rfl rfl rfl rfl (QQ8 rfl) (Qav rfl (Qav rfl (Qav rfl (Qav rfl Qbk)))) (QaB rfl) fun w10 hs=>(Qaf (Qau ?_)))))))
  refine ⟨_,QcH (cs:=[I7 c,.slice none 0 0,.bool false,.int .u32 0]) Tryz.results58 Qcn hs 1 rfl rfl rfl,?_⟩
  rw [c9]
  exact ⟨(none,0),rfl,(hs.take 0).more _ (Qbg _ _ 127 2),trivial⟩
 replace c9:=Qbf c9
 refine Qap (Qag (Qab (Qaa (QaG (cs:=(vc s.known)++[(.slice a1 s.ents.length c1:Value),(.slice a2 s.ticks.length c2:Value) ]) Qd9 hs 0 rfl rfl rfl (Qaa (Qac (V:=I7 c) rfl (Qaa (Qat (vs:=[.agg ((vc s.known)++[(.slice a1 s.ents.length c1:Value),(.slice a2 s.ticks.length c2:Value) ]).toArray,I7 c]) (V:=.tuple #[.int .u32 ((QaC s.ticks c).getD 0),.bool ((QaC s.ticks c).isSome)]) Qp3 rfl rfl ?hc hs fun w11 hs=>?_))))))))
 case hc=>exact (Qj7 _ s a1 c1 a2 c2 c (Rd.own' hr1 hs) (Rd.own' hr2 hs))
 refine Qaa (Qac (V:=.tuple #[.int .u32 ((QaC s.ticks c).getD 0),.bool ((QaC s.ticks c).isSome)]) rfl (Qaa (Qax (V:=.int .u32 ((QaC s.ticks c).getD 0)) rfl rfl (Qaa (Qax (V:=.bool ((QaC s.ticks c).isSome)) rfl rfl (Qaa (Qad (V:=.int .u32 ((QaC s.ticks c).getD 0)) rfl (Qaa (Qad (V:=.bool ((QaC s.ticks c).isSome)) rfl (Qaf (Qag (Qab (Qaa (Qac (V:=.int .u32 ((QaC s.ticks c).getD 0)) rfl (Qaa (Qae Qji rfl (Qaa (Qc7 (V:=.int .u32 ((QaC s.ticks c).getD 0)) (cs':=[I7 c,.slice none 0 0,.bool false,.int .u32 ((QaC s.ticks c).getD 0)]) Qa6 hs 2 rfl rfl rfl rfl (QQ8 rfl) rfl fun w12 hs=>(Qaf (Qag (Qag (Qab (Qaa (Qad (V:=I6 0) rfl (Qaf (Qam (QaA (fun J μ J' w'=>∃ (Jo:Env) (k:Nat) (ou:Bool),J'=upd (mix ([8]++sq 32 29) Jo J) 8 (I6 (k:Int))/\(k<=s.ents.length)/\(ou=(s.ents.take k).any (fun e:Cen=>decide (e.cart=c)&&decide (e.kind=4)))/\μ=s.ents.length-k/\Own w no w' [blk b1 ((vc s.known)++[(.slice a1 s.ents.length c1:Value),(.slice a2 s.ticks.length c2:Value) ]) 28,blk b3 [I7 0,.slice none 0 0,.bool false,.int .u32 0] 49,blk b5 [I7 c,.slice none 0 0,.bool ou,.int .u32 ((QaC s.ticks c).getD 0)] 49]) ?_ ?_)))))))))))))))))))))))))))
 ·exact ⟨_,_,0,false,Qai (Qao (ds:=([8]++sq 32 29)) (Agr.refl _ _)) rfl,(by omega),rfl,rfl,hs⟩
 rintro μ J' w13 ⟨Jo,k,ou,rfl,hk,hob,rfl,hs⟩
 refine Qag (Qag (Qab (Qaa (Qac (V:=I6 (k:Int)) rfl (Qaa (Qae Qb1 rfl (Qaa (QaE (V:=.slice a1 s.ents.length c1) QdM hs 0 rfl rfl rfl (Qaa (Qa2 (n:=s.ents.length) Qc4 (Rd.own' hr1 hs) (by simp) rfl (Qaa (QaQ rfl rfl (Qaf (Qan (t:=decide ((k:Int)<((s.ents.length:Nat):Int))) rfl (fun c14=>?_) (fun c14=>?_)))))))))))))))
 ·
  replace c14:=QQ1 c14
  refine Qap (Qag (Qam (Qbj [some 39,some 40,some 41,some 42,some 43,some 44,some 45,some 46,some 47,some 48,some 49,some 50,some 51,some 52,some 53,some 54,some 55,some 56,some 57,some 58,some 59,some 60,none] [] [0,1,3,7,15,7,63,127,255,7,1023,2047,4095,8191,4095,32767,65535,131071,262143,524287,1048575,2097151,4194303] [pv (Pq b5 (0+2)),pv (.bool ou),pv (.bool ou),pg (ou == false) (Pq b1 (0+16)),pg (ou == false) (.slice a1 s.ents.length c1),pg (ou == false) (I6 (k:Int)),pg (ou == false) (.pointer (some ⟨bkS (.slice a1 s.ents.length c1),ofS (.slice a1 s.ents.length c1)+(k:Int).toNat*7,none⟩)),pg (ou == false) (.pointer (some ⟨bkS (.slice a1 s.ents.length c1),ofS (.slice a1 s.ents.length c1)+(k:Int).toNat*7+0,none⟩)),pg (ou == false) (I7 ((gd s.ents k).cart)),pg (ou == false) (I7 c),pg (ou == false) (.bool (decide ((gd s.ents k).cart=c))),pg (ou == false) (.bool (decide ((gd s.ents k).cart=c))),pg ((ou == false)&&((decide ((gd s.ents k).cart=c)) == true)) (Pq b1 (0+16)),pg ((ou == false)&&((decide ((gd s.ents k).cart=c)) == true)) (.slice a1 s.ents.length c1),pg ((ou == false)&&((decide ((gd s.ents k).cart=c)) == true)) (I6 (k:Int)),pg ((ou == false)&&((decide ((gd s.ents k).cart=c)) == true)) (.pointer (some ⟨bkS (.slice a1 s.ents.length c1),ofS (.slice a1 s.ents.length c1)+(k:Int).toNat*7,none⟩)),pg ((ou == false)&&((decide ((gd s.ents k).cart=c)) == true)) (.pointer (some ⟨bkS (.slice a1 s.ents.length c1),ofS (.slice a1 s.ents.length c1)+(k:Int).toNat*7+3,none⟩)),pg ((ou == false)&&((decide ((gd s.ents k).cart=c)) == true)) (.int .u8 ((gd s.ents k).kind)),pg ((ou == false)&&((decide ((gd s.ents k).cart=c)) == true)) (.bool (decide ((gd s.ents k).kind=4))),pg (ou == false) (.bool ((decide ((gd s.ents k).cart=c))&&(decide ((gd s.ents k).kind=4)))),pv (.bool (ou||((decide ((gd s.ents k).cart=c))&&(decide ((gd s.ents k).kind=4))))),pv (Pq b5 (0+2)),pn] (fun D J=>[blk b1 ((vc s.known)++[(.slice a1 s.ents.length c1:Value),(.slice a2 s.ticks.length c2:Value) ]) 28,blk b3 [I7 0,.slice none 0 0,.bool false,.int .u32 0] 49,cond (D 22) (blk b5 [I7 c,.slice none 0 0,.bool (ou||((decide ((gd s.ents k).cart=c))&&(decide ((gd s.ents k).kind=4)))),.int .u32 ((QaC s.ticks c).getD 0)] 49) (blk b5 [I7 c,.slice none 0 0,.bool ou,.int .u32 ((QaC s.ticks c).getD 0)] 49)]) [] (by kernel_rfl) hs ⟨?_,?_,?_,?_,?_,?_,?_,?_,?_,?_,?_,?_,?_,?_,?_,?_,?_,?_,?_,?_,?_,?_,?_,trivial⟩ ?_)))
  ·exact oa [] fun D J w hs=>Qae Qdb rfl (Zz hs)
  ·exact ob [0] [22] rfl rfl fun D J w hs=>QaE (V:=.bool ou) Qmh hs 2 rfl rfl rfl (Zz hs)
  ·exact oa [1] fun D J w hs=>Qac (V:=.bool ou) rfl (Zz hs)
  ·exact og [2] fun D J w hG hs=>Qae Qb1 rfl (Zz hs)
  ·exact oy [2,3] [3] fun D J w hG hs=>QaE (V:=.slice a1 s.ents.length c1) QdM hs 0 rfl rfl rfl (Zz hs)
  ·exact og [2] fun D J w hG hs=>Qac (V:=.int .i64 (k:Int)) rfl (Zz hs)
  ·exact oy [2,4,5] [4,5] fun D J w hG hs=>Qaw Qc4 Qbu.1 (Rd.own' hr1 hs) rfl rfl (by omega) (by rw [QQ6];omega) (Zz hs)
  ·exact oy [2,6] [6] fun D J w hG hs=>Qae Qdj rfl (Zz hs)
  ·exact oy [2,7] [7] fun D J w hG hs=>QaR (j:=0) (V:=.int .u16 ((gd s.ents k).cart)) k Qar (Rd.own' hr1 hs) (QaT (by omega)) rfl rfl (by omega) (Zz hs)
  ·exact og [2] fun D J w hG hs=>Qac (V:=.int .u16 c) rfl (Zz hs)
  ·exact oy [2,8,9] [8,9] fun D J w hG hs=>QaS rfl rfl (Zz hs)
  ·exact oy [2,10] [10] fun D J w hG hs=>Qac (V:=.bool (decide ((gd s.ents k).cart=c))) rfl (Zz hs)
  ·exact og [11] fun D J w hG hs=>Qae Qb1 rfl (Zz hs)
  ·exact oy [11,12] [12] fun D J w hG hs=>QaE (V:=.slice a1 s.ents.length c1) QdM hs 0 rfl rfl rfl (Zz hs)
  ·exact og [11] fun D J w hG hs=>Qac (V:=.int .i64 (k:Int)) rfl (Zz hs)
  ·refine oy [11,13,14] [13,14] fun D J w hG hs=>?_
   have hgd1:=QQ1 (eq_of_beq (QbF (hG)))
   exact Qaw Qc4 Qbu.1 (Rd.own' hr1 hs) rfl rfl (by omega) (by rw [QQ6];omega) (Zz hs)
  ·exact oy [11,15] [15] fun D J w hG hs=>Qae Qes rfl (Zz hs)
  ·refine oy [11,16] [16] fun D J w hG hs=>?_
   have hgd1:=QQ1 (eq_of_beq (QbF (hG)))
   exact QaR (j:=3) (V:=.int .u8 ((gd s.ents k).kind)) k QcN (Rd.own' hr1 hs) (QaT (by omega)) rfl rfl (by omega) (Zz hs)
  ·exact oy [11,17] [17] fun D J w hG hs=>QaS rfl rfl (Zz hs)
  ·exact oy [2,11,18] [11] fun D J w hG hs=>Qgz (h':=decide ((gd s.ents k).kind=4)) (G:=(ou == false)) hG rfl rfl rfl (Zz hs)
  ·exact oa [2,19] fun D J w hs=>Qb4 (h':=(decide ((gd s.ents k).cart=c))&&(decide ((gd s.ents k).kind=4))) rfl rfl rfl (Zz hs)
  ·exact oa [] fun D J w hs=>Qae Qdb rfl (Zz hs)
  ·exact oa [20,21] fun D J w hs=>Qc7 (V:=.bool (ou||((decide ((gd s.ents k).cart=c))&&(decide ((gd s.ents k).kind=4))))) (cs':=[.int .u16 c,.slice none 0 0,.bool (ou||((decide ((gd s.ents k).cart=c))&&(decide ((gd s.ents k).kind=4)))),.int .u32 ((QaC s.ticks c).getD 0)]) Qmh hs 2 rfl rfl rfl rfl (QQ8 rfl) rfl fun _ hs=>⟨trivial,hs⟩
  rintro J1 w16 J2 hJ hs
  replace hJ:J2=mix (sq 39 22) J1 _:=hJ
  replace hs:Own w no w16 [blk b1 ((vc s.known)++[(.slice a1 s.ents.length c1:Value),(.slice a2 s.ticks.length c2:Value) ]) 28,blk b3 [I7 0,.slice none 0 0,.bool false,.int .u32 0] 49,blk b5 [I7 c,.slice none 0 0,.bool (ou||((decide ((gd s.ents k).cart=c))&&(decide ((gd s.ents k).kind=4)))),.int .u32 ((QaC s.ticks c).getD 0)] 49]:=hs
  subst hJ
  refine Qab (Qaa (Qac (V:=I6 (k:Int)) rfl (Qaa (QaD (a:=(k:Int)) (b:=1) (c:=((k+1:Nat):Int)) rfl rfl (Qak (by omega) (by omega)) (Qaa (Qad (V:=I6 ((k+1:Nat):Int)) rfl (Qaf ?_)))))))
  refine ⟨_,?_,_,k+1,ou||((decide ((gd s.ents k).cart=c))&&(decide ((gd s.ents k).kind=4))),Qai (Qao (ds:=([8]++sq 32 29)) (by repeat (first|exact Agr.refl _ _|refine Agr.upd ?_ rfl|refine Agr.mix ?_ rfl))) rfl,(by omega),(QcM (p:=(fun e:Cen=>decide (e.cart=c)&&decide (e.kind=4))) hob (by omega)),rfl,hs.take 3⟩
  omega
 replace c14:=QQ2 c14
 refine QaF (Qag (Qab (Qaa (Qad (V:=.slice none 0 0) rfl (Qaf (Qag (Qab (Qaa (Qad (V:=I6 (-1)) rfl (Qaf (Qam ?_)))))))))))
 replace hs:=hs.more (row (.slice none 0 0) (List.map lc []) 127 2) (Qbg _ _ _ _)
 rw [Qb6 (by omega)] at hob
 have hc0:∀ x∈Qdm s c s.ents.length,0<=x/\x<65536:=fun x hx=>by
  obtain ⟨e,he,e2⟩:=List.mem_map.1 (List.mem_filter.1 hx).1
  rw [← e2];exact (hE0 e (List.mem_of_mem_take he)).2.1
 have hc1:∀ x∈Qdm s c s.ents.length,0<=x:=fun x hx=>(hc0 x hx).1
 refine QaA (fun J μ J' w'=>∃ (Jo:Env) (last:Int) (I:List Int) (an6:Option Addr) (cn6:Nat) (ol:List Line),J'=upd (upd (mix (sq 9 9++sq 61 57) Jo J) 10 (I6 last)) 9 (.slice an6 ol.length cn6)/\(-1<=last/\last<65536)/\(((ol.length:Nat):Int)<=last+1)/\(UpTo (Qdm s c s.ents.length) last I)/\(ol=I.map (Qg3 s c))/\μ=(65536-last).toNat/\Own w no w' [blk b1 ((vc s.known)++[(.slice a1 s.ents.length c1:Value),(.slice a2 s.ticks.length c2:Value) ]) 28,blk b3 [I7 0,.slice none 0 0,.bool false,.int .u32 0] 49,blk b5 [I7 c,.slice none 0 0,.bool ou,.int .u32 ((QaC s.ticks c).getD 0)] 49,row (.slice an6 ol.length cn6) (ol.map lc) 127 2]) ?_ ?_
 ·exact ⟨_,_,-1,[],none,0,[],Qai (Qai (Qao (ds:=(sq 9 9++sq 61 57)) (Agr.refl _ _)) rfl) rfl,(by omega),(by simp),(Qko hc1),rfl,rfl,hs⟩
 rintro μ J' w17 ⟨Jo,last,I,an6,cn6,ol,rfl,hla,hll,hup,hol,rfl,hs⟩
 refine Qam (Qag (Qab (Qaa (Qad (V:=I6 (-1)) rfl (Qaf (Qag (Qag (Qab (Qaa (Qad (V:=I6 0) rfl (Qaf (Qam (QaA (fun J μ J' w'=>∃ (Jo:Env) (k3:Nat) (nx:Int),J'=upd (upd (mix ([11,12,13,14,15]++sq 61 37) Jo J) 12 (I6 (k3:Int))) 11 (I6 nx)/\(k3<=s.ents.length)/\(nx=Qbx last (Qdm s c k3))/\(-1<=nx/\nx<65536)/\μ=s.ents.length-k3/\Own w no w' [blk b1 ((vc s.known)++[(.slice a1 s.ents.length c1:Value),(.slice a2 s.ticks.length c2:Value) ]) 28,blk b3 [I7 0,.slice none 0 0,.bool false,.int .u32 0] 49,blk b5 [I7 c,.slice none 0 0,.bool ou,.int .u32 ((QaC s.ticks c).getD 0)] 49,row (.slice an6 ol.length cn6) (ol.map lc) 127 2]) ?_ ?_)))))))))))))
 ·exact ⟨_,_,0,-1,Qai (Qai (Qao (ds:=([11,12,13,14,15]++sq 61 37)) (Agr.refl _ _)) rfl) rfl,(by omega),rfl,(by omega),rfl,hs⟩
 rintro μ J' w18 ⟨Jo,k3,nx,rfl,hk3,hmin,hnx,rfl,hs⟩
 refine Qag (Qag (Qab (Qaa (Qac (V:=I6 (k3:Int)) rfl (Qaa (Qae Qb1 rfl (Qaa (QaE (V:=.slice a1 s.ents.length c1) QdM hs 0 rfl rfl rfl (Qaa (Qa2 (n:=s.ents.length) Qc4 (Rd.own' hr1 hs) (by simp) rfl (Qaa (QaQ rfl rfl (Qaf (Qan (t:=decide ((k3:Int)<((s.ents.length:Nat):Int))) rfl (fun c19=>?_) (fun c19=>?_)))))))))))))))
 ·
  replace c19:=QQ1 c19
  refine Qap (Qag (Qam (Qag ?_)))
  have ⟨_,⟨hi1,hi2⟩,_⟩:=hE0 _ (QbK (l:=s.ents) (i:=k3) (by omega))
  refine Qab (Qaa (Qae Qb1 rfl (Qaa (QaE (V:=.slice a1 s.ents.length c1) QdM hs 0 rfl rfl rfl (Qaa (Qac (V:=I6 (k3:Int)) rfl (Qaa (Qaw Qc4 Qbu.1 (Rd.own' hr1 hs) rfl rfl (by omega) (by rw [QQ6];omega) (Qaa (Qae QfR rfl (Qaa (QaR (j:=1) (V:=I7 ((gd s.ents k3).item)) k3 Qar (Rd.own' hr1 hs) (QaT (by omega)) rfl rfl (by omega) (Qaa (QbU QgQ Qg2 rfl (QbH (by omega) (by omega)) (Qaa (Qad (V:=I6 ((gd s.ents k3).item)) rfl (Qaf (Qag (Qab (Qaa (QaG (cs:=(vc s.known)++[(.slice a1 s.ents.length c1:Value),(.slice a2 s.ticks.length c2:Value) ]) Qd9 hs 0 rfl rfl rfl (Qaa (Qac (V:=I7 c) rfl (Qaa (Qac (V:=I6 ((gd s.ents k3).item)) rfl (Qaa (Qat (vs:=[.agg ((vc s.known)++[(.slice a1 s.ents.length c1:Value),(.slice a2 s.ticks.length c2:Value) ]).toArray,I7 c,I6 ((gd s.ents k3).item)]) (V:=.tuple #[.int .u32 (QcT (QbG s c ((gd s.ents k3).item))),.bool (QdX s c ((gd s.ents k3).item))]) Qqy rfl rfl ?hc hs fun w20 hs=>?_)))))))))))))))))))))))))))
  case hc=>exact (QnE _ s a1 c1 a2 c2 c ((gd s.ents k3).item) hE0 (Rd.own' hr1 hs) (Rd.own' hr2 hs))
  refine Qaa (Qac (V:=.tuple #[.int .u32 (QcT (QbG s c ((gd s.ents k3).item))),.bool (QdX s c ((gd s.ents k3).item))]) rfl (Qaa (Qax (V:=.int .u32 (QcT (QbG s c ((gd s.ents k3).item)))) rfl rfl (Qaa (Qax (V:=.bool (QdX s c ((gd s.ents k3).item))) rfl rfl (Qaa (Qad (V:=.int .u32 (QcT (QbG s c ((gd s.ents k3).item)))) rfl (Qaa (Qad (V:=.bool (QdX s c ((gd s.ents k3).item))) rfl (Qaf (Qag (Qbj [some 82,some 83,some 84,some 85,some 86,some 87,some 88,some 89,some 90,some 91,some 92,some 93,some 94,some 95,some 96] [] [0,1,3,3,15,31,63,127,255,511,1023,1023,4095,8191,16383] [pv (.bool (QdX s c ((gd s.ents k3).item))),pv (.bool (QdX s c ((gd s.ents k3).item))),pg ((QdX s c ((gd s.ents k3).item)) == true) (I6 ((gd s.ents k3).item)),pg ((QdX s c ((gd s.ents k3).item)) == true) (I6 last),pg ((QdX s c ((gd s.ents k3).item)) == true) (.bool (decide (last<(gd s.ents k3).item))),pv (.bool ((QdX s c ((gd s.ents k3).item))&&(decide (last<(gd s.ents k3).item)))),pv (.bool ((QdX s c ((gd s.ents k3).item))&&(decide (last<(gd s.ents k3).item)))),pg (((QdX s c ((gd s.ents k3).item))&&(decide (last<(gd s.ents k3).item))) == true) (I6 nx),pg (((QdX s c ((gd s.ents k3).item))&&(decide (last<(gd s.ents k3).item))) == true) (.bool (decide (nx<0))),pg (((QdX s c ((gd s.ents k3).item))&&(decide (last<(gd s.ents k3).item))) == true) (.bool (decide (nx<0))),pg ((((QdX s c ((gd s.ents k3).item))&&(decide (last<(gd s.ents k3).item))) == true)&&((decide (nx<0)) == false)) (I6 ((gd s.ents k3).item)),pg ((((QdX s c ((gd s.ents k3).item))&&(decide (last<(gd s.ents k3).item))) == true)&&((decide (nx<0)) == false)) (I6 nx),pg ((((QdX s c ((gd s.ents k3).item))&&(decide (last<(gd s.ents k3).item))) == true)&&((decide (nx<0)) == false)) (.bool (decide ((gd s.ents k3).item<nx))),pg (((QdX s c ((gd s.ents k3).item))&&(decide (last<(gd s.ents k3).item))) == true) (.bool ((decide (nx<0))||(decide ((gd s.ents k3).item<nx)))),pv (.bool (((QdX s c ((gd s.ents k3).item))&&(decide (last<(gd s.ents k3).item)))&&((decide (nx<0))||(decide ((gd s.ents k3).item<nx)))))] (fun _ _=>_) [14] (by kernel_rfl) hs ⟨?_,?_,?_,?_,?_,?_,?_,?_,?_,?_,?_,?_,?_,?_,?_,trivial⟩ ?_))))))))))))
  ·exact oa [] fun D J w hs=>Qac (V:=.bool (QdX s c ((gd s.ents k3).item))) rfl (Zz hs)
  ·exact oa [0] fun D J w hs=>Qac (V:=.bool (QdX s c ((gd s.ents k3).item))) rfl (Zz hs)
  ·exact og [1] fun D J w hG hs=>Qac (V:=.int .i64 ((gd s.ents k3).item)) rfl (Zz hs)
  ·exact og [1] fun D J w hG hs=>Qac (V:=.int .i64 last) rfl (Zz hs)
  ·exact oy [1,2,3] [2,3] fun D J w hG hs=>QbY rfl rfl (Zz hs)
  ·exact oa [1,4] fun D J w hs=>Qa4 (h':=decide (last<(gd s.ents k3).item)) rfl rfl rfl (Zz hs)
  ·exact oa [5] fun D J w hs=>Qac (V:=.bool ((QdX s c ((gd s.ents k3).item))&&(decide (last<(gd s.ents k3).item)))) rfl (Zz hs)
  ·exact og [6] fun D J w hG hs=>Qac (V:=.int .i64 nx) rfl (Zz hs)
  ·exact oy [6,7] [7] fun D J w hG hs=>QaQ rfl rfl (Zz hs)
  ·exact oy [6,8] [8] fun D J w hG hs=>Qac (V:=.bool (decide (nx<0))) rfl (Zz hs)
  ·exact og [9] fun D J w hG hs=>Qac (V:=.int .i64 ((gd s.ents k3).item)) rfl (Zz hs)
  ·exact og [9] fun D J w hG hs=>Qac (V:=.int .i64 nx) rfl (Zz hs)
  ·exact oy [9,10,11] [10,11] fun D J w hG hs=>QaQ rfl rfl (Zz hs)
  ·exact oy [6,9,12] [9] fun D J w hG hs=>QtF (h':=decide ((gd s.ents k3).item<nx)) (G:=(((QdX s c ((gd s.ents k3).item))&&(decide (last<(gd s.ents k3).item))) == true)) hG rfl rfl rfl (Zz hs)
  ·exact oa [6,13] fun D J w hs=>Qa4 (h':=(decide (nx<0))||(decide ((gd s.ents k3).item<nx))) rfl rfl rfl (Zz hs)
  rintro J1 w21 J2 hJ hs
  replace hJ:J2=upd (mix (sq 82 15) J1 _) 96 (.bool (((QdX s c ((gd s.ents k3).item))&&(decide (last<(gd s.ents k3).item)))&&((decide (nx<0))||(decide ((gd s.ents k3).item<nx))))):=hJ
  subst hJ
  refine Qan (t:=((QdX s c ((gd s.ents k3).item))&&(decide (last<(gd s.ents k3).item)))&&((decide (nx<0))||(decide ((gd s.ents k3).item<nx)))) rfl (fun c22=>?_) (fun c22=>?_)
  ·
   have c22r:=QbF c22
   replace c22:=QbD c22
   have c22rr:=QbF c22
   replace c22:=QbD c22
   replace c22rr:=QQ1 c22rr
   refine Qab (Qaa (Qac (V:=I6 ((gd s.ents k3).item)) rfl (Qaa (Qad (V:=I6 ((gd s.ents k3).item)) rfl (Qaf (Qab (Qaa (Qac (V:=I6 (k3:Int)) rfl (Qaa (QaD (a:=(k3:Int)) (b:=1) (c:=((k3+1:Nat):Int)) rfl rfl (Qak (by omega) (by omega)) (Qaa (Qad (V:=I6 ((k3+1:Nat):Int)) rfl (Qaf ?_)))))))))))))
   refine ⟨_,?_,_,k3+1,(gd s.ents k3).item,Qai (Qai (Qao (ds:=([11,12,13,14,15]++sq 61 37)) (by repeat (first|exact Agr.refl _ _|refine Agr.upd ?_ rfl|refine Agr.mix ?_ rfl))) rfl) rfl,(by omega),(Qpy hmin (by omega) c22 c22rr (by have:=c22r;simp at this;omega)),(by omega),rfl,hs.take 4⟩
   omega
  refine Qap (Qab (Qaa (Qac (V:=I6 (k3:Int)) rfl (Qaa (QaD (a:=(k3:Int)) (b:=1) (c:=((k3+1:Nat):Int)) rfl rfl (Qak (by omega) (by omega)) (Qaa (Qad (V:=I6 ((k3+1:Nat):Int)) rfl (Qaf ?_))))))))
  refine ⟨_,?_,_,k3+1,nx,Qai (Qai (Qao (ds:=([11,12,13,14,15]++sq 61 37)) (by repeat (first|exact Agr.refl _ _|refine Agr.upd ?_ rfl|refine Agr.mix ?_ rfl))) rfl) rfl,(by omega),(Qr2 hmin (by omega) (by intro ⟨h0,h1,h2⟩;have:=c22;simp [h0,h1,h2] at this;omega)),(by omega),rfl,hs.take 4⟩
  omega
 replace c19:=QQ2 c19
 refine QaF (Qag (Qag ?_))
 rw [show Qdm s c k3=Qdm s c s.ents.length by rw [show k3=s.ents.length by omega]] at hmin
 refine Qab (Qaa (Qac (V:=I6 nx) rfl (Qaa (QaQ rfl rfl (Qaf (Qan (t:=decide (nx<0)) rfl (fun c23=>?_) (fun c23=>?_)))))))
 ·
  replace c23:=QQ1 c23
  refine Qag (Qab (Qaa (Qac (V:=.slice an6 ol.length cn6) rfl (Qaa (Qae QcS rfl (Qaa (Qc7 (V:=.slice an6 ol.length cn6) (cs':=[I7 c,.slice an6 ol.length cn6,.bool ou,.int .u32 ((QaC s.ticks c).getD 0)]) QfL hs 2 rfl rfl rfl rfl (QQ8 rfl) rfl fun w24 hs=>(Qaf (Qag (Qab (Qaa (QaG (cs:=[I7 c,.slice an6 ol.length cn6,.bool ou,.int .u32 ((QaC s.ticks c).getD 0)]) Qcn hs 2 rfl rfl rfl (Qaa (QcK (V:=.agg #[I7 c,.slice an6 ol.length cn6,.bool ou,.int .u32 ((QaC s.ticks c).getD 0)]) (vs:=[I7 c,.slice an6 ol.length cn6,.bool ou,.int .u32 ((QaC s.ticks c).getD 0)]) (cs':=[I7 c,.slice an6 ol.length cn6,.bool ou,.int .u32 ((QaC s.ticks c).getD 0)]) Qcn.1 hs 1 rfl rfl rfl rfl rfl (QQ8 rfl) (Qav rfl (Qav rfl (Qav rfl (Qav rfl Qbk)))) (QaB rfl) fun w25 hs=>(Qaf (Qau ?_))))))))))))))))
  refine ⟨_,QcH (cs:=[I7 c,.slice an6 ol.length cn6,.bool ou,.int .u32 ((QaC s.ticks c).getD 0)]) Tryz.results58 Qcn hs 1 rfl rfl rfl,?_⟩
  have hI:=QoU hup hla.1 hc1 (by rw [← hmin];exact c23)
  have hV:=Qoc c9 (tk:=(QaC s.ticks c).getD 0) rfl hob hI hol
  rw [hV]
  exact ⟨(an6,cn6),rfl,hs.only 3 rfl,trivial⟩
 replace c23:=QQ2 c23
 refine Qap (Qag ?_)
 have hgt:=QrO hla.1 hc1 (by rw [← hmin];exact c23)
 rw [← hmin] at hgt
 have hup2:UpTo (Qdm s c s.ents.length) nx (I++[nx]):=by rw [hmin];exact QiG hup hla.1 hc1 (by rw [← hmin];exact c23)
 refine Qab (Qaa (QaG (cs:=(vc s.known)++[(.slice a1 s.ents.length c1:Value),(.slice a2 s.ticks.length c2:Value) ]) Qd9 hs 0 rfl rfl rfl (Qaa (Qac (V:=I7 c) rfl (Qaa (Qac (V:=I6 nx) rfl (Qaa (Qat (vs:=[.agg ((vc s.known)++[(.slice a1 s.ents.length c1:Value),(.slice a2 s.ticks.length c2:Value) ]).toArray,I7 c,I6 nx]) (V:=.tuple #[.int .u32 (QcT (QbG s c nx)),.bool (QdX s c nx)]) Qqy rfl rfl ?hc hs fun w26 hs=>?_))))))))
 case hc=>exact (QnE _ s a1 c1 a2 c2 c nx hE0 (Rd.own' hr1 hs) (Rd.own' hr2 hs))
 refine Qaa (Qac (V:=.tuple #[.int .u32 (QcT (QbG s c nx)),.bool (QdX s c nx)]) rfl (Qaa (Qax (V:=.int .u32 (QcT (QbG s c nx))) rfl rfl (Qaa (Qax (V:=.bool (QdX s c nx)) rfl rfl (Qaa (Qad (V:=.int .u32 (QcT (QbG s c nx))) rfl (Qaa (Qad (V:=.bool (QdX s c nx)) rfl (Qaf (Qag (Qab (Qaa (Qac (V:=.slice an6 ol.length cn6) rfl (Qaa (Qac (V:=I6 nx) rfl (Qaa (QbU Qg2 QgQ rfl (QqA (by omega) (by omega)) (Qaa (Qac (V:=.int .u32 (QcT (QbG s c nx))) rfl (Qaa (Qbw (vs:=[(0,I7 nx),(1,.int .u32 (QcT (QbG s c nx)))]) (cs:=lc (⟨nx,QcT (QbG s c nx)⟩:Line)) Qqw (rfl) rfl (Qaa (QeQ (vals:=[.agg (lc (⟨nx,QcT (QbG s c nx)⟩:Line)).toArray]) (ls:=List.map lc ([(⟨nx,QcT (QbG s c nx)⟩:Line)]:List Line)) Qjw rfl rfl rfl (Qbe (enc:=lc) (fun _=>rfl) _) (QaJ QfB _) (QQ8 rfl) hs fun b27 w28 hs=>(Qaa (QbN (ls':=(ol++[(⟨nx,QcT (QbG s c nx)⟩:Line)]).map lc) (n:=(ol++[(⟨nx,QcT (QbG s c nx)⟩:Line)]).length) Qjw hs 3 rfl rfl rfl (hs.rd 4 rfl) (QaJ QfB _) (by simp only [QQ6,QQ7,List.length_cons,List.length_nil];omega) (by simp) (by simp) fun a29 c29 w30 hs=>(Qaa (Qad (V:=.slice a29 ((ol++[(⟨nx,QcT (QbG s c nx)⟩:Line)]).length) c29) rfl (Qaf (Qab (Qaa (Qac (V:=I6 nx) rfl (Qaa (Qad (V:=I6 nx) rfl (Qaf ?_)))))))))))))))))))))))))))))))))))
 refine ⟨_,?_,_,nx,I++[nx],a29,c29,ol++[(⟨nx,QcT (QbG s c nx)⟩:Line)],Qai (Qai (Qao (ds:=(sq 9 9++sq 61 57)) (by repeat (first|exact Agr.refl _ _|refine Agr.upd ?_ rfl|refine Agr.mix ?_ rfl))) rfl) rfl,(by omega),(by simp only [QQ7,List.length_singleton];omega),hup2,(QiV hol rfl),rfl,hs.take 4⟩
 omega
end Tt
end Go.Proofs
namespace Go.Proofs
open Go Go.Vx Go.RowKit
namespace Tt
theorem Qn0 (w:World) (p:Pst) (a1:Option Addr) (c1:Nat) (a2:Option Addr) (c2:Nat) (a3:Option Addr) (c3:Nat) (a b:Vec) (ha:QbV a) (hb:QbV b) (hok:Qc0 p) (hle:p.base.ents.length<=400) (hlt:p.base.ticks.length<=400) (hlo:p.ops.length<=400) (hr1:Rd w (.slice a1 p.base.ents.length c1) 7 (p.base.ents.map cec)) (hr2:Rd w (.slice a2 p.base.ticks.length c2) 2 (p.base.ticks.map lsc)) (hr3:Rd w (.slice a3 p.ops.length c3) 23 (p.ops.map oc)):Calls Tryz.prog 23 #[.agg (((vc p.base.known)++[(.slice a1 p.base.ents.length c1:Value),(.slice a2 p.base.ticks.length c2:Value) ])++[(.slice a3 p.ops.length c3:Value) ]++(vc p.known)).toArray,.agg (vc a).toArray,.agg (vc b).toArray] w (fun e w'=>∃ x:Option Addr × Nat,e = .returned (.tuple #[.slice x.1 (Qbt p a b).length x.2,.int .i64 (QbE p a b)])/\Own w no w' [row (.slice x.1 (Qbt p a b).length x.2) ((Qbt p a b).map dfc) 132 5]/\True):=by
 refine Qaj (n:=60) Tryz.func23 rfl Tryz.ntmps23 rfl ?_
 have hs:=Own.start w
 have ⟨hokb,hoko,hokk⟩:=hok
 have hsa:=QcG p a
 have hsoa:=Qdw (cut:=a) hok ha
 have hsb:=QcG p b
 have hsob:=Qdw (cut:=b) hok hb
 refine Qag (Qab (Qaa (QaN (V:=.agg (((vc p.base.known)++[(.slice a1 p.base.ents.length c1:Value),(.slice a2 p.base.ticks.length c2:Value) ])++[(.slice a3 p.ops.length c3:Value) ]++(vc p.known)).toArray) (cs:=((vc p.base.known)++[(.slice a1 p.base.ents.length c1:Value),(.slice a2 p.base.ticks.length c2:Value) ])++[(.slice a3 p.ops.length c3:Value) ]++(vc p.known)) rfl rfl hs fun b1 w2 hs=>(Qaa (QaN (V:=.agg (vc a).toArray) (cs:=vc a) rfl rfl hs fun b3 w4 hs=>(Qaa (QaN (V:=.agg (vc b).toArray) (cs:=vc b) rfl rfl hs fun b5 w6 hs=>(Qaa (Qad (V:=.slice none 0 0) rfl (Qaa (Qad (V:=I6 0) rfl (Qaf (Qag (Qab (Qaa (QaG (cs:=((vc p.base.known)++[(.slice a1 p.base.ents.length c1:Value),(.slice a2 p.base.ticks.length c2:Value) ])++[(.slice a3 p.ops.length c3:Value) ]++(vc p.known)) QjF hs 0 rfl rfl rfl (Qaa (QaG (cs:=vc a) QbA hs 1 rfl rfl rfl (Qaa (Qbh (α:=((Option Addr × Nat) × (Option Addr × Nat)) × Bool) (vs:=[.agg (((vc p.base.known)++[(.slice a1 p.base.ents.length c1:Value),(.slice a2 p.base.ticks.length c2:Value) ])++[(.slice a3 p.ops.length c3:Value) ]++(vc p.known)).toArray,.agg (vc a).toArray]) (V:=fun y=>.tuple #[.agg (vc (Qah p a).known++[(.slice y.1.1.1 ((Qah p a).ents).length y.1.1.2:Value),(.slice y.1.2.1 ((Qah p a).ticks).length y.1.2.2:Value)]).toArray,I6 (Qbb p a)]) (Lo:=fun y=>[row (.slice y.1.1.1 ((Qah p a).ents).length y.1.1.2) ((Qah p a).ents.map cec) 119 7,cond y.2 emp (row (.slice y.1.2.1 ((Qah p a).ticks).length y.1.2.2) ((Qah p a).ticks.map lsc) 125 2)]) (F:=fun y _=>(y.2=true->y.1.2=(a2,c2)/\(Qah p a).ticks=p.base.ticks)) Qs0 rfl rfl ?hc hs fun x7 w8 hs hF9=>?_))))))))))))))))))))
 case hc=>exact (QiM _ p a1 c1 a2 c2 a3 c3 a ha hok hle hlt hlo (Rd.own' hr1 hs) (Rd.own' hr2 hs) (Rd.own' hr3 hs))
 have hrz10:x7.2=true->Rd w (.slice x7.1.2.1 ((Qah p a).ticks).length x7.1.2.2) 2 ((Qah p a).ticks.map lsc):=fun h=>by
  obtain ⟨e1,e2⟩:=hF9 h
  rw [Prod.ext_iff] at e1
  rw [e1.1,e1.2,e2];exact hr2
 refine Qaa (Qac (V:=.tuple #[.agg ((vc ((Qah p a).known))++[(.slice x7.1.1.1 (((Qah p a).ents).length) x7.1.1.2:Value),(.slice x7.1.2.1 (((Qah p a).ticks).length) x7.1.2.2:Value) ]).toArray,I6 (Qbb p a)]) rfl (Qaa (Qax (V:=.agg ((vc ((Qah p a).known))++[(.slice x7.1.1.1 (((Qah p a).ents).length) x7.1.1.2:Value),(.slice x7.1.2.1 (((Qah p a).ticks).length) x7.1.2.2:Value) ]).toArray) rfl rfl (Qaa (Qax (V:=I6 (Qbb p a)) rfl rfl (Qaa (QaM (cs:=(vc vzero)++[(.slice none 0 0:Value),(.slice none 0 0:Value) ]) QrP rfl hs fun b11 w12 hs=>?_)))))))
 replace hs:Own w no w12 [blk b1 (((vc p.base.known)++[(.slice a1 p.base.ents.length c1:Value),(.slice a2 p.base.ticks.length c2:Value) ])++[(.slice a3 p.ops.length c3:Value) ]++(vc p.known)) 31,blk b3 (vc a) 24,blk b5 (vc b) 24,row (.slice x7.1.1.1 (((Qah p a).ents).length) x7.1.1.2) (((Qah p a).ents).map cec) 119 7,cond x7.2 emp (row (.slice x7.1.2.1 (((Qah p a).ticks).length) x7.1.2.2) (((Qah p a).ticks).map lsc) 125 2),blk b11 ((vc vzero)++[(.slice none 0 0:Value),(.slice none 0 0:Value) ]) 28]:=hs
 refine Qaa (QcK (V:=.agg ((vc ((Qah p a).known))++[(.slice x7.1.1.1 (((Qah p a).ents).length) x7.1.1.2:Value),(.slice x7.1.2.1 (((Qah p a).ticks).length) x7.1.2.2:Value) ]).toArray) (vs:=(vc ((Qah p a).known))++[(.slice x7.1.1.1 (((Qah p a).ents).length) x7.1.1.2:Value),(.slice x7.1.2.1 (((Qah p a).ticks).length) x7.1.2.2:Value) ]) (cs':=(vc ((Qah p a).known))++[(.slice x7.1.1.1 (((Qah p a).ents).length) x7.1.1.2:Value),(.slice x7.1.2.1 (((Qah p a).ticks).length) x7.1.2.2:Value) ]) Qd9.1 hs 5 rfl rfl rfl rfl rfl (QQ8 rfl) (QbT (QcB _) (Qav rfl (Qav rfl Qbk))) (QaB rfl) fun w13 hs=>(Qaa (Qad (V:=I6 (Qbb p a)) rfl (Qaf (Qag (Qag (Qab (Qaa (Qac (V:=I6 (Qbb p a)) rfl (Qaa (Qch rfl rfl (Qaf (Qan (t:=!decide (Qbb p a=0)) rfl (fun c14=>?_) (fun c14=>?_))))))))))))))
 ·
  replace c14:=Qbn c14
  replace c14:=QQ2 c14
  refine Qag (Qab (Qaa (Qac (V:=I6 (Qbb p a)) rfl (Qaa (Qad (V:=.slice none 0 0) rfl (Qaa (Qad (V:=I6 (Qbb p a)) rfl (Qaf (Qau ?_)))))))))
  refine ⟨_,Qbs (U:=.slice none 0 0) (V:=I6 (Qbb p a)) Tryz.results23 rfl rfl,?_⟩
  have hX:QbE p a b=Qbb p a:=Qnc c14
  rw [Qfu (by rw [hX];exact c14),hX]
  exact ⟨(none,0),rfl,(hs.take 0).more _ (Qbg _ _ _ _),trivial⟩
 replace c14:=Qbf c14
 replace c14:=QQ1 c14
 refine Qap (Qag (Qab (Qaa (QaG (cs:=((vc p.base.known)++[(.slice a1 p.base.ents.length c1:Value),(.slice a2 p.base.ticks.length c2:Value) ])++[(.slice a3 p.ops.length c3:Value) ]++(vc p.known)) QjF hs 0 rfl rfl rfl (Qaa (QaG (cs:=vc b) QbA hs 2 rfl rfl rfl (Qaa (Qbh (α:=((Option Addr × Nat) × (Option Addr × Nat)) × Bool) (vs:=[.agg (((vc p.base.known)++[(.slice a1 p.base.ents.length c1:Value),(.slice a2 p.base.ticks.length c2:Value) ])++[(.slice a3 p.ops.length c3:Value) ]++(vc p.known)).toArray,.agg (vc b).toArray]) (V:=fun y=>.tuple #[.agg (vc (Qah p b).known++[(.slice y.1.1.1 ((Qah p b).ents).length y.1.1.2:Value),(.slice y.1.2.1 ((Qah p b).ticks).length y.1.2.2:Value)]).toArray,I6 (Qbb p b)]) (Lo:=fun y=>[row (.slice y.1.1.1 ((Qah p b).ents).length y.1.1.2) ((Qah p b).ents.map cec) 119 7,cond y.2 emp (row (.slice y.1.2.1 ((Qah p b).ticks).length y.1.2.2) ((Qah p b).ticks.map lsc) 125 2)]) (F:=fun y _=>(y.2=true->y.1.2=(a2,c2)/\(Qah p b).ticks=p.base.ticks)) Qs0 rfl rfl ?hc hs fun x15 w16 hs hF17=>?_))))))))
 case hc=>exact (QiM _ p a1 c1 a2 c2 a3 c3 b hb hok hle hlt hlo (Rd.own' hr1 hs) (Rd.own' hr2 hs) (Rd.own' hr3 hs))
 have hrz18:x15.2=true->Rd w (.slice x15.1.2.1 ((Qah p b).ticks).length x15.1.2.2) 2 ((Qah p b).ticks.map lsc):=fun h=>by
  obtain ⟨e1,e2⟩:=hF17 h
  rw [Prod.ext_iff] at e1
  rw [e1.1,e1.2,e2];exact hr2
 refine Qaa (Qac (V:=.tuple #[.agg ((vc ((Qah p b).known))++[(.slice x15.1.1.1 (((Qah p b).ents).length) x15.1.1.2:Value),(.slice x15.1.2.1 (((Qah p b).ticks).length) x15.1.2.2:Value) ]).toArray,I6 (Qbb p b)]) rfl (Qaa (Qax (V:=.agg ((vc ((Qah p b).known))++[(.slice x15.1.1.1 (((Qah p b).ents).length) x15.1.1.2:Value),(.slice x15.1.2.1 (((Qah p b).ticks).length) x15.1.2.2:Value) ]).toArray) rfl rfl (Qaa (Qax (V:=I6 (Qbb p b)) rfl rfl (Qaa (QaM (cs:=(vc vzero)++[(.slice none 0 0:Value),(.slice none 0 0:Value) ]) QrP rfl hs fun b19 w20 hs=>(Qaa (QcK (V:=.agg ((vc ((Qah p b).known))++[(.slice x15.1.1.1 (((Qah p b).ents).length) x15.1.1.2:Value),(.slice x15.1.2.1 (((Qah p b).ticks).length) x15.1.2.2:Value) ]).toArray) (vs:=(vc ((Qah p b).known))++[(.slice x15.1.1.1 (((Qah p b).ents).length) x15.1.1.2:Value),(.slice x15.1.2.1 (((Qah p b).ticks).length) x15.1.2.2:Value) ]) (cs':=(vc ((Qah p b).known))++[(.slice x15.1.1.1 (((Qah p b).ents).length) x15.1.1.2:Value),(.slice x15.1.2.1 (((Qah p b).ticks).length) x15.1.2.2:Value) ]) Qd9.1 hs 8 rfl rfl rfl rfl rfl (QQ8 rfl) (QbT (QcB _) (Qav rfl (Qav rfl Qbk))) (QaB rfl) fun w21 hs=>(Qaa (Qad (V:=I6 (Qbb p b)) rfl (Qaf (Qag (Qag (Qab (Qaa (Qac (V:=I6 (Qbb p b)) rfl (Qaa (Qch rfl rfl (Qaf (Qan (t:=!decide (Qbb p b=0)) rfl (fun c22=>?_) (fun c22=>?_))))))))))))))))))))))
 ·
  replace c22:=Qbn c22
  replace c22:=QQ2 c22
  refine Qag (Qab (Qaa (Qac (V:=I6 (Qbb p b)) rfl (Qaa (Qad (V:=.slice none 0 0) rfl (Qaa (Qad (V:=I6 (Qbb p b)) rfl (Qaf (Qau ?_)))))))))
  refine ⟨_,Qbs (U:=.slice none 0 0) (V:=I6 (Qbb p b)) Tryz.results23 rfl rfl,?_⟩
  have hX:QbE p a b=Qbb p b:=QmC c14 c22
  rw [Qfu (by rw [hX];exact c22),hX]
  exact ⟨(none,0),rfl,(hs.take 0).more _ (Qbg _ _ _ _),trivial⟩
 replace c22:=Qbf c22
 replace c22:=QQ1 c22
 refine Qap (Qag (Qag (Qab (Qaa (QaG (cs:=vc a) QbA hs 1 rfl rfl rfl (Qaa (QaG (cs:=vc b) QbA hs 2 rfl rfl rfl (Qaa (Qat (vs:=[.agg (vc a).toArray,.agg (vc b).toArray]) (V:=.bool (vle a b)) Qsr rfl rfl ?hc hs fun w23 hs=>?_)))))))))
 case hc=>exact (QgE _ a b)
 refine Qaa (Qbz rfl (Qaf (Qan (t:=!(vle a b)) rfl (fun c24=>?_) (fun c24=>?_))))
 ·
  replace c24:=Qbn c24
  refine Qag (Qab (Qaa (Qad (V:=.slice none 0 0) rfl (Qaa (Qad (V:=I6 14) rfl (Qaf (Qau ?_)))))))
  refine ⟨_,Qbs (U:=.slice none 0 0) (V:=I6 14) Tryz.results23 rfl rfl,?_⟩
  have hX:QbE p a b=14:=Qmi c14 c22 c24
  rw [Qfu (by rw [hX];decide),hX]
  exact ⟨(none,0),rfl,(hs.take 0).more _ (Qbg _ _ _ _),trivial⟩
 replace c24:=Qbf c24
 refine Qap (Qag (Qab (Qaa (Qad (V:=.slice none 0 0) rfl (Qaf (Qag (Qag (Qab (Qaa (Qad (V:=I6 0) rfl (Qaf (Qam ?_))))))))))))
 replace hs:=hs.more (row (.slice none 0 0) (List.map dfc []) 132 5) (Qbg _ _ _ _)
 refine QaA (fun J μ J' w'=>∃ (Jo:Env) (k:Nat) (an6:Option Addr) (cn6:Nat) (out:List Dif),J'=upd (upd (mix ([12,13,14]++sq 37 22) Jo J) 13 (I6 (k:Int))) 12 (.slice an6 out.length cn6)/\(k<=(Qah p b).ticks.length)/\(out=((Qah p b).ticks.take k).flatMap (fun x=>Qcv p a b x.cart))/\(out.length<=k*2000)/\μ=(Qah p b).ticks.length-k/\Own w no w' [blk b1 (((vc p.base.known)++[(.slice a1 p.base.ents.length c1:Value),(.slice a2 p.base.ticks.length c2:Value) ])++[(.slice a3 p.ops.length c3:Value) ]++(vc p.known)) 31,blk b3 (vc a) 24,blk b5 (vc b) 24,row (.slice x7.1.1.1 (((Qah p a).ents).length) x7.1.1.2) (((Qah p a).ents).map cec) 119 7,cond x7.2 emp (row (.slice x7.1.2.1 (((Qah p a).ticks).length) x7.1.2.2) (((Qah p a).ticks).map lsc) 125 2),blk b11 ((vc ((Qah p a).known))++[(.slice x7.1.1.1 (((Qah p a).ents).length) x7.1.1.2:Value),(.slice x7.1.2.1 (((Qah p a).ticks).length) x7.1.2.2:Value) ]) 28,row (.slice x15.1.1.1 (((Qah p b).ents).length) x15.1.1.2) (((Qah p b).ents).map cec) 119 7,cond x15.2 emp (row (.slice x15.1.2.1 (((Qah p b).ticks).length) x15.1.2.2) (((Qah p b).ticks).map lsc) 125 2),blk b19 ((vc ((Qah p b).known))++[(.slice x15.1.1.1 (((Qah p b).ents).length) x15.1.1.2:Value),(.slice x15.1.2.1 (((Qah p b).ticks).length) x15.1.2.2:Value) ]) 28,row (.slice an6 out.length cn6) (out.map dfc) 132 5]) ?_ ?_
 ·exact ⟨_,_,0,none,0,[],Qai (Qai (Qao (ds:=([12,13,14]++sq 37 22)) (Agr.refl _ _)) rfl) rfl,(by omega),rfl,(Nat.le_refl _),rfl,hs⟩
 rintro μ J' w25 ⟨Jo,k,an6,cn6,out,rfl,hk,hout,hol,rfl,hs⟩
 have hvl1:(Qa5 p a (gd (Qah p b).ticks k).cart).lines.length<=800:=Nat.le_trans (QcO _ _ _) (by omega)
 have hvl2:(Qa5 p b (gd (Qah p b).ticks k).cart).lines.length<=800:=Nat.le_trans (QcO _ _ _) (by omega)
 have h9:(Qcv p a b (gd (Qah p b).ticks k).cart).length<=_:=Qkg (Qa5 p a (gd (Qah p b).ticks k).cart) (Qa5 p b (gd (Qah p b).ticks k).cart)
 refine Qag (Qag (Qab (Qaa (Qac (V:=I6 (k:Int)) rfl (Qaa (Qae QcW rfl (Qaa (QaE (V:=.slice x15.1.2.1 (((Qah p b).ticks).length) x15.1.2.2) QfK hs 8 rfl rfl rfl (Qaa (Qa2 (n:=((Qah p b).ticks).length) Qe6 (hs.rdC 7 rfl hrz18) (by simp) rfl (Qaa (QaQ rfl rfl (Qaf (Qan (t:=decide ((k:Int)<((((Qah p b).ticks).length:Nat):Int))) rfl (fun c26=>?_) (fun c26=>?_)))))))))))))))
 ·
  replace c26:=QQ1 c26
  refine Qap (Qag (Qam (Qag (Qab (Qaa (Qae QcW rfl (Qaa (QaE (V:=.slice x15.1.2.1 (((Qah p b).ticks).length) x15.1.2.2) QfK hs 8 rfl rfl rfl (Qaa (Qac (V:=I6 (k:Int)) rfl (Qaa (Qaw Qe6 QcZ.1 (hs.rdC 7 rfl hrz18) rfl rfl (by omega) (by rw [QQ6];omega) (Qaa (Qae Qej rfl (Qaa (QaR (j:=0) (V:=I7 ((gd ((Qah p b).ticks) k).cart)) k Qar (hs.rdC 7 rfl hrz18) (QaT (by omega)) rfl rfl (by omega) (Qaa (Qad (V:=I7 ((gd ((Qah p b).ticks) k).cart)) rfl (Qaf ?_)))))))))))))))))))
  replace hs:=hs.more emp trivial
  replace hs:=hs.more emp trivial
  replace hs:=hs.more emp trivial
  refine QaI HM [some 50,some 51,some 52,some 53,some 54,some 55,some 56,some 57,some 58,some 12] [[],[],[],[53],[],[],[56],[57],[58],[58]] [0,0,0,6,0,0,62,126,255,511] [pv (.slice an6 out.length cn6),pv (.agg ((vc ((Qah p a).known))++[(.slice x7.1.1.1 (((Qah p a).ents).length) x7.1.1.2:Value),(.slice x7.1.2.1 (((Qah p a).ticks).length) x7.1.2.2:Value) ]).toArray),pv (I7 ((gd ((Qah p b).ticks) k).cart)),(true,fun J=>.agg #[I7 ((Qay (Qah p a) ((gd ((Qah p b).ticks) k).cart) (Qas (Qah p a))).cart),.slice (aOf (Qbq (J 53) 1)) (((Qay (Qah p a) ((gd ((Qah p b).ticks) k).cart) (Qas (Qah p a))).lines).length) (cOf (Qbq (J 53) 1)),.bool ((Qay (Qah p a) ((gd ((Qah p b).ticks) k).cart) (Qas (Qah p a))).out),.int .u32 ((Qay (Qah p a) ((gd ((Qah p b).ticks) k).cart) (Qas (Qah p a))).tick)]),pv (.agg ((vc ((Qah p b).known))++[(.slice x15.1.1.1 (((Qah p b).ents).length) x15.1.1.2:Value),(.slice x15.1.2.1 (((Qah p b).ticks).length) x15.1.2.2:Value) ]).toArray),pv (I7 ((gd ((Qah p b).ticks) k).cart)),(true,fun J=>.agg #[I7 ((Qay (Qah p b) ((gd ((Qah p b).ticks) k).cart) (Qas (Qah p b))).cart),.slice (aOf (Qbq (J 56) 1)) (((Qay (Qah p b) ((gd ((Qah p b).ticks) k).cart) (Qas (Qah p b))).lines).length) (cOf (Qbq (J 56) 1)),.bool ((Qay (Qah p b) ((gd ((Qah p b).ticks) k).cart) (Qas (Qah p b))).out),.int .u32 ((Qay (Qah p b) ((gd ((Qah p b).ticks) k).cart) (Qas (Qah p b))).tick)]),(true,fun J=>.slice (aOf (J 57)) ((Qcv p a b ((gd ((Qah p b).ticks) k).cart)).length) (cOf (J 57))),(true,fun J=>.slice (aOf (J 58)) ((out++(Qcv p a b ((gd ((Qah p b).ticks) k).cart))).length) (cOf (J 58))),(true,fun J=>.slice (aOf (J 58)) ((out++(Qcv p a b ((gd ((Qah p b).ticks) k).cart))).length) (cOf (J 58)))] (fun D J=>[blk b1 (((vc p.base.known)++[(.slice a1 p.base.ents.length c1:Value),(.slice a2 p.base.ticks.length c2:Value) ])++[(.slice a3 p.ops.length c3:Value) ]++(vc p.known)) 31,blk b3 (vc a) 24,blk b5 (vc b) 24,row (.slice x7.1.1.1 (((Qah p a).ents).length) x7.1.1.2) (((Qah p a).ents).map cec) 119 7,cond x7.2 emp (row (.slice x7.1.2.1 (((Qah p a).ticks).length) x7.1.2.2) (((Qah p a).ticks).map lsc) 125 2),blk b11 ((vc ((Qah p a).known))++[(.slice x7.1.1.1 (((Qah p a).ents).length) x7.1.1.2:Value),(.slice x7.1.2.1 (((Qah p a).ticks).length) x7.1.2.2:Value) ]) 28,row (.slice x15.1.1.1 (((Qah p b).ents).length) x15.1.1.2) (((Qah p b).ents).map cec) 119 7,cond x15.2 emp (row (.slice x15.1.2.1 (((Qah p b).ticks).length) x15.1.2.2) (((Qah p b).ticks).map lsc) 125 2),blk b19 ((vc ((Qah p b).known))++[(.slice x15.1.1.1 (((Qah p b).ents).length) x15.1.1.2:Value),(.slice x15.1.2.1 (((Qah p b).ticks).length) x15.1.2.2:Value) ]) 28,cond (D 8) (row (.slice (aOf (J 58)) ((out++(Qcv p a b ((gd ((Qah p b).ticks) k).cart))).length) (cOf (J 58))) ((out++(Qcv p a b ((gd ((Qah p b).ticks) k).cart))).map dfc) 132 5) (row (.slice an6 out.length cn6) (out.map dfc) 132 5),cond (D 3) (row (.slice (aOf (Qbq (J 53) 1)) (((Qay (Qah p a) ((gd ((Qah p b).ticks) k).cart) (Qas (Qah p a))).lines).length) (cOf (Qbq (J 53) 1))) (((Qay (Qah p a) ((gd ((Qah p b).ticks) k).cart) (Qas (Qah p a))).lines).map lc) 127 2) (emp),cond (D 6) (row (.slice (aOf (Qbq (J 56) 1)) (((Qay (Qah p b) ((gd ((Qah p b).ticks) k).cart) (Qas (Qah p b))).lines).length) (cOf (Qbq (J 56) 1))) (((Qay (Qah p b) ((gd ((Qah p b).ticks) k).cart) (Qas (Qah p b))).lines).map lc) 127 2) (emp),cond (D 7) (row (.slice (aOf (J 57)) ((Qcv p a b ((gd ((Qah p b).ticks) k).cart)).length) (cOf (J 57))) ((Qcv p a b ((gd ((Qah p b).ticks) k).cart)).map dfc) 132 5) (emp)]) [9] (by kernel_rfl) hs ⟨?_,?_,?_,?_,?_,?_,?_,?_,?_,?_,trivial⟩ ?_
  ·exact ob [] [9] rfl rfl fun D J w hs=>Qac (V:=.slice an6 out.length cn6) rfl (Zz hs)
  ·exact oa [] fun D J w hs=>QaG (cs:=(vc ((Qah p a).known))++[(.slice x7.1.1.1 (((Qah p a).ents).length) x7.1.1.2:Value),(.slice x7.1.2.1 (((Qah p a).ticks).length) x7.1.2.2:Value) ]) Qd9 hs 5 rfl rfl rfl (Zz hs)
  ·exact oa [] fun D J w hs=>Qac (V:=.int .u16 ((gd ((Qah p b).ticks) k).cart)) rfl (Zz hs)
  ·exact oa [1,2] fun D J w hs=>Qbh (α:=Option Addr × Nat) (vs:=[.agg ((vc ((Qah p a).known))++[(.slice x7.1.1.1 (((Qah p a).ents).length) x7.1.1.2:Value),(.slice x7.1.2.1 (((Qah p a).ticks).length) x7.1.2.2:Value) ]).toArray,.int .u16 ((gd ((Qah p b).ticks) k).cart)]) (V:=fun x=>.agg #[.int .u16 ((Qay (Qah p a) ((gd ((Qah p b).ticks) k).cart) (Qas (Qah p a))).cart),.slice x.1 (((Qay (Qah p a) ((gd ((Qah p b).ticks) k).cart) (Qas (Qah p a))).lines).length) x.2,.bool ((Qay (Qah p a) ((gd ((Qah p b).ticks) k).cart) (Qas (Qah p a))).out),.int .u32 ((Qay (Qah p a) ((gd ((Qah p b).ticks) k).cart) (Qas (Qah p a))).tick)]) (Lo:=fun x=>[row (.slice x.1 ((Qay (Qah p a) ((gd ((Qah p b).ticks) k).cart) (Qas (Qah p a))).lines).length x.2) (((Qay (Qah p a) ((gd ((Qah p b).ticks) k).cart) (Qas (Qah p a))).lines).map lc) 127 2]) (F:=fun _ _=>True) Qsx rfl rfl (Qi3 _ (Qah p a) x7.1.1.1 x7.1.1.2 x7.1.2.1 x7.1.2.2 ((gd ((Qah p b).ticks) k).cart) hsoa (hs.rd 3 rfl) (hs.rdC 4 rfl hrz10)) hs fun _ _ hs _=>⟨rfl,hs.put 10 (QQ8 rfl)⟩
  ·exact oa [] fun D J w hs=>QaG (cs:=(vc ((Qah p b).known))++[(.slice x15.1.1.1 (((Qah p b).ents).length) x15.1.1.2:Value),(.slice x15.1.2.1 (((Qah p b).ticks).length) x15.1.2.2:Value) ]) Qd9 hs 8 rfl rfl rfl (Zz hs)
  ·exact oa [] fun D J w hs=>Qac (V:=.int .u16 ((gd ((Qah p b).ticks) k).cart)) rfl (Zz hs)
  ·exact oa [4,5] fun D J w hs=>Qbh (α:=Option Addr × Nat) (vs:=[.agg ((vc ((Qah p b).known))++[(.slice x15.1.1.1 (((Qah p b).ents).length) x15.1.1.2:Value),(.slice x15.1.2.1 (((Qah p b).ticks).length) x15.1.2.2:Value) ]).toArray,.int .u16 ((gd ((Qah p b).ticks) k).cart)]) (V:=fun x=>.agg #[.int .u16 ((Qay (Qah p b) ((gd ((Qah p b).ticks) k).cart) (Qas (Qah p b))).cart),.slice x.1 (((Qay (Qah p b) ((gd ((Qah p b).ticks) k).cart) (Qas (Qah p b))).lines).length) x.2,.bool ((Qay (Qah p b) ((gd ((Qah p b).ticks) k).cart) (Qas (Qah p b))).out),.int .u32 ((Qay (Qah p b) ((gd ((Qah p b).ticks) k).cart) (Qas (Qah p b))).tick)]) (Lo:=fun x=>[row (.slice x.1 ((Qay (Qah p b) ((gd ((Qah p b).ticks) k).cart) (Qas (Qah p b))).lines).length x.2) (((Qay (Qah p b) ((gd ((Qah p b).ticks) k).cart) (Qas (Qah p b))).lines).map lc) 127 2]) (F:=fun _ _=>True) Qsx rfl rfl (Qi3 _ (Qah p b) x15.1.1.1 x15.1.1.2 x15.1.2.1 x15.1.2.2 ((gd ((Qah p b).ticks) k).cart) hsob (hs.rd 6 rfl) (hs.rdC 7 rfl hrz18)) hs fun _ _ hs _=>⟨rfl,hs.put 11 (QQ8 rfl)⟩
  ·exact oa [3,6] fun D J w hs=>Qbh (vs:=[.agg #[.int .u16 ((Qay (Qah p a) ((gd ((Qah p b).ticks) k).cart) (Qas (Qah p a))).cart),.slice (aOf (Qbq (J 53) 1)) (((Qay (Qah p a) ((gd ((Qah p b).ticks) k).cart) (Qas (Qah p a))).lines).length) (cOf (Qbq (J 53) 1)),.bool ((Qay (Qah p a) ((gd ((Qah p b).ticks) k).cart) (Qas (Qah p a))).out),.int .u32 ((Qay (Qah p a) ((gd ((Qah p b).ticks) k).cart) (Qas (Qah p a))).tick)],.agg #[.int .u16 ((Qay (Qah p b) ((gd ((Qah p b).ticks) k).cart) (Qas (Qah p b))).cart),.slice (aOf (Qbq (J 56) 1)) (((Qay (Qah p b) ((gd ((Qah p b).ticks) k).cart) (Qas (Qah p b))).lines).length) (cOf (Qbq (J 56) 1)),.bool ((Qay (Qah p b) ((gd ((Qah p b).ticks) k).cart) (Qas (Qah p b))).out),.int .u32 ((Qay (Qah p b) ((gd ((Qah p b).ticks) k).cart) (Qas (Qah p b))).tick)]]) (V:=fun x:Option Addr × Nat=>.slice x.1 (Qcv p a b ((gd ((Qah p b).ticks) k).cart)).length x.2) Qvn rfl rfl (QkX _ ((Qay (Qah p a) ((gd ((Qah p b).ticks) k).cart) (Qas (Qah p a))).cart) ((Qay (Qah p a) ((gd ((Qah p b).ticks) k).cart) (Qas (Qah p a))).lines) ((Qay (Qah p a) ((gd ((Qah p b).ticks) k).cart) (Qas (Qah p a))).out) ((Qay (Qah p a) ((gd ((Qah p b).ticks) k).cart) (Qas (Qah p a))).tick) (aOf (Qbq (J 53) 1)) (cOf (Qbq (J 53) 1)) ((Qay (Qah p b) ((gd ((Qah p b).ticks) k).cart) (Qas (Qah p b))).cart) ((Qay (Qah p b) ((gd ((Qah p b).ticks) k).cart) (Qas (Qah p b))).lines) ((Qay (Qah p b) ((gd ((Qah p b).ticks) k).cart) (Qas (Qah p b))).out) ((Qay (Qah p b) ((gd ((Qah p b).ticks) k).cart) (Qas (Qah p b))).tick) (aOf (Qbq (J 56) 1)) (cOf (Qbq (J 56) 1)) (Nat.le_trans (QcO _ _ _) (by omega)) (Nat.le_trans (QcO _ _ _) (by omega)) (fun x hx=>(List.mem_append.1 hx).elim (Qha hsoa _ _ x) (Qha hsob _ _ x)) (hs.rd 10 rfl) (hs.rd 11 rfl)) hs fun _ _ hs _=>⟨rfl,hs.put 12 (QQ8 rfl)⟩
  ·exact oa [0,7] fun D J w hs=>QbN (ls':=(out++(Qcv p a b ((gd ((Qah p b).ticks) k).cart))).map dfc) (n:=(out++(Qcv p a b ((gd ((Qah p b).ticks) k).cart))).length) Ql7 hs 9 rfl rfl rfl (hs.rd 12 rfl) (QaJ QdJ _) (by simp only [QQ6,QQ7,List.length_cons,List.length_nil];omega) (by simp) (by simp) fun _ _ _ hs=>⟨rfl,hs⟩
  ·exact oa [8] fun D J w hs=>Qad (V:=.slice (aOf (J 58)) ((out++(Qcv p a b ((gd ((Qah p b).ticks) k).cart))).length) (cOf (J 58))) rfl (Zz hs)
  rintro J1 w31 J2 hJ hs
  replace hJ:J2=upd (mix (sq 50 9++[12]) J1 _) 12 (.slice (aOf (J1 58)) ((out++(Qcv p a b ((gd ((Qah p b).ticks) k).cart))).length) (cOf (J1 58))):=hJ
  replace hs:Own w no w31 [blk b1 (((vc p.base.known)++[(.slice a1 p.base.ents.length c1:Value),(.slice a2 p.base.ticks.length c2:Value) ])++[(.slice a3 p.ops.length c3:Value) ]++(vc p.known)) 31,blk b3 (vc a) 24,blk b5 (vc b) 24,row (.slice x7.1.1.1 (((Qah p a).ents).length) x7.1.1.2) (((Qah p a).ents).map cec) 119 7,cond x7.2 emp (row (.slice x7.1.2.1 (((Qah p a).ticks).length) x7.1.2.2) (((Qah p a).ticks).map lsc) 125 2),blk b11 ((vc ((Qah p a).known))++[(.slice x7.1.1.1 (((Qah p a).ents).length) x7.1.1.2:Value),(.slice x7.1.2.1 (((Qah p a).ticks).length) x7.1.2.2:Value) ]) 28,row (.slice x15.1.1.1 (((Qah p b).ents).length) x15.1.1.2) (((Qah p b).ents).map cec) 119 7,cond x15.2 emp (row (.slice x15.1.2.1 (((Qah p b).ticks).length) x15.1.2.2) (((Qah p b).ticks).map lsc) 125 2),blk b19 ((vc ((Qah p b).known))++[(.slice x15.1.1.1 (((Qah p b).ents).length) x15.1.1.2:Value),(.slice x15.1.2.1 (((Qah p b).ticks).length) x15.1.2.2:Value) ]) 28,row (.slice (aOf (J1 58)) ((out++(Qcv p a b ((gd ((Qah p b).ticks) k).cart))).length) (cOf (J1 58))) ((out++(Qcv p a b ((gd ((Qah p b).ticks) k).cart))).map dfc) 132 5,row (.slice (aOf (Qbq (J1 53) 1)) (((Qay (Qah p a) ((gd ((Qah p b).ticks) k).cart) (Qas (Qah p a))).lines).length) (cOf (Qbq (J1 53) 1))) (((Qay (Qah p a) ((gd ((Qah p b).ticks) k).cart) (Qas (Qah p a))).lines).map lc) 127 2,row (.slice (aOf (Qbq (J1 56) 1)) (((Qay (Qah p b) ((gd ((Qah p b).ticks) k).cart) (Qas (Qah p b))).lines).length) (cOf (Qbq (J1 56) 1))) (((Qay (Qah p b) ((gd ((Qah p b).ticks) k).cart) (Qas (Qah p b))).lines).map lc) 127 2,row (.slice (aOf (J1 57)) ((Qcv p a b ((gd ((Qah p b).ticks) k).cart)).length) (cOf (J1 57))) ((Qcv p a b ((gd ((Qah p b).ticks) k).cart)).map dfc) 132 5]:=hs
  generalize (aOf (Qbq (J1 53) 1))=na32 at hs
  generalize (cOf (Qbq (J1 53) 1))=nc33 at hs
  generalize (aOf (Qbq (J1 56) 1))=na34 at hs
  generalize (cOf (Qbq (J1 56) 1))=nc35 at hs
  generalize (aOf (J1 57))=a36 at hs
  generalize (cOf (J1 57))=c37 at hs
  generalize (aOf (J1 58))=a38 at hJ hs
  generalize (cOf (J1 58))=c39 at hJ hs
  subst hJ
  refine Qab (Qaa (Qac (V:=I6 (k:Int)) rfl (Qaa (QaD (a:=(k:Int)) (b:=1) (c:=((k+1:Nat):Int)) rfl rfl (Qak (by omega) (by omega)) (Qaa (Qad (V:=I6 ((k+1:Nat):Int)) rfl (Qaf ?_)))))))
  refine ⟨_,?_,_,k+1,a38,c39,out++(Qcv p a b ((gd ((Qah p b).ticks) k).cart)),Qai (Qai (Qao (ds:=([12,13,14]++sq 37 22)) (by repeat (first|exact Agr.refl _ _|refine Agr.upd ?_ rfl|refine Agr.mix ?_ rfl))) rfl) rfl,(by omega),(Qle hout (by omega)),(by rw [QQ7];omega),rfl,hs.take 10⟩
  omega
 replace c26:=QQ2 c26
 refine QaF (Qag (Qab (Qaa (Qac (V:=.slice an6 out.length cn6) rfl (Qaa (Qad (V:=.slice an6 out.length cn6) rfl (Qaa (Qad (V:=I6 0) rfl (Qaf (Qau ?_))))))))))
 refine ⟨_,Qbs (U:=.slice an6 out.length cn6) (V:=I6 0) Tryz.results23 rfl rfl,?_⟩
 have hX:QbE p a b=0:=Qjh c14 c22 c24
 rw [QmT hok c22 hX hout (by omega),hX]
 exact ⟨(an6,cn6),rfl,hs.only 9 rfl,trivial⟩
end Tt
end Go.Proofs
namespace Go.Proofs
open Go Go.Vx Go.RowKit
namespace Tt
theorem QjI (w:World) (p:Pst) (a1:Option Addr) (c1:Nat) (a2:Option Addr) (c2:Nat) (a3:Option Addr) (c3:Nat) (cut:Vec) (hcut:QbV cut) (n:Int) (hsortE:QgY Tryz.prog 48 49 cec 106 7 QjX) (hsortU:QgT Tryz.prog 134 .u16 32) (hok:Qc0 p) (hle:p.base.ents.length<=400) (hlt:p.base.ticks.length<=400) (hlo:p.ops.length<=400) (hr1:Rd w (.slice a1 p.base.ents.length c1) 7 (p.base.ents.map cec)) (hr2:Rd w (.slice a2 p.base.ticks.length c2) 2 (p.base.ticks.map lsc)) (hr3:Rd w (.slice a3 p.ops.length c3) 23 (p.ops.map oc)):Calls Tryz.prog 15 #[.agg (((vc p.base.known)++[(.slice a1 p.base.ents.length c1:Value),(.slice a2 p.base.ticks.length c2:Value) ])++[(.slice a3 p.ops.length c3:Value) ]++(vc p.known)).toArray,.agg (vc cut).toArray,.int .u16 n] w (fun e w'=>∃ x:Option Addr × Nat,e = .returned (.tuple #[.agg [.int .u16 (QaZ p cut n).cart,.slice x.1 (QaZ p cut n).lines.length x.2,.bool (QaZ p cut n).out,.int .u32 (QaZ p cut n).tick].toArray,.int .i64 (Qbb p cut)])/\Own w no w' [row (.slice x.1 (QaZ p cut n).lines.length x.2) ((QaZ p cut n).lines.map lc) 127 2]/\True):=by
 refine Qaj (n:=23) Tryz.func15 rfl Tryz.ntmps15 rfl ?_
 have hs:=Own.start w
 have ⟨hokb,hoko,hokk⟩:=hok
 have hsl:=QcG p cut
 have hso:=Qdw (cut:=cut) hok hcut
 refine Qag (Qab (Qaa (QaN (V:=.agg (((vc p.base.known)++[(.slice a1 p.base.ents.length c1:Value),(.slice a2 p.base.ticks.length c2:Value) ])++[(.slice a3 p.ops.length c3:Value) ]++(vc p.known)).toArray) (cs:=((vc p.base.known)++[(.slice a1 p.base.ents.length c1:Value),(.slice a2 p.base.ticks.length c2:Value) ])++[(.slice a3 p.ops.length c3:Value) ]++(vc p.known)) rfl rfl hs fun b1 w2 hs=>(Qaa (QaN (V:=.agg (vc cut).toArray) (cs:=vc cut) rfl rfl hs fun b3 w4 hs=>(Qaa (QaM (cs:=[I7 0,.slice none 0 0,.bool false,.int .u32 0]) Qis rfl hs fun b5 w6 hs=>(Qaa (Qad (V:=I6 0) rfl (Qaf (Qag (Qab (Qaa (QaG (cs:=((vc p.base.known)++[(.slice a1 p.base.ents.length c1:Value),(.slice a2 p.base.ticks.length c2:Value) ])++[(.slice a3 p.ops.length c3:Value) ]++(vc p.known)) QeD hs 0 rfl rfl rfl (Qaa (QaG (cs:=vc cut) QbA hs 1 rfl rfl rfl (Qaa (Qbh (α:=(Option Addr × Nat) × (Option Addr × Nat)) (vs:=[.agg (((vc p.base.known)++[(.slice a1 p.base.ents.length c1:Value),(.slice a2 p.base.ticks.length c2:Value) ])++[(.slice a3 p.ops.length c3:Value) ]++(vc p.known)).toArray,.agg (vc cut).toArray]) (V:=fun x:(Option Addr × Nat) × (Option Addr × Nat)=>.tuple #[.agg (vc (Qah p cut).known++[(.slice x.1.1 ((Qah p cut).ents).length x.1.2:Value),(.slice x.2.1 ((Qah p cut).ticks).length x.2.2:Value)]).toArray,I6 (Qbb p cut)]) (Lo:=fun x=>[row (.slice x.1.1 ((Qah p cut).ents).length x.1.2) (((Qah p cut).ents).map cec) 106 7,row (.slice x.2.1 ((Qah p cut).ticks).length x.2.2) (((Qah p cut).ticks).map lsc) 102 2]) (F:=fun _ _=>True) Qna rfl rfl ?hc hs fun x8 w7 hs _=>?_))))))))))))))))))
 case hc=>exact (Qeb _ p a1 c1 a2 c2 a3 c3 cut hcut hsortE hsortU hok hle hlt hlo (Rd.own' hr1 hs) (Rd.own' hr2 hs) (Rd.own' hr3 hs))
 replace hs:Own w no w7 [blk b1 (((vc p.base.known)++[(.slice a1 p.base.ents.length c1:Value),(.slice a2 p.base.ticks.length c2:Value) ])++[(.slice a3 p.ops.length c3:Value) ]++(vc p.known)) 43,blk b3 (vc cut) 24,blk b5 [I7 0,.slice none 0 0,.bool false,.int .u32 0] 49,row (.slice x8.1.1 (((Qah p cut).ents).length) x8.1.2) (((Qah p cut).ents).map cec) 106 7,row (.slice x8.2.1 (((Qah p cut).ticks).length) x8.2.2) (((Qah p cut).ticks).map lsc) 102 2]:=hs
 refine Qaa (Qac (V:=.tuple #[.agg ((vc ((Qah p cut).known))++[(.slice x8.1.1 (((Qah p cut).ents).length) x8.1.2:Value),(.slice x8.2.1 (((Qah p cut).ticks).length) x8.2.2:Value) ]).toArray,I6 (Qbb p cut)]) rfl (Qaa (Qax (V:=.agg ((vc ((Qah p cut).known))++[(.slice x8.1.1 (((Qah p cut).ents).length) x8.1.2:Value),(.slice x8.2.1 (((Qah p cut).ticks).length) x8.2.2:Value) ]).toArray) rfl rfl (Qaa (Qax (V:=I6 (Qbb p cut)) rfl rfl (Qaa (QaM (cs:=(vc vzero)++[(.slice none 0 0:Value),(.slice none 0 0:Value) ]) QhN rfl hs fun b9 w10 hs=>(Qaa (QcK (V:=.agg ((vc ((Qah p cut).known))++[(.slice x8.1.1 (((Qah p cut).ents).length) x8.1.2:Value),(.slice x8.2.1 (((Qah p cut).ticks).length) x8.2.2:Value) ]).toArray) (vs:=(vc ((Qah p cut).known))++[(.slice x8.1.1 (((Qah p cut).ents).length) x8.1.2:Value),(.slice x8.2.1 (((Qah p cut).ticks).length) x8.2.2:Value) ]) (cs':=(vc ((Qah p cut).known))++[(.slice x8.1.1 (((Qah p cut).ents).length) x8.1.2:Value),(.slice x8.2.1 (((Qah p cut).ticks).length) x8.2.2:Value) ]) QcJ.1 hs 5 rfl rfl rfl rfl rfl (QQ8 rfl) (QbT (QcB _) (Qav rfl (Qav rfl Qbk))) (QaB rfl) fun w11 hs=>(Qaa (Qad (V:=I6 (Qbb p cut)) rfl (Qaf (Qag (Qag (Qab (Qaa (Qac (V:=I6 (Qbb p cut)) rfl (Qaa (Qch rfl rfl (Qaf (Qan (t:=!decide (Qbb p cut=0)) rfl (fun c12=>?_) (fun c12=>?_))))))))))))))))))))))
 ·
  replace c12:=Qbn c12
  replace c12:=QQ2 c12
  refine Qag (Qab (Qaa (Qbw (vs:=[]) (cs:=[I7 0,.slice none 0 0,.bool false,.int .u32 0]) QrK (rfl) rfl (Qaa (Qac (V:=I6 (Qbb p cut)) rfl (Qaa (QcK (V:=.agg #[I7 0,.slice none 0 0,.bool false,.int .u32 0]) (vs:=[I7 0,.slice none 0 0,.bool false,.int .u32 0]) (cs':=[I7 0,.slice none 0 0,.bool false,.int .u32 0]) Qcn.1 hs 2 rfl rfl rfl rfl rfl (QQ8 rfl) (Qav rfl (Qav rfl (Qav rfl (Qav rfl Qbk)))) (QaB rfl) fun w13 hs=>(Qaa (Qad (V:=I6 (Qbb p cut)) rfl (Qaf (Qau ?_)))))))))))
  refine ⟨_,Qdy (cs:=[I7 0,.slice none 0 0,.bool false,.int .u32 0]) (V:=I6 (Qbb p cut)) Tryz.results15 Qcn hs 2 rfl rfl rfl rfl,?_⟩
  rw [Qo3 c12]
  exact ⟨(none,0),rfl,(hs.take 0).more _ (Qbg _ _ 127 2),trivial⟩
 replace c12:=Qbf c12
 replace c12:=QQ1 c12
 refine Qap (Qag (Qab (Qaa (QaG (cs:=(vc ((Qah p cut).known))++[(.slice x8.1.1 (((Qah p cut).ents).length) x8.1.2:Value),(.slice x8.2.1 (((Qah p cut).ticks).length) x8.2.2:Value) ]) QcJ hs 5 rfl rfl rfl (Qaa (Qac (V:=I7 n) rfl (Qaa (Qbh (α:=Option Addr × Nat) (vs:=[.agg ((vc ((Qah p cut).known))++[(.slice x8.1.1 (((Qah p cut).ents).length) x8.1.2:Value),(.slice x8.2.1 (((Qah p cut).ticks).length) x8.2.2:Value) ]).toArray,I7 n]) (V:=fun x=>.agg #[I7 ((Qay (Qah p cut) n (Qas (Qah p cut))).cart),.slice x.1 (((Qay (Qah p cut) n (Qas (Qah p cut))).lines).length) x.2,.bool ((Qay (Qah p cut) n (Qas (Qah p cut))).out),.int .u32 ((Qay (Qah p cut) n (Qas (Qah p cut))).tick)]) (Lo:=fun x=>[row (.slice x.1 ((Qay (Qah p cut) n (Qas (Qah p cut))).lines).length x.2) (((Qay (Qah p cut) n (Qas (Qah p cut))).lines).map lc) 127 2]) (F:=fun _ _=>True) Qpr rfl rfl ?hc hs fun x15 w14 hs _=>?_))))))))
 case hc=>exact (Qe7 _ (Qah p cut) x8.1.1 x8.1.2 x8.2.1 x8.2.2 n (Qay (Qah p cut) n (Qas (Qah p cut)):Vw) (rfl) hso (by omega) (by omega) (hs.rd 3 rfl) (hs.rd 4 rfl))
 refine Qaa (QcK (V:=.agg #[I7 ((Qay (Qah p cut) n (Qas (Qah p cut))).cart),.slice x15.1 (((Qay (Qah p cut) n (Qas (Qah p cut))).lines).length) x15.2,.bool ((Qay (Qah p cut) n (Qas (Qah p cut))).out),.int .u32 ((Qay (Qah p cut) n (Qas (Qah p cut))).tick)]) (vs:=[I7 ((Qay (Qah p cut) n (Qas (Qah p cut))).cart),.slice x15.1 (((Qay (Qah p cut) n (Qas (Qah p cut))).lines).length) x15.2,.bool ((Qay (Qah p cut) n (Qas (Qah p cut))).out),.int .u32 ((Qay (Qah p cut) n (Qas (Qah p cut))).tick)]) (cs':=[I7 ((Qay (Qah p cut) n (Qas (Qah p cut))).cart),.slice x15.1 (((Qay (Qah p cut) n (Qas (Qah p cut))).lines).length) x15.2,.bool ((Qay (Qah p cut) n (Qas (Qah p cut))).out),.int .u32 ((Qay (Qah p cut) n (Qas (Qah p cut))).tick)]) Qcn.1 hs 2 rfl rfl rfl rfl rfl (QQ8 rfl) (Qav rfl (Qav rfl (Qav rfl (Qav rfl Qbk)))) (QaB rfl) fun w16 hs=>?_)
 replace hs:Own w no w16 [blk b1 (((vc p.base.known)++[(.slice a1 p.base.ents.length c1:Value),(.slice a2 p.base.ticks.length c2:Value) ])++[(.slice a3 p.ops.length c3:Value) ]++(vc p.known)) 43,blk b3 (vc cut) 24,blk b5 [I7 ((Qay (Qah p cut) n (Qas (Qah p cut))).cart),.slice x15.1 (((Qay (Qah p cut) n (Qas (Qah p cut))).lines).length) x15.2,.bool ((Qay (Qah p cut) n (Qas (Qah p cut))).out),.int .u32 ((Qay (Qah p cut) n (Qas (Qah p cut))).tick)] 49,row (.slice x8.1.1 (((Qah p cut).ents).length) x8.1.2) (((Qah p cut).ents).map cec) 106 7,row (.slice x8.2.1 (((Qah p cut).ticks).length) x8.2.2) (((Qah p cut).ticks).map lsc) 102 2,blk b9 ((vc ((Qah p cut).known))++[(.slice x8.1.1 (((Qah p cut).ents).length) x8.1.2:Value),(.slice x8.2.1 (((Qah p cut).ticks).length) x8.2.2:Value) ]) 38,row (.slice x15.1 (((Qay (Qah p cut) n (Qas (Qah p cut))).lines).length) x15.2) (((Qay (Qah p cut) n (Qas (Qah p cut))).lines).map lc) 127 2]:=hs
 refine Qaa (Qad (V:=I6 0) rfl (Qaf (Qau ?_)))
 refine ⟨_,Qdy (cs:=[I7 ((Qay (Qah p cut) n (Qas (Qah p cut))).cart),.slice x15.1 (((Qay (Qah p cut) n (Qas (Qah p cut))).lines).length) x15.2,.bool ((Qay (Qah p cut) n (Qas (Qah p cut))).out),.int .u32 ((Qay (Qah p cut) n (Qas (Qah p cut))).tick)]) (V:=I6 0) Tryz.results15 Qcn hs 2 rfl rfl rfl rfl,?_⟩
 rw [QiX c12,c12]
 exact ⟨(x15.1,x15.2),rfl,hs.only 6 rfl,trivial⟩
end Tt
end Go.Proofs
namespace Go.Proofs
open Go Go.Vx Go.RowKit
namespace Tt
theorem Qog (w:World) (a:Option Addr) (c:Nat) (l:List Int) (g:Nat) (caps:List Value) (hg:En Tryz.prog g) (p:Int->Bool) (hp:∀ (w1:World) (L1:List Res),Own w no w1 L1->∀ x∈l,Calls Tryz.prog g ([(.int .u16 x:Value)]++caps).toArray w1 (fun e w'=>e = .returned (.bool (p x))/\Own w1 no w' [])) (hr:Rd w (.slice a l.length c) 1 (l.map (ic .u16))):Calls Tryz.prog 110 #[.slice a l.length c,.func (.func g) #[] caps.toArray] w (fun e w'=>e = .returned (.int .i64 (QeO p l))/\Own w no w' []):=by
 refine Qaj (n:=19) Tryz.func110 rfl Tryz.ntmps110 rfl ?_
 have hs:=Own.start w
 have hn:=hr.sml
 refine Qag (Qab (Qaa (Qad (V:=I6 0) rfl (Qaf (Qag (Qag (Qab (Qaa (Qac (V:=.slice a l.length c) rfl (Qaa (Qa2 (n:=l.length) QaL (Rd.own' hr hs) (by simp) rfl (Qaa (Qac (V:=I6 0) rfl (Qaf (Qam (QaA (fun J μ J' w'=>∃ (Jo:Env) (k:Nat),J'=upd (mix ([4,5]++sq 8 11) Jo J) 8 (I6 (k:Int))/\(k<=l.length)/\(∀ j:Nat,j<k->p (gd l j)=false)/\μ=l.length-k/\Own w no w' []) ?_ ?_))))))))))))))))
 ·exact ⟨_,_,0,Qai (Qao (ds:=([4,5]++sq 8 11)) (Agr.refl _ _)) rfl,(by omega),(fun j hj=>absurd hj (Nat.not_lt_zero j)),rfl,hs⟩
 rintro μ J' w1 ⟨Jo,k,rfl,hk,hno,rfl,hs⟩
 refine Qag (Qab (Qaa (QaQ rfl rfl (Qaf (Qag (Qan (t:=decide ((k:Int)<((l.length:Nat):Int))) rfl (fun c2=>?_) (fun c2=>?_)))))))
 ·
  replace c2:=QQ1 c2
  refine Qap (Qag (Qam (Qag (Qab (Qaa (Qac (V:=I6 (k:Int)) rfl (Qaa (Qad (V:=I6 (k:Int)) rfl (Qaf (Qag (Qab (Qaa (Qac (V:=.func (.func g) #[] caps.toArray) rfl (Qaa (Qac (V:=.slice a l.length c) rfl (Qaa (Qac (V:=I6 (k:Int)) rfl (Qaa (Qaw QaL Qar.1 (Rd.own' hr hs) rfl rfl (by omega) (by rw [QQ6];omega) (Qaa (QaR (j:=0) (V:=I7 (gd l k)) k Qar (Rd.own' hr hs) (QaT (by omega)) rfl rfl (by omega) (Qaa (Qgw (vs:=[I7 (gd l k)]) (cs:=caps) (V:=.bool (p (gd l k))) hg rfl rfl (hp _ _ hs (gd l k) (QbK (by omega))) hs fun w3 hs=>(Qaf (Qan (t:=p (gd l k)) rfl (fun c4=>?_) (fun c4=>?_))))))))))))))))))))))))))
  ·
   refine Qag (Qab (Qaa (Qac (V:=I6 (k:Int)) rfl (Qaa (Qad (V:=I6 (k:Int)) rfl (Qaf (Qau ?_)))))))
   refine ⟨_,Qaq (V:=I6 (k:Int)) Tryz.results110 rfl,(Zr hs ?_)⟩
   exact congrArg (Value.int .i64) (Qjj (by omega) hno c4).symm
  refine Qap (Qab (Qaa (QaD (a:=(k:Int)) (b:=1) (c:=(k:Int)+1) rfl rfl (QbH (by omega) (by omega)) (Qaa (Qac (V:=I6 ((k:Int)+1)) rfl (Qaf ?_))))))
  refine ⟨_,?_,_,k+1,Qai (Qao (ds:=([4,5]++sq 8 11)) (by repeat (first|exact Agr.refl _ _|refine Agr.upd ?_ rfl|refine Agr.mix ?_ rfl))) rfl,(by omega),(Qb8 hno c4),rfl,hs.take 0⟩
  omega
 replace c2:=QQ2 c2
 refine QaF (Qag (Qab (Qaa (Qad (V:=I6 (-1)) rfl (Qaf (Qau ?_))))))
 refine ⟨_,Qaq (V:=I6 (-1)) Tryz.results110 rfl,(Zr hs ?_)⟩
 exact congrArg (Value.int .i64) (Qmq fun j hj=>hno j (by omega)).symm
end Tt
end Go.Proofs
namespace Go.Proofs
open Go Go.Vx Go.RowKit
namespace Tt
theorem Qpd (w:World) (S:Nat->Prop) (a:Option Addr) (c:Nat) (l:List Int) (g:Nat) (caps:List Value) (hg:En Tryz.prog g) (p:Int->Bool) (hp:∀ (w1:World) (L1:List Res),Own w S w1 L1->∀ x∈l,Calls Tryz.prog g ([(.int .u16 x:Value)]++caps).toArray w1 (fun e w'=>e = .returned (.bool (p x))/\Own w1 no w' [])) (hR:(row (.slice a l.length c) (l.map (ic .u16)) 32 1).holds w S) (hlt:∀ b,S b->b<w.heap.size):Calls Tryz.prog 67 #[.slice a l.length c,.func (.func g) #[] caps.toArray] w (fun e w'=>∃ x:Unit,e = .returned (.slice a (l.filter fun x=>!p x).length c)/\Own w S w' [row (.slice a (l.filter fun x=>!p x).length c) ((l.filter fun x=>!p x).map (ic .u16)) 32 1]/\True):=by
 refine Qaj (n:=42) Tryz.func67 rfl Tryz.ntmps67 rfl ?_
 have hs:=Own.lent hR hlt
 have hn:=(hs.rd 0 rfl).sml
 have hlc:=(hs.rd 0 rfl).roomM
 refine Qag (Qab (Qaa (Qad (V:=.slice none 0 0) rfl (Qaf (Qag (Qab (Qaa (Qac (V:=.slice a l.length c) rfl (Qaa (Qac (V:=.func (.func g) #[] caps.toArray) rfl (Qaa (Qat (vs:=[.slice a l.length c,.func (.func g) #[] caps.toArray]) (V:=I6 (QeO p l)) QtI rfl rfl ?hc hs fun w1 hs=>?_))))))))))))
 case hc=>exact (Qog _ a c l g caps hg p (fun w1 L1 h=>hp w1 _ (hs.call h)) (hs.rd 0 rfl))
 refine Qaa (Qad (V:=I6 (QeO p l)) rfl (Qaf (Qag (Qag ?_))))
 rcases Qj3 (p:=p) (l:=l) with hk2|hk2
 ·
  obtain ⟨hf1,hfl⟩:=hk2
  refine Qab (Qaa (Qbp (V:=I6 (QeO p l)) (V':=I6 (-1)) (Qac (V:=I6 (QeO p l)) rfl ⟨rfl,rfl⟩) (congrArg (Value.int .i64) hf1) (Qaa (Qbp (V:=.bool (decide ((-1:Int) = -1))) (V':=.bool true) (QaS rfl rfl ⟨rfl,rfl⟩) (congrArg Value.bool (QQ3 rfl)) (Qaf (Qdp rfl ?_))))))
  refine Qag (Qab (Qaa (Qac (V:=.slice a l.length c) rfl (Qaa (Qad (V:=.slice a l.length c) rfl (Qaf (Qau ?_)))))))
  refine ⟨_,Qaq (V:=.slice a l.length c) Tryz.results67 rfl,?_⟩
  rw [hfl]
  exact ⟨(),rfl,hs.take 1,trivial⟩
 obtain ⟨k0,hf1,hk0l,hpk,hft⟩:=hk2
 refine Qab (Qaa (Qbp (V:=I6 (QeO p l)) (V':=I6 (k0:Int)) (Qac (V:=I6 (QeO p l)) rfl ⟨rfl,rfl⟩) (congrArg (Value.int .i64) hf1) (Qaa (Qbp (V:=.bool (decide ((k0:Int) = -1))) (V':=.bool false) (QaS rfl rfl ⟨rfl,rfl⟩) (congrArg Value.bool (QQ4 (by omega))) (Qaf (Qcy rfl ?_))))))
 refine Qap (Qag (Qag (Qab (Qaa (Qbp (V:=I6 (QeO p l)) (V':=I6 (k0:Int)) (Qac (V:=I6 (QeO p l)) rfl ⟨rfl,rfl⟩) (congrArg (Value.int .i64) hf1) (Qaa (QaD (a:=(k0:Int)) (b:=1) (c:=((k0+1:Nat):Int)) rfl rfl (Qak (by omega) (by omega)) (Qaa (Qad (V:=I6 ((k0+1:Nat):Int)) rfl (Qaf (Qam (QaA (fun J μ J' w'=>∃ (Jo:Env) (i:Nat) (j:Nat) (m:List Int),J'=upd (upd (mix ([5,6,7]++sq 16 20) Jo J) 5 (I6 (i:Int))) 6 (I6 (j:Int))/\(i<j)/\(j<=l.length)/\(Moved p l m i j)/\μ=l.length-j/\Own w S w' [row (.slice a l.length c) (m.map (ic .u16)) 32 1]) ?_ ?_))))))))))))
 ·exact ⟨_,_,k0,k0+1,l,Qai (Qai (Qao (ds:=([5,6,7]++sq 16 20)) (Agr.refl _ _)) (congrArg (Value.int .i64) hf1)) rfl,(by omega),(by omega),(Qf3 hk0l hpk hft),rfl,hs⟩
 rintro μ J' w2 ⟨Jo,i,j,m,rfl,hij,hj,hmv,rfl,hs⟩
 have hml:=hmv.1
 refine Qag (Qag (Qab (Qaa (Qac (V:=I6 (j:Int)) rfl (Qaa (Qac (V:=.slice a l.length c) rfl (Qaa (Qa2 (n:=l.length) QaL (hs.rd 0 rfl) (by simp [hmv.1]) rfl (Qaa (QaQ rfl rfl (Qaf (Qan (t:=decide ((j:Int)<((l.length:Nat):Int))) rfl (fun c3=>?_) (fun c3=>?_)))))))))))))
 ·
  replace c3:=QQ1 c3
  refine Qap (Qag (Qam (Qag (Qab (Qaa (Qac (V:=.slice a l.length c) rfl (Qaa (Qac (V:=I6 (j:Int)) rfl (Qaa (Qaw QaL Qar.1 (hs.rd 0 rfl) rfl rfl (by omega) (by rw [QQ6];omega) (Qaa (QaR (j:=0) (V:=I7 (gd m j)) j Qar (hs.rd 0 rfl) (QaT (by omega)) rfl rfl (by omega) (Qaa (Qad (V:=I7 (gd m j)) rfl (Qaf (Qag (Qab (Qaa (Qac (V:=.func (.func g) #[] caps.toArray) rfl (Qaa (Qac (V:=I7 (gd m j)) rfl (Qaa (Qgw (vs:=[I7 (gd m j)]) (cs:=caps) (V:=.bool (p (gd m j))) hg rfl rfl (hp _ _ hs (gd m j) (by rw [hmv.2.2 _ (Nat.le_refl _)];exact QbK (by omega))) hs fun w4 hs=>(Qaa (Qbz rfl (Qaf (Qan (t:=!(p (gd m j))) rfl (fun c5=>?_) (fun c5=>?_))))))))))))))))))))))))))))
  ·
   replace c5:=Qbn c5
   refine Qag (Qab (Qaa (Qac (V:=.slice a l.length c) rfl (Qaa (Qac (V:=I6 (i:Int)) rfl (Qaa (Qac (V:=I7 (gd m j)) rfl (Qaa (Qaw QaL Qar.1 (hs.rd 0 rfl) rfl rfl (by omega) (by rw [QQ6];omega) (Qaa (Qvv (z:=gd m j) (vs:=[I7 (gd m j)]) i 0 Qar.1 hs 0 rfl rfl (by omega) (by first|omega|(simp only [List.length_set];omega)) rfl rfl rfl rfl (QQ8 rfl) ((QfI .u16) _) (Qav rfl Qbk) fun w6 hs=>(Qaf (Qab (Qaa (Qac (V:=I6 (i:Int)) rfl (Qaa (QaD (a:=(i:Int)) (b:=1) (c:=((i+1:Nat):Int)) rfl rfl (Qak (by omega) (by omega)) (Qaa (Qad (V:=I6 ((i+1:Nat):Int)) rfl (Qaf (Qab (Qaa (Qac (V:=I6 (j:Int)) rfl (Qaa (QaD (a:=(j:Int)) (b:=1) (c:=((j+1:Nat):Int)) rfl rfl (Qak (by omega) (by omega)) (Qaa (Qad (V:=I6 ((j+1:Nat):Int)) rfl (Qaf ?_))))))))))))))))))))))))))))
   refine ⟨_,?_,_,i+1,j+1,m.set i (gd m j),Qai (Qai (Qao (ds:=([5,6,7]++sq 16 20)) (by repeat (first|exact Agr.refl _ _|refine Agr.upd ?_ rfl|refine Agr.mix ?_ rfl))) rfl) rfl,(by omega),(by omega),(Qhf hmv (by omega) (by omega) c5),rfl,hs.take 1⟩
   omega
  replace c5:=Qbf c5
  refine Qap (Qab (Qaa (Qac (V:=I6 (j:Int)) rfl (Qaa (QaD (a:=(j:Int)) (b:=1) (c:=((j+1:Nat):Int)) rfl rfl (Qak (by omega) (by omega)) (Qaa (Qad (V:=I6 ((j+1:Nat):Int)) rfl (Qaf ?_))))))))
  refine ⟨_,?_,_,i,j+1,m,Qai (Qai (Qao (ds:=([5,6,7]++sq 16 20)) (by repeat (first|exact Agr.refl _ _|refine Agr.upd ?_ rfl|refine Agr.mix ?_ rfl))) rfl) rfl,(by omega),(by omega),(Qhb hmv (by omega) c5),rfl,hs.take 1⟩
  omega
 replace c3:=QQ2 c3
 refine QaF (Qag (Qab (Qaa (Qac (V:=.slice a l.length c) rfl (Qaa (Qac (V:=I6 (i:Int)) rfl (Qaa (QqD (l:=i) (h:=l.length) (m:=c) (n':=(m.drop i).length) QqB Qar.1 (hs.rd 0 rfl) rfl (.inr ⟨_,_,rfl,rfl⟩) (.inl ⟨rfl,rfl⟩) (.inl ⟨rfl,rfl⟩) (by omega) (by omega) (Nat.le_trans (show l.length<=m.length by omega) (Rd.roomM (hs.rd 0 rfl))) (Nat.le_refl _) (by simp only [List.length_take,List.length_drop]<;>omega) ?_))))))))
 refine Qaa (QjM Qnl hs 0 rfl rfl (by rw [QQ6]<;>omega) (by simp only [QQ6,List.length_drop]<;>omega) (by intro v hv;have e:=QmY hv QvM;subst e;exact (by intro u hu;simp [Value.cells] at hu;subst hu;rfl)) fun w7 hs=>(Qaf (Qag (Qab (Qaa (Qac (V:=.slice a l.length c) rfl (Qaa (Qac (V:=I6 (i:Int)) rfl (Qaa (Quo (l:=0) (h:=i) (n':=i) QqB Qar.1 (by omega) rfl (.inl ⟨rfl,rfl⟩) (.inr ⟨_,_,rfl,rfl⟩) (by omega) (by omega) (by omega) (Qaa (Qad (V:=.slice (sla a 0 c 1) i (c-0)) rfl (Qaf (Qau ?_))))))))))))))
 refine ⟨_,Qaq (V:=.slice (sla a 0 c 1) i (c-0)) Tryz.results67 rfl,?_⟩
 have he:=QiH hmv (by omega)
 have hil:i=(l.filter fun x=>!p x).length:=by rw [← he,List.length_take,hmv.1];omega
 replace hs:=hs.take 1
 simp only [List.set_cons_zero,List.take_succ_cons,List.take_zero,← List.map_take,he] at hs
 rw [← hil]
 refine ⟨(),?_,hs,trivial⟩
 rw [QkK,Nat.sub_zero]
end Tt
end Go.Proofs
namespace Go.Proofs
open Go Go.Vx Go.RowKit
namespace Tt
theorem Qtr (w:World) (n:Int) (bs bn bi:Nat) (s:Sta) (a1:Option Addr) (c1:Nat) (a2:Option Addr) (c2:Nat) (now idle:Int) (hnw:0<=idle/\idle<=now/\now<4294967296) (hok:Qdz s) (hle:s.ents.length<=1000) (hlt:s.ticks.length<=1000) (hcs:Qck w bs ((vc s.known)++[(.slice a1 s.ents.length c1:Value),(.slice a2 s.ticks.length c2:Value) ])) (hcn:Qck w bn [(.int .u32 now:Value)]) (hci:Qck w bi [(.int .u32 idle:Value)]) (hr1:Rd w (.slice a1 s.ents.length c1) 7 (s.ents.map cec)) (hr2:Rd w (.slice a2 s.ticks.length c2) 2 (s.ticks.map lsc)):Calls Tryz.prog 68 #[.int .u16 n,.pointer (some ⟨bs,0,none⟩),.pointer (some ⟨bn,0,none⟩),.pointer (some ⟨bi,0,none⟩)] w (fun e w'=>e = .returned (.bool (QgW (Qay s n (Qas s)) now idle))/\Own w no w' []):=by
 refine Qaj (n:=26) Tryz.func68 rfl Tryz.ntmps68 rfl ?_
 have hs:=Own.start w
 have ⟨hnw1,hnw2,hnw3⟩:=hnw
 refine Qag (Qab (Qaa (Qad (V:=.bool false) rfl (Qaf (Qag (Qab (Qaa (QpW (vs:=(vc s.known)++[(.slice a1 s.ents.length c1:Value),(.slice a2 s.ticks.length c2:Value) ]) QcJ (hcs.own' hs) rfl rfl rfl (Qaa (Qac (V:=I7 n) rfl (Qaa (Qbh (α:=Option Addr × Nat) (vs:=[.agg ((vc s.known)++[(.slice a1 s.ents.length c1:Value),(.slice a2 s.ticks.length c2:Value) ]).toArray,I7 n]) (V:=fun x=>.agg #[I7 ((Qay s n (Qas s)).cart),.slice x.1 (((Qay s n (Qas s)).lines).length) x.2,.bool ((Qay s n (Qas s)).out),.int .u32 ((Qay s n (Qas s)).tick)]) (Lo:=fun x=>[row (.slice x.1 ((Qay s n (Qas s)).lines).length x.2) (((Qay s n (Qas s)).lines).map lc) 127 2]) (F:=fun _ _=>True) Qpr rfl rfl ?hc hs fun x2 w1 hs _=>?_))))))))))))
 case hc=>exact (Qe7 _ s a1 c1 a2 c2 n (Qay s n (Qas s):Vw) (rfl) hok hle hlt (Rd.own' hr1 hs) (Rd.own' hr2 hs))
 refine Qaa (QaM (cs:=[I7 0,.slice none 0 0,.bool false,.int .u32 0]) Qis rfl hs fun b3 w4 hs=>(Qaa (QcK (V:=.agg #[I7 ((Qay s n (Qas s)).cart),.slice x2.1 (((Qay s n (Qas s)).lines).length) x2.2,.bool ((Qay s n (Qas s)).out),.int .u32 ((Qay s n (Qas s)).tick)]) (vs:=[I7 ((Qay s n (Qas s)).cart),.slice x2.1 (((Qay s n (Qas s)).lines).length) x2.2,.bool ((Qay s n (Qas s)).out),.int .u32 ((Qay s n (Qas s)).tick)]) (cs':=[I7 ((Qay s n (Qas s)).cart),.slice x2.1 (((Qay s n (Qas s)).lines).length) x2.2,.bool ((Qay s n (Qas s)).out),.int .u32 ((Qay s n (Qas s)).tick)]) Qcn.1 hs 1 rfl rfl rfl rfl rfl (QQ8 rfl) (Qav rfl (Qav rfl (Qav rfl (Qav rfl Qbk)))) (QaB rfl) fun w5 hs=>(Qaf (Qag (Qbj [some 10,some 11,some 12,some 13,some 14,some 15,some 16,some 17,some 18,some 19,some 20,some 21,some 22,some 23,some 24,some 25,some 5] [] [0,1,3,7,15,31,63,127,255,511,1023,511,511,6655,16383,32767,65535] [pv (Pq b3 (0+1)),pv (.slice x2.1 (((Qay s n (Qas s)).lines).length) x2.2),pv (I6 ((((Qay s n (Qas s)).lines).length:Nat):Int)),pv (.bool (decide (((((Qay s n (Qas s)).lines).length:Nat):Int)=0))),pv (.bool (decide (((((Qay s n (Qas s)).lines).length:Nat):Int)=0))),pg ((decide (((((Qay s n (Qas s)).lines).length:Nat):Int)=0)) == false) (Pq b3 (0+2)),pg ((decide (((((Qay s n (Qas s)).lines).length:Nat):Int)=0)) == false) (.bool ((Qay s n (Qas s)).out)),pv (.bool ((decide (((((Qay s n (Qas s)).lines).length:Nat):Int)=0))||((Qay s n (Qas s)).out))),pv (.bool ((decide (((((Qay s n (Qas s)).lines).length:Nat):Int)=0))||((Qay s n (Qas s)).out))),pg (((decide (((((Qay s n (Qas s)).lines).length:Nat):Int)=0))||((Qay s n (Qas s)).out)) == false) (Pq b3 (0+3)),pg (((decide (((((Qay s n (Qas s)).lines).length:Nat):Int)=0))||((Qay s n (Qas s)).out)) == false) (.int .u32 ((Qay s n (Qas s)).tick)),pg (((decide (((((Qay s n (Qas s)).lines).length:Nat):Int)=0))||((Qay s n (Qas s)).out)) == false) (.int .u32 now),pg (((decide (((((Qay s n (Qas s)).lines).length:Nat):Int)=0))||((Qay s n (Qas s)).out)) == false) (.int .u32 idle),pg (((decide (((((Qay s n (Qas s)).lines).length:Nat):Int)=0))||((Qay s n (Qas s)).out)) == false) (.int .u32 (now-idle)),pg (((decide (((((Qay s n (Qas s)).lines).length:Nat):Int)=0))||((Qay s n (Qas s)).out)) == false) (.bool (decide (now-idle<(Qay s n (Qas s)).tick))),pv (.bool (((decide (((((Qay s n (Qas s)).lines).length:Nat):Int)=0))||((Qay s n (Qas s)).out))||(decide (now-idle<(Qay s n (Qas s)).tick)))),pv (.bool (((decide (((((Qay s n (Qas s)).lines).length:Nat):Int)=0))||((Qay s n (Qas s)).out))||(decide (now-idle<(Qay s n (Qas s)).tick))))] (fun _ _=>_) [16] (by kernel_rfl) hs ⟨?_,?_,?_,?_,?_,?_,?_,?_,?_,?_,?_,?_,?_,?_,?_,?_,?_,trivial⟩ ?_))))))
 ·exact oa [] fun D J w hs=>Qae QcS rfl (Zz hs)
 ·exact oa [0] fun D J w hs=>QaE (V:=.slice x2.1 (((Qay s n (Qas s)).lines).length) x2.2) QfL hs 1 rfl rfl rfl (Zz hs)
 ·exact oa [1] fun D J w hs=>Qa2 (n:=((Qay s n (Qas s)).lines).length) Qdc (hs.rd 0 rfl) (by simp) rfl (Zz hs)
 ·exact oa [2] fun D J w hs=>QaS rfl rfl (Zz hs)
 ·exact oa [3] fun D J w hs=>Qac (V:=.bool (decide (((((Qay s n (Qas s)).lines).length:Nat):Int)=0))) rfl (Zz hs)
 ·exact og [4] fun D J w hG hs=>Qae Qdb rfl (Zz hs)
 ·exact oy [4,5] [5] fun D J w hG hs=>QaE (V:=.bool ((Qay s n (Qas s)).out)) Qmh hs 1 rfl rfl rfl (Zz hs)
 ·exact oa [4,6] fun D J w hs=>Qb4 (h':=(Qay s n (Qas s)).out) rfl rfl rfl (Zz hs)
 ·exact oa [7] fun D J w hs=>Qac (V:=.bool ((decide (((((Qay s n (Qas s)).lines).length:Nat):Int)=0))||((Qay s n (Qas s)).out))) rfl (Zz hs)
 ·exact og [8] fun D J w hG hs=>Qae Qji rfl (Zz hs)
 ·exact oy [8,9] [9] fun D J w hG hs=>QaE (V:=.int .u32 ((Qay s n (Qas s)).tick)) Qa6 hs 1 rfl rfl rfl (Zz hs)
 ·exact og [8] fun D J w hG hs=>Qoq (V:=.int .u32 now) Qa6 (hcn.own' hs) rfl rfl (Zz hs)
 ·exact og [8] fun D J w hG hs=>Qoq (V:=.int .u32 idle) Qa6 (hci.own' hs) rfl rfl (Zz hs)
 ·exact oy [8,11,12] [11,12] fun D J w hG hs=>Qa7 (a:=now) (b:=idle) (c:=now-idle) rfl rfl (Qgr (by omega) (by omega)) (Zz hs)
 ·exact oy [8,10,13] [10,13] fun D J w hG hs=>QbY rfl rfl (Zz hs)
 ·exact oa [8,14] fun D J w hs=>Qb4 (h':=decide (now-idle<(Qay s n (Qas s)).tick)) rfl rfl rfl (Zz hs)
 ·exact oa [15] fun D J w hs=>Qad (V:=.bool (((decide (((((Qay s n (Qas s)).lines).length:Nat):Int)=0))||((Qay s n (Qas s)).out))||(decide (now-idle<(Qay s n (Qas s)).tick)))) rfl (Zz hs)
 rintro J1 w6 J2 hJ hs
 replace hJ:J2=upd (mix (sq 10 16++[5]) J1 _) 5 (.bool (((decide (((((Qay s n (Qas s)).lines).length:Nat):Int)=0))||((Qay s n (Qas s)).out))||(decide (now-idle<(Qay s n (Qas s)).tick)))):=hJ
 subst hJ
 refine Qau ?_
 refine ⟨_,Qaq (V:=.bool (((decide (((((Qay s n (Qas s)).lines).length:Nat):Int)=0))||((Qay s n (Qas s)).out))||(decide (now-idle<(Qay s n (Qas s)).tick)))) Tryz.results68 rfl,(Zr hs ?_)⟩
 rfl
end Tt
end Go.Proofs
namespace Go.Proofs
open Go Go.Vx Go.RowKit
namespace Tt
theorem QtE (w:World) (p:Pst) (a1:Option Addr) (c1:Nat) (a2:Option Addr) (c2:Nat) (a3:Option Addr) (c3:Nat) (cut:Vec) (hcut:QbV cut) (now idle:Int) (hb2:(0<=now/\now<4294967296)/\0<=idle) (hsortE:QgY Tryz.prog 48 49 cec 106 7 QjX) (hsortU:QgT Tryz.prog 134 .u16 32) (hok:Qc0 p) (hle:p.base.ents.length<=400) (hlt:p.base.ticks.length<=400) (hlo:p.ops.length<=400) (hr1:Rd w (.slice a1 p.base.ents.length c1) 7 (p.base.ents.map cec)) (hr2:Rd w (.slice a2 p.base.ticks.length c2) 2 (p.base.ticks.map lsc)) (hr3:Rd w (.slice a3 p.ops.length c3) 23 (p.ops.map oc)):Calls Tryz.prog 25 #[.agg (((vc p.base.known)++[(.slice a1 p.base.ents.length c1:Value),(.slice a2 p.base.ticks.length c2:Value) ])++[(.slice a3 p.ops.length c3:Value) ]++(vc p.known)).toArray,.agg (vc cut).toArray,.int .u32 now,.int .u32 idle] w (fun e w'=>∃ x:Option Addr × Nat,e = .returned (.tuple #[.slice x.1 (abR p cut now idle).length x.2,.int .i64 (abI p cut now idle)])/\Own w no w' [row (.slice x.1 (abR p cut now idle).length x.2) ((abR p cut now idle).map (ic .u16)) 32 1]/\True):=by
 refine Qaj (n:=30) Tryz.func25 rfl Tryz.ntmps25 rfl ?_
 have hs:=Own.start w
 have ⟨hokb,hoko,hokk⟩:=hok
 have hsl:=QcG p cut
 have hso:=Qdw (cut:=cut) hok hcut
 have hcl:=QiS (Qah p cut)
 refine Qag (Qab (Qaa (QaN (V:=.agg (((vc p.base.known)++[(.slice a1 p.base.ents.length c1:Value),(.slice a2 p.base.ticks.length c2:Value) ])++[(.slice a3 p.ops.length c3:Value) ]++(vc p.known)).toArray) (cs:=((vc p.base.known)++[(.slice a1 p.base.ents.length c1:Value),(.slice a2 p.base.ticks.length c2:Value) ])++[(.slice a3 p.ops.length c3:Value) ]++(vc p.known)) rfl rfl hs fun b1 w2 hs=>(Qaa (QaN (V:=.agg (vc cut).toArray) (cs:=vc cut) rfl rfl hs fun b3 w4 hs=>(Qaa (QaN (V:=.int .u32 now) (cs:=[.int .u32 now]) rfl rfl hs fun b5 w6 hs=>(Qaa (QaN (V:=.int .u32 idle) (cs:=[.int .u32 idle]) rfl rfl hs fun b7 w8 hs=>?_)))))))))
 replace hs:Own w no w8 [blk b1 (((vc p.base.known)++[(.slice a1 p.base.ents.length c1:Value),(.slice a2 p.base.ticks.length c2:Value) ])++[(.slice a3 p.ops.length c3:Value) ]++(vc p.known)) 43,blk b3 (vc cut) 24,blk b5 [.int .u32 now] 22,blk b7 [.int .u32 idle] 22]:=hs
 refine Qaa (Qad (V:=.slice none 0 0) rfl (Qaa (Qad (V:=I6 0) rfl (Qaf (Qag (Qab (Qaa (QaG (cs:=((vc p.base.known)++[(.slice a1 p.base.ents.length c1:Value),(.slice a2 p.base.ticks.length c2:Value) ])++[(.slice a3 p.ops.length c3:Value) ]++(vc p.known)) QeD hs 0 rfl rfl rfl (Qaa (QaG (cs:=vc cut) QbA hs 1 rfl rfl rfl (Qaa (Qbh (α:=(Option Addr × Nat) × (Option Addr × Nat)) (vs:=[.agg (((vc p.base.known)++[(.slice a1 p.base.ents.length c1:Value),(.slice a2 p.base.ticks.length c2:Value) ])++[(.slice a3 p.ops.length c3:Value) ]++(vc p.known)).toArray,.agg (vc cut).toArray]) (V:=fun x:(Option Addr × Nat) × (Option Addr × Nat)=>.tuple #[.agg (vc (Qah p cut).known++[(.slice x.1.1 ((Qah p cut).ents).length x.1.2:Value),(.slice x.2.1 ((Qah p cut).ticks).length x.2.2:Value)]).toArray,I6 (Qbb p cut)]) (Lo:=fun x=>[row (.slice x.1.1 ((Qah p cut).ents).length x.1.2) (((Qah p cut).ents).map cec) 106 7,row (.slice x.2.1 ((Qah p cut).ticks).length x.2.2) (((Qah p cut).ticks).map lsc) 102 2]) (F:=fun _ _=>True) Qna rfl rfl ?hc hs fun x10 w9 hs _=>?_))))))))))))
 case hc=>exact (Qeb _ p a1 c1 a2 c2 a3 c3 cut hcut hsortE hsortU hok hle hlt hlo (Rd.own' hr1 hs) (Rd.own' hr2 hs) (Rd.own' hr3 hs))
 refine Qaa (Qac (V:=.tuple #[.agg ((vc ((Qah p cut).known))++[(.slice x10.1.1 (((Qah p cut).ents).length) x10.1.2:Value),(.slice x10.2.1 (((Qah p cut).ticks).length) x10.2.2:Value) ]).toArray,I6 (Qbb p cut)]) rfl (Qaa (Qax (V:=.agg ((vc ((Qah p cut).known))++[(.slice x10.1.1 (((Qah p cut).ents).length) x10.1.2:Value),(.slice x10.2.1 (((Qah p cut).ticks).length) x10.2.2:Value) ]).toArray) rfl rfl (Qaa (Qax (V:=I6 (Qbb p cut)) rfl rfl (Qaa (QaM (cs:=(vc vzero)++[(.slice none 0 0:Value),(.slice none 0 0:Value) ]) QhN rfl hs fun b11 w12 hs=>(Qaa (QcK (V:=.agg ((vc ((Qah p cut).known))++[(.slice x10.1.1 (((Qah p cut).ents).length) x10.1.2:Value),(.slice x10.2.1 (((Qah p cut).ticks).length) x10.2.2:Value) ]).toArray) (vs:=(vc ((Qah p cut).known))++[(.slice x10.1.1 (((Qah p cut).ents).length) x10.1.2:Value),(.slice x10.2.1 (((Qah p cut).ticks).length) x10.2.2:Value) ]) (cs':=(vc ((Qah p cut).known))++[(.slice x10.1.1 (((Qah p cut).ents).length) x10.1.2:Value),(.slice x10.2.1 (((Qah p cut).ticks).length) x10.2.2:Value) ]) QcJ.1 hs 6 rfl rfl rfl rfl rfl (QQ8 rfl) (QbT (QcB _) (Qav rfl (Qav rfl Qbk))) (QaB rfl) fun w13 hs=>(Qaa (Qad (V:=I6 (Qbb p cut)) rfl (Qaf (Qag (Qam (Qag (Qab (Qaa (Qac (V:=I6 (Qbb p cut)) rfl (Qaa (Qch rfl rfl (Qaa (Qad (V:=.bool (!decide (Qbb p cut=0))) rfl (Qaf (Qan (t:=!decide (Qbb p cut=0)) rfl (fun c14=>?_) (fun c14=>?_)))))))))))))))))))))))))
 ·
  replace c14:=Qbn c14
  replace c14:=QQ2 c14
  refine Qag (Qab (Qaa (Qac (V:=I6 (Qbb p cut)) rfl (Qaa (Qad (V:=.slice none 0 0) rfl (Qaa (Qad (V:=I6 (Qbb p cut)) rfl (Qaf (Qau ?_)))))))))
  refine ⟨_,Qbs (U:=.slice none 0 0) (V:=I6 (Qbb p cut)) Tryz.results25 rfl rfl,?_⟩
  have hX:abI p cut now idle=Qbb p cut:=QuM c14
  rw [Quu (by rw [hX];exact c14),hX]
  exact ⟨(none,0),rfl,(hs.take 0).more _ (Qbg _ _ _ _),trivial⟩
 replace c14:=Qbf c14
 replace c14:=QQ1 c14
 refine Qag (Qab (Qaa (QaE (V:=.int .u32 idle) Qa6 hs 3 rfl rfl rfl (Qaa (QaE (V:=.int .u32 now) Qa6 hs 2 rfl rfl rfl (Qaa (QbY rfl rfl (Qaa (Qad (V:=.bool (decide (now<idle))) rfl (Qaf (Qan (t:=decide (now<idle)) rfl (fun c15=>?_) (fun c15=>?_))))))))))))
 ·
  replace c15:=QQ1 c15
  refine Qag (Qab (Qaa (Qad (V:=.slice none 0 0) rfl (Qaa (Qad (V:=I6 2) rfl (Qaf (Qau ?_)))))))
  refine ⟨_,Qbs (U:=.slice none 0 0) (V:=I6 2) Tryz.results25 rfl rfl,?_⟩
  have hX:abI p cut now idle=2:=Qvh c14 c15
  rw [Quu (by rw [hX];decide),hX]
  exact ⟨(none,0),rfl,(hs.take 0).more _ (Qbg _ _ _ _),trivial⟩
 replace c15:=QQ2 c15
 refine Qap (Qag ?_)
 have hnow:0<=idle/\idle<=now/\now<4294967296:=by omega
 refine Qab (Qaa (QaG (cs:=(vc ((Qah p cut).known))++[(.slice x10.1.1 (((Qah p cut).ents).length) x10.1.2:Value),(.slice x10.2.1 (((Qah p cut).ticks).length) x10.2.2:Value) ]) QcJ hs 6 rfl rfl rfl (Qaa (Qbh (vs:=[.agg ((vc ((Qah p cut).known))++[(.slice x10.1.1 (((Qah p cut).ents).length) x10.1.2:Value),(.slice x10.2.1 (((Qah p cut).ticks).length) x10.2.2:Value) ]).toArray]) (V:=fun x:Option Addr × Nat=>.slice x.1 (Qaz (Qah p cut)).length x.2) QsI rfl rfl (Qij _ (Qah p cut) x10.1.1 x10.1.2 x10.2.1 x10.2.2 hso (by omega) (by omega) (hs.rd 4 rfl) (hs.rd 5 rfl)) hs fun x16 w17 hs _=>?_))))
 replace hs:Own w no w17 [blk b1 (((vc p.base.known)++[(.slice a1 p.base.ents.length c1:Value),(.slice a2 p.base.ticks.length c2:Value) ])++[(.slice a3 p.ops.length c3:Value) ]++(vc p.known)) 43,blk b3 (vc cut) 24,blk b5 [.int .u32 now] 22,blk b7 [.int .u32 idle] 22,row (.slice x10.1.1 (((Qah p cut).ents).length) x10.1.2) (((Qah p cut).ents).map cec) 106 7,row (.slice x10.2.1 (((Qah p cut).ticks).length) x10.2.2) (((Qah p cut).ticks).map lsc) 102 2,blk b11 ((vc ((Qah p cut).known))++[(.slice x10.1.1 (((Qah p cut).ents).length) x10.1.2:Value),(.slice x10.2.1 (((Qah p cut).ticks).length) x10.2.2:Value) ]) 38,row (.slice x16.1 ((Qaz (Qah p cut)).length) x16.2) ((Qaz (Qah p cut)).map (ic .u16)) 32 1]:=hs
 refine Qaa (Qdv (cs:=[Pq b11 0,Pq b5 0,Pq b7 0]) rfl rfl (Qaa (Qjf (α:=Unit) (vs:=[.slice x16.1 ((Qaz (Qah p cut)).length) x16.2,.func (.func 68) #[] #[Pq b11 0,Pq b5 0,Pq b7 0]]) (V:=fun _=>.slice x16.1 ((Qaz (Qah p cut)).filter fun x=>!(fun n=>QgW (Qa5 p cut n) now idle) x).length x16.2) (R:=row (.slice x16.1 ((Qaz (Qah p cut)).length) x16.2) ((Qaz (Qah p cut)).map (ic .u16)) 32 1) (R':=fun _=>row (.slice x16.1 ((Qaz (Qah p cut)).filter fun x=>!(fun n=>QgW (Qa5 p cut n) now idle) x).length x16.2) (((Qaz (Qah p cut)).filter fun x=>!(fun n=>QgW (Qa5 p cut n) now idle) x).map (ic .u16)) 32 1) (Lo:=fun _=>[]) (F:=fun _ _=>True) QuR rfl rfl hs 7 rfl (fun S hS hlS hK=>Qpd _ S x16.1 x16.2 (Qaz (Qah p cut)) 68 [Pq b11 0,Pq b5 0,Pq b7 0] Qv8 (fun n=>QgW (Qa5 p cut n) now idle) (fun w1 L1 h x hx=>Qtr w1 x b11 b5 b7 (Qah p cut) x10.1.1 x10.1.2 x10.2.1 x10.2.2 now idle hnow hso (by omega) (by omega) ((hK 6 (by decide) _ rfl).cells h) ((hK 2 (by decide) _ rfl).cells h) ((hK 3 (by decide) _ rfl).cells h) ((hK 4 (by decide) _ rfl).rd h) ((hK 5 (by decide) _ rfl).rd h)) hS hlS) fun _ w18 hs _=>(Qaa (Qad (V:=.slice x16.1 (((Qaz (Qah p cut)).filter fun x=>!(fun n=>QgW (Qa5 p cut n) now idle) x).length) x16.2) rfl (Qaa (Qad (V:=I6 0) rfl (Qaf (Qau ?_)))))))))
 refine ⟨_,Qbs (U:=.slice x16.1 (((Qaz (Qah p cut)).filter fun x=>!(fun n=>QgW (Qa5 p cut n) now idle) x).length) x16.2) (V:=I6 0) Tryz.results25 rfl rfl,?_⟩
 have hX:abI p cut now idle=0:=QtO c14 c15
 rw [Qqf hX,hX]
 exact ⟨(x16.1,x16.2),rfl,hs.only 7 rfl,trivial⟩
end Tt
end Go.Proofs
namespace Go.Proofs
open Go Go.Vx Go.RowKit
namespace Tt
theorem Qlt (w:World) (hsortE:QgY Tryz.prog 48 49 cec 106 7 QjX) (hsortU:QgT Tryz.prog 134 .u16 32):Calls Tryz.prog 10 #[] w (fun e w'=>e = .returned (.bool true)/\Own w no w' []):=by
 refine Qaj (n:=101) Tryz.func10 rfl Tryz.ntmps10 rfl ?_
 have hs:=Own.start w
 refine Qag (Qab (Qaa (Qad (V:=.bool false) rfl (Qaf (Qag (Qab (Qaa (Qbw (vs:=[(1,.int .u32 1)]) (cs:=dc (⟨0,1⟩:Dot)) Qvl (rfl) rfl (Qaa (Qbp (V:=.agg (oc (⟨(⟨0,1⟩:Dot),1,3,4,2,5,vzero⟩:Opn)).toArray) (V':=.agg (oc Qqm).toArray) (QcI (vs:=[(0,.agg (dc (⟨0,1⟩:Dot)).toArray),(1,.int .u8 1),(2,I7 3),(3,I7 4),(4,I7 2),(5,.int .u32 5)]) (cs:=oc (⟨(⟨0,1⟩:Dot),1,3,4,2,5,vzero⟩:Opn)) [dc (⟨0,0⟩:Dot),[(.int .u8 0:Value)],[(I7 0:Value)],[(I7 0:Value)],[(I7 0:Value)],[(.int .u32 0:Value)],vc vzero] [dc (⟨0,1⟩:Dot),[(.int .u8 1:Value)],[(I7 3:Value)],[(I7 4:Value)],[(I7 2:Value)],[(.int .u32 5:Value)],vc vzero] QqW rfl (rfl) rfl rfl ⟨rfl,rfl⟩) rfl (Qaa (QeQ (vals:=[.agg (oc Qqm).toArray]) (ls:=List.map oc ([Qqm]:List Opn)) Qng rfl rfl rfl (Qbe (enc:=oc) (fun _=>rfl) _) (QaJ Qey _) (QQ8 rfl) hs fun b1 w2 hs=>(Qaa (Qbp (V:=.agg (vc (vset vzero 0 1)).toArray) (V':=.agg (vc alK).toArray) (Qbw (vs:=[(0,.int .u32 1)]) (cs:=vc (vset vzero 0 1)) Qh6 (rfl) rfl ⟨rfl,rfl⟩) rfl (Qaa (QcI (vs:=[(1,.slice (some ⟨b1,0,none⟩) 1 1),(2,.agg (vc alK).toArray)]) (cs:=((vc vzero)++[(.slice none 0 0:Value),(.slice none 0 0:Value) ])++[(.slice (some ⟨b1,0,none⟩) 1 1:Value) ]++(vc alK)) [(vc vzero)++[(.slice none 0 0:Value),(.slice none 0 0:Value) ],[(.slice none 0 0:Value)],vc vzero] [(vc vzero)++[(.slice none 0 0:Value),(.slice none 0 0:Value) ],[(.slice (some ⟨b1,0,none⟩) 1 1:Value)],vc alK] QsG rfl (rfl) rfl rfl (Qaa (QaM (cs:=((vc vzero)++[(.slice none 0 0:Value),(.slice none 0 0:Value) ])++[(.slice none 0 0:Value) ]++(vc vzero)) QtG rfl hs fun b3 w4 hs=>(Qaa (QcK (V:=.agg (((vc vzero)++[(.slice none 0 0:Value),(.slice none 0 0:Value) ])++[(.slice (some ⟨b1,0,none⟩) 1 1:Value) ]++(vc alK)).toArray) (vs:=((vc vzero)++[(.slice none 0 0:Value),(.slice none 0 0:Value) ])++[(.slice (some ⟨b1,0,none⟩) 1 1:Value) ]++(vc alK)) (cs':=((vc vzero)++[(.slice none 0 0:Value),(.slice none 0 0:Value) ])++[(.slice (some ⟨b1,0,none⟩) 1 1:Value) ]++(vc alK)) QeD.1 hs 1 rfl rfl rfl rfl rfl (QQ8 rfl) (QbT (QbT (QbT (QcB _) (Qav rfl (Qav rfl Qbk))) (Qav rfl Qbk)) (QcB _)) (QaB rfl) fun w5 hs=>(Qaf (Qag (Qab (Qaa (QaG (cs:=((vc vzero)++[(.slice none 0 0:Value),(.slice none 0 0:Value) ])++[(.slice (some ⟨b1,0,none⟩) 1 1:Value) ]++(vc alK)) QeD hs 1 rfl rfl rfl (Qaa (Qbp (V:=.agg (vc (vset vzero 0 1)).toArray) (V':=.agg (vc alK).toArray) (Qbw (vs:=[(0,.int .u32 1)]) (cs:=vc (vset vzero 0 1)) Qh6 (rfl) rfl ⟨rfl,rfl⟩) rfl (Qaa (Qbh (α:=Option Addr × Nat) (vs:=[.agg (((vc vzero)++[(.slice none 0 0:Value),(.slice none 0 0:Value) ])++[(.slice (some ⟨b1,0,none⟩) 1 1:Value) ]++(vc alK)).toArray,.agg (vc alK).toArray,I7 3]) (V:=fun x=>.tuple #[.agg #[I7 ((QaZ alP alK 3).cart),.slice x.1 (((QaZ alP alK 3).lines).length) x.2,.bool ((QaZ alP alK 3).out),.int .u32 ((QaZ alP alK 3).tick)],I6 (Qbb alP alK)]) (Lo:=fun x=>[row (.slice x.1 ((QaZ alP alK 3).lines).length x.2) (((QaZ alP alK 3).lines).map lc) 127 2]) (F:=fun _ _=>True) Qth rfl rfl ?hc hs fun x7 w6 hs _=>?_)))))))))))))))))))))))))))))
 case hc=>exact (QjI _ alP none 0 none 0 (some ⟨b1,0,none⟩) 1 alK QiN 3 hsortE hsortU Qhd (by decide) (by decide) (by decide) (Rd.nil _ 7) (Rd.nil _ 2) (hs.rd 0 rfl))
 replace hs:Own w no w6 [row (.slice (some ⟨b1,0,none⟩) 1 1) ([Qqm].map oc) 98 23,blk b3 (((vc vzero)++[(.slice none 0 0:Value),(.slice none 0 0:Value) ])++[(.slice (some ⟨b1,0,none⟩) 1 1:Value) ]++(vc alK)) 43,row (.slice x7.1 (((QaZ alP alK 3).lines).length) x7.2) (((QaZ alP alK 3).lines).map lc) 127 2]:=hs
 refine Qaa (Qac (V:=.tuple #[.agg #[I7 ((QaZ alP alK 3).cart),.slice x7.1 (((QaZ alP alK 3).lines).length) x7.2,.bool ((QaZ alP alK 3).out),.int .u32 ((QaZ alP alK 3).tick)],I6 (Qbb alP alK)]) rfl (Qaa (Qax (V:=.agg #[I7 ((QaZ alP alK 3).cart),.slice x7.1 (((QaZ alP alK 3).lines).length) x7.2,.bool ((QaZ alP alK 3).out),.int .u32 ((QaZ alP alK 3).tick)]) rfl rfl (Qaa (Qax (V:=I6 (Qbb alP alK)) rfl rfl (Qaa (QaM (cs:=[I7 0,.slice none 0 0,.bool false,.int .u32 0]) Qis rfl hs fun b8 w9 hs=>(Qaa (QcK (V:=.agg #[I7 ((QaZ alP alK 3).cart),.slice x7.1 (((QaZ alP alK 3).lines).length) x7.2,.bool ((QaZ alP alK 3).out),.int .u32 ((QaZ alP alK 3).tick)]) (vs:=[I7 ((QaZ alP alK 3).cart),.slice x7.1 (((QaZ alP alK 3).lines).length) x7.2,.bool ((QaZ alP alK 3).out),.int .u32 ((QaZ alP alK 3).tick)]) (cs':=[I7 ((QaZ alP alK 3).cart),.slice x7.1 (((QaZ alP alK 3).lines).length) x7.2,.bool ((QaZ alP alK 3).out),.int .u32 ((QaZ alP alK 3).tick)]) Qcn.1 hs 3 rfl rfl rfl rfl rfl (QQ8 rfl) (Qav rfl (Qav rfl (Qav rfl (Qav rfl Qbk)))) (QaB rfl) fun w10 hs=>(Qaa (Qad (V:=I6 (Qbb alP alK)) rfl (Qaf (Qag (Qab (Qaa (QaG (cs:=((vc vzero)++[(.slice none 0 0:Value),(.slice none 0 0:Value) ])++[(.slice (some ⟨b1,0,none⟩) 1 1:Value) ]++(vc alK)) QeD hs 1 rfl rfl rfl (Qaa (Qbw (vs:=[]) (cs:=vc vzero) Qh6 (rfl) rfl (Qaa (Qbp (V:=.agg (vc (vset vzero 0 1)).toArray) (V':=.agg (vc alK).toArray) (Qbw (vs:=[(0,.int .u32 1)]) (cs:=vc (vset vzero 0 1)) Qh6 (rfl) rfl ⟨rfl,rfl⟩) rfl (Qaa (Qbh (vs:=[.agg (((vc vzero)++[(.slice none 0 0:Value),(.slice none 0 0:Value) ])++[(.slice (some ⟨b1,0,none⟩) 1 1:Value) ]++(vc alK)).toArray,.agg (vc vzero).toArray,.agg (vc alK).toArray]) (V:=fun x:Option Addr × Nat=>.tuple #[.slice x.1 (Qbt alP vzero alK).length x.2,I6 (QbE alP vzero alK)]) QtC rfl rfl (QkJ _ alP none 0 none 0 (some ⟨b1,0,none⟩) 1 vzero alK Qca QiN hsortE hsortU Qhd (by decide) (by decide) (by decide) (Rd.nil _ 7) (Rd.nil _ 2) (hs.rd 0 rfl)) hs fun x12 w11 hs _=>(Qaa (Qac (V:=.tuple #[.slice x12.1 ((Qbt alP vzero alK).length) x12.2,I6 (QbE alP vzero alK)]) rfl (Qaa (Qax (V:=.slice x12.1 ((Qbt alP vzero alK).length) x12.2) rfl rfl (Qaa (Qax (V:=I6 (QbE alP vzero alK)) rfl rfl (Qaa (Qad (V:=.slice x12.1 ((Qbt alP vzero alK).length) x12.2) rfl (Qaa (Qad (V:=I6 (QbE alP vzero alK)) rfl (Qaf (Qag (Qab (Qaa (QaG (cs:=((vc vzero)++[(.slice none 0 0:Value),(.slice none 0 0:Value) ])++[(.slice (some ⟨b1,0,none⟩) 1 1:Value) ]++(vc alK)) QeD hs 1 rfl rfl rfl (Qaa (Qbp (V:=.agg (vc (vset vzero 0 1)).toArray) (V':=.agg (vc alK).toArray) (Qbw (vs:=[(0,.int .u32 1)]) (cs:=vc (vset vzero 0 1)) Qh6 (rfl) rfl ⟨rfl,rfl⟩) rfl (Qaa (Qbh (vs:=[.agg (((vc vzero)++[(.slice none 0 0:Value),(.slice none 0 0:Value) ])++[(.slice (some ⟨b1,0,none⟩) 1 1:Value) ]++(vc alK)).toArray,.agg (vc alK).toArray,.int .u32 9,.int .u32 4]) (V:=fun x:Option Addr × Nat=>.tuple #[.slice x.1 (abR alP alK 9 4).length x.2,I6 (abI alP alK 9 4)]) Qvw rfl rfl (QtE _ alP none 0 none 0 (some ⟨b1,0,none⟩) 1 alK QiN 9 4 ⟨⟨by decide,by decide⟩,by decide⟩ hsortE hsortU Qhd (by decide) (by decide) (by decide) (Rd.nil _ 7) (Rd.nil _ 2) (hs.rd 0 rfl)) hs fun x14 w13 hs _=>?_)))))))))))))))))))))))))))))))))))))))))
 replace hs:Own w no w13 [row (.slice (some ⟨b1,0,none⟩) 1 1) ([Qqm].map oc) 98 23,blk b3 (((vc vzero)++[(.slice none 0 0:Value),(.slice none 0 0:Value) ])++[(.slice (some ⟨b1,0,none⟩) 1 1:Value) ]++(vc alK)) 43,row (.slice x7.1 (((QaZ alP alK 3).lines).length) x7.2) (((QaZ alP alK 3).lines).map lc) 127 2,blk b8 [I7 ((QaZ alP alK 3).cart),.slice x7.1 (((QaZ alP alK 3).lines).length) x7.2,.bool ((QaZ alP alK 3).out),.int .u32 ((QaZ alP alK 3).tick)] 49,row (.slice x12.1 ((Qbt alP vzero alK).length) x12.2) ((Qbt alP vzero alK).map dfc) 83 5,row (.slice x14.1 ((abR alP alK 9 4).length) x14.2) ((abR alP alK 9 4).map (ic .u16)) 32 1]:=hs
 refine Qaa (Qac (V:=.tuple #[.slice x14.1 ((abR alP alK 9 4).length) x14.2,I6 (abI alP alK 9 4)]) rfl (Qaa (Qax (V:=.slice x14.1 ((abR alP alK 9 4).length) x14.2) rfl rfl (Qaa (Qax (V:=I6 (abI alP alK 9 4)) rfl rfl (Qaa (Qad (V:=.slice x14.1 ((abR alP alK 9 4).length) x14.2) rfl (Qaa (Qad (V:=I6 (abI alP alK 9 4)) rfl (Qaf (Qag (Qab (Qaa (QaG (cs:=((vc vzero)++[(.slice none 0 0:Value),(.slice none 0 0:Value) ])++[(.slice (some ⟨b1,0,none⟩) 1 1:Value) ]++(vc alK)) QeD hs 1 rfl rfl rfl (Qaa (Qbp (V:=.agg (vc (vset vzero 0 2)).toArray) (V':=.agg (vc Qdo).toArray) (Qbw (vs:=[(0,.int .u32 2)]) (cs:=vc (vset vzero 0 2)) Qh6 (rfl) rfl ⟨rfl,rfl⟩) rfl (Qaa (Qbh (α:=Option Addr × Nat) (vs:=[.agg (((vc vzero)++[(.slice none 0 0:Value),(.slice none 0 0:Value) ])++[(.slice (some ⟨b1,0,none⟩) 1 1:Value) ]++(vc alK)).toArray,.agg (vc Qdo).toArray,I7 3]) (V:=fun x=>.tuple #[.agg #[I7 ((QaZ alP Qdo 3).cart),.slice x.1 (((QaZ alP Qdo 3).lines).length) x.2,.bool ((QaZ alP Qdo 3).out),.int .u32 ((QaZ alP Qdo 3).tick)],I6 (Qbb alP Qdo)]) (Lo:=fun x=>[row (.slice x.1 ((QaZ alP Qdo 3).lines).length x.2) (((QaZ alP Qdo 3).lines).map lc) 127 2]) (F:=fun _ _=>True) Qth rfl rfl ?hc hs fun x16 w15 hs _=>?_))))))))))))))))))
 case hc=>exact (QjI _ alP none 0 none 0 (some ⟨b1,0,none⟩) 1 Qdo QqM 3 hsortE hsortU Qhd (by decide) (by decide) (by decide) (Rd.nil _ 7) (Rd.nil _ 2) (hs.rd 0 rfl))
 refine Qaa (Qac (V:=.tuple #[.agg #[I7 ((QaZ alP Qdo 3).cart),.slice x16.1 (((QaZ alP Qdo 3).lines).length) x16.2,.bool ((QaZ alP Qdo 3).out),.int .u32 ((QaZ alP Qdo 3).tick)],I6 (Qbb alP Qdo)]) rfl (Qaa (Qax (V:=.agg #[I7 ((QaZ alP Qdo 3).cart),.slice x16.1 (((QaZ alP Qdo 3).lines).length) x16.2,.bool ((QaZ alP Qdo 3).out),.int .u32 ((QaZ alP Qdo 3).tick)]) rfl rfl (Qaa (Qax (V:=I6 (Qbb alP Qdo)) rfl rfl (Qaa (QaM (cs:=[I7 0,.slice none 0 0,.bool false,.int .u32 0]) Qis rfl hs fun b17 w18 hs=>(Qaa (QcK (V:=.agg #[I7 ((QaZ alP Qdo 3).cart),.slice x16.1 (((QaZ alP Qdo 3).lines).length) x16.2,.bool ((QaZ alP Qdo 3).out),.int .u32 ((QaZ alP Qdo 3).tick)]) (vs:=[I7 ((QaZ alP Qdo 3).cart),.slice x16.1 (((QaZ alP Qdo 3).lines).length) x16.2,.bool ((QaZ alP Qdo 3).out),.int .u32 ((QaZ alP Qdo 3).tick)]) (cs':=[I7 ((QaZ alP Qdo 3).cart),.slice x16.1 (((QaZ alP Qdo 3).lines).length) x16.2,.bool ((QaZ alP Qdo 3).out),.int .u32 ((QaZ alP Qdo 3).tick)]) Qcn.1 hs 7 rfl rfl rfl rfl rfl (QQ8 rfl) (Qav rfl (Qav rfl (Qav rfl (Qav rfl Qbk)))) (QaB rfl) fun w19 hs=>(Qaa (Qad (V:=I6 (Qbb alP Qdo)) rfl (Qaf (Qag (Qab (Qaa (QaG (cs:=((vc vzero)++[(.slice none 0 0:Value),(.slice none 0 0:Value) ])++[(.slice (some ⟨b1,0,none⟩) 1 1:Value) ]++(vc alK)) QeD hs 1 rfl rfl rfl (Qaa (Qbp (V:=.agg (vc (vset vzero 0 1)).toArray) (V':=.agg (vc alK).toArray) (Qbw (vs:=[(0,.int .u32 1)]) (cs:=vc (vset vzero 0 1)) Qh6 (rfl) rfl ⟨rfl,rfl⟩) rfl (Qaa (Qbh (α:=(Option Addr × Nat) × (Option Addr × Nat)) (vs:=[.agg (((vc vzero)++[(.slice none 0 0:Value),(.slice none 0 0:Value) ])++[(.slice (some ⟨b1,0,none⟩) 1 1:Value) ]++(vc alK)).toArray,.agg (vc alK).toArray]) (V:=fun x:(Option Addr × Nat) × (Option Addr × Nat)=>.tuple #[.agg (vc (Qah alP alK).known++[(.slice x.1.1 ((Qah alP alK).ents).length x.1.2:Value),(.slice x.2.1 ((Qah alP alK).ticks).length x.2.2:Value)]).toArray,I6 (Qbb alP alK)]) (Lo:=fun x=>[row (.slice x.1.1 ((Qah alP alK).ents).length x.1.2) (((Qah alP alK).ents).map cec) 106 7,row (.slice x.2.1 ((Qah alP alK).ticks).length x.2.2) (((Qah alP alK).ticks).map lsc) 102 2]) (F:=fun _ _=>True) Qna rfl rfl ?hc hs fun x21 w20 hs _=>?_))))))))))))))))))))
 case hc=>exact (Qeb _ alP none 0 none 0 (some ⟨b1,0,none⟩) 1 alK QiN hsortE hsortU Qhd (by decide) (by decide) (by decide) (Rd.nil _ 7) (Rd.nil _ 2) (hs.rd 0 rfl))
 replace hs:Own w no w20 [row (.slice (some ⟨b1,0,none⟩) 1 1) ([Qqm].map oc) 98 23,blk b3 (((vc vzero)++[(.slice none 0 0:Value),(.slice none 0 0:Value) ])++[(.slice (some ⟨b1,0,none⟩) 1 1:Value) ]++(vc alK)) 43,row (.slice x7.1 (((QaZ alP alK 3).lines).length) x7.2) (((QaZ alP alK 3).lines).map lc) 127 2,blk b8 [I7 ((QaZ alP alK 3).cart),.slice x7.1 (((QaZ alP alK 3).lines).length) x7.2,.bool ((QaZ alP alK 3).out),.int .u32 ((QaZ alP alK 3).tick)] 49,row (.slice x12.1 ((Qbt alP vzero alK).length) x12.2) ((Qbt alP vzero alK).map dfc) 83 5,row (.slice x14.1 ((abR alP alK 9 4).length) x14.2) ((abR alP alK 9 4).map (ic .u16)) 32 1,row (.slice x16.1 (((QaZ alP Qdo 3).lines).length) x16.2) (((QaZ alP Qdo 3).lines).map lc) 127 2,blk b17 [I7 ((QaZ alP Qdo 3).cart),.slice x16.1 (((QaZ alP Qdo 3).lines).length) x16.2,.bool ((QaZ alP Qdo 3).out),.int .u32 ((QaZ alP Qdo 3).tick)] 49,row (.slice x21.1.1 (((Qah alP alK).ents).length) x21.1.2) (((Qah alP alK).ents).map cec) 106 7,row (.slice x21.2.1 (((Qah alP alK).ticks).length) x21.2.2) (((Qah alP alK).ticks).map lsc) 102 2]:=hs
 refine Qaa (Qac (V:=.tuple #[.agg ((vc ((Qah alP alK).known))++[(.slice x21.1.1 (((Qah alP alK).ents).length) x21.1.2:Value),(.slice x21.2.1 (((Qah alP alK).ticks).length) x21.2.2:Value) ]).toArray,I6 (Qbb alP alK)]) rfl (Qaa (Qax (V:=.agg ((vc ((Qah alP alK).known))++[(.slice x21.1.1 (((Qah alP alK).ents).length) x21.1.2:Value),(.slice x21.2.1 (((Qah alP alK).ticks).length) x21.2.2:Value) ]).toArray) rfl rfl (Qaa (Qax (V:=I6 (Qbb alP alK)) rfl rfl (Qaa (QaM (cs:=(vc vzero)++[(.slice none 0 0:Value),(.slice none 0 0:Value) ]) QhN rfl hs fun b22 w23 hs=>(Qaa (QcK (V:=.agg ((vc ((Qah alP alK).known))++[(.slice x21.1.1 (((Qah alP alK).ents).length) x21.1.2:Value),(.slice x21.2.1 (((Qah alP alK).ticks).length) x21.2.2:Value) ]).toArray) (vs:=(vc ((Qah alP alK).known))++[(.slice x21.1.1 (((Qah alP alK).ents).length) x21.1.2:Value),(.slice x21.2.1 (((Qah alP alK).ticks).length) x21.2.2:Value) ]) (cs':=(vc ((Qah alP alK).known))++[(.slice x21.1.1 (((Qah alP alK).ents).length) x21.1.2:Value),(.slice x21.2.1 (((Qah alP alK).ticks).length) x21.2.2:Value) ]) QcJ.1 hs 10 rfl rfl rfl rfl rfl (QQ8 rfl) (QbT (QcB _) (Qav rfl (Qav rfl Qbk))) (QaB rfl) fun w24 hs=>(Qaa (Qad (V:=I6 (Qbb alP alK)) rfl (Qaf (Qag ?_)))))))))))))
 have hdl:(Qbt alP vzero alK).length=1:=by rw [QqV];rfl
 refine Qab (Qaa (Qac (V:=I6 (Qbb alP alK)) rfl (Qaa (Qbp (V:=.bool (decide (Qbb alP alK=0))) (V':=.bool true) (QaS rfl rfl ⟨rfl,rfl⟩) (congrArg Value.bool (QQ3 Qft)) (Qaa (Qac (V:=.bool true) rfl (Qco rfl (Qae QcS rfl (Qco rfl (QaE (V:=.slice x7.1 (((QaZ alP alK 3).lines).length) x7.2) QfL hs 3 rfl rfl rfl (Qco rfl (Qa2 (n:=((QaZ alP alK 3).lines).length) Qdc (hs.rd 2 rfl) (by simp) rfl (Qco rfl (Qbp (V:=.bool (decide (((((QaZ alP alK 3).lines).length:Nat):Int)=1))) (V':=.bool true) (QaS rfl rfl ⟨rfl,rfl⟩) (congrArg Value.bool (by rw [Qrk];rfl)) (Qaa (QcX (V:=.bool true) rfl rfl (Qaa (Qac (V:=.bool true) rfl (Qco rfl (Qac (V:=I6 (QbE alP vzero alK)) rfl (Qco rfl (Qbp (V:=.bool (decide (QbE alP vzero alK=0))) (V':=.bool true) (QaS rfl rfl ⟨rfl,rfl⟩) (congrArg Value.bool (QQ3 Qtd)) (Qaa (QcX (V:=.bool true) rfl rfl (Qaa (Qac (V:=.bool true) rfl (Qco rfl (Qac (V:=.slice x12.1 ((Qbt alP vzero alK).length) x12.2) rfl (Qco rfl (Qa2 (n:=(Qbt alP vzero alK).length) Qm7 (hs.rd 4 rfl) (by simp) rfl (Qco rfl (Qbp (V:=.bool (decide ((((Qbt alP vzero alK).length:Nat):Int)=1))) (V':=.bool true) (QaS rfl rfl ⟨rfl,rfl⟩) (congrArg Value.bool (by rw [QqV];rfl)) (Qaa (QcX (V:=.bool true) rfl rfl (Qaa (Qac (V:=.bool true) rfl (Qco rfl (Qac (V:=.slice x12.1 ((Qbt alP vzero alK).length) x12.2) rfl (Qco rfl (Qaw Qm7 Qf7.1 (hs.rd 4 rfl) rfl rfl (by decide) (by rw [QQ6];omega) (Qco rfl (Qa1 (j:=0) (vs:=dfc (gd (Qbt alP vzero alK) 0)) 0 Qf7 (hs.rd 4 rfl) (QaT (by omega)) rfl rfl rfl (by omega) (Qco rfl (Qbw (vs:=[(0,I7 3),(1,I7 4),(4,.int .u32 2)]) (cs:=dfc (⟨3,4,false,0,2⟩:Dif)) QrC (rfl) rfl (Qco rfl (Qbp (V:=.bool (decide (gd (Qbt alP vzero alK) 0=(⟨3,4,false,0,2⟩:Dif)))) (V':=.bool true) (Qpt (xs:=dfc (gd (Qbt alP vzero alK) 0)) (ys:=dfc (⟨3,4,false,0,2⟩:Dif)) Tryz.eqGuardType83 (Qv7 (gd (Qbt alP vzero alK) 0) (⟨3,4,false,0,2⟩:Dif)) rfl rfl rfl ⟨rfl,rfl⟩) (congrArg Value.bool (by rw [QqV];rfl)) (Qaa (QcX (V:=.bool true) rfl rfl (Qaa (Qac (V:=.bool true) rfl (Qco rfl (Qac (V:=I6 (abI alP alK 9 4)) rfl (Qco rfl (Qbp (V:=.bool (decide (abI alP alK 9 4=0))) (V':=.bool true) (QaS rfl rfl ⟨rfl,rfl⟩) (congrArg Value.bool (QQ3 QsA)) (Qaa (QcX (V:=.bool true) rfl rfl (Qaa (Qac (V:=.bool true) rfl (Qco rfl (Qac (V:=.slice x14.1 ((abR alP alK 9 4).length) x14.2) rfl (Qco rfl (Qa2 (n:=(abR alP alK 9 4).length) QaL (hs.rd 5 rfl) (by simp) rfl (Qco rfl (Qbp (V:=.bool (decide ((((abR alP alK 9 4).length:Nat):Int)=1))) (V':=.bool true) (QaS rfl rfl ⟨rfl,rfl⟩) (congrArg Value.bool (by rw [Qvt];rfl)) (Qaa (QcX (V:=.bool true) rfl rfl (Qaa (Qac (V:=.bool true) rfl (Qco rfl (Qac (V:=I6 (Qbb alP Qdo)) rfl (Qco rfl (Qbp (V:=.bool (decide (Qbb alP Qdo=11))) (V':=.bool true) (QaS rfl rfl ⟨rfl,rfl⟩) (congrArg Value.bool (QQ3 Qsk)) (Qaa (QcX (V:=.bool true) rfl rfl (Qaa (Qac (V:=.bool true) rfl (Qco rfl (Qac (V:=I6 (Qbb alP alK)) rfl (Qco rfl (Qbp (V:=.bool (decide (Qbb alP alK=0))) (V':=.bool true) (QaS rfl rfl ⟨rfl,rfl⟩) (congrArg Value.bool (QQ3 Qft)) ?_))))))))))))))))))))))))))))))))))))))))))))))))))))))))))))))))))))))))))))))))
 refine Qaa (QcX (V:=.bool true) rfl rfl (Qaa (Qac (V:=.bool true) rfl (Qco rfl (Qae QeH rfl (Qco rfl (QaE (V:=.slice x21.1.1 (((Qah alP alK).ents).length) x21.1.2) QjH hs 10 rfl rfl rfl (Qco rfl (Qa2 (n:=((Qah alP alK).ents).length) QbM (hs.rd 8 rfl) (by simp) rfl (Qco rfl (Qbp (V:=.bool (decide (((((Qah alP alK).ents).length:Nat):Int)=1))) (V':=.bool true) (QaS rfl rfl ⟨rfl,rfl⟩) (congrArg Value.bool (by rw [Qrp];rfl)) (Qaa (QcX (V:=.bool true) rfl rfl (Qaa (Qac (V:=.bool true) rfl (Qco rfl (QaG (cs:=((vc vzero)++[(.slice none 0 0:Value),(.slice none 0 0:Value) ])++[(.slice (some ⟨b1,0,none⟩) 1 1:Value) ]++(vc alK)) QeD hs 1 rfl rfl rfl (Qco rfl (Qbp (V:=.agg (vc (vset (vset vzero 0 0) 1 1)).toArray) (V':=.agg (vc QrD).toArray) (Qbw (vs:=[(0,.int .u32 0),(1,.int .u32 1)]) (cs:=vc (vset (vset vzero 0 0) 1 1)) Qh6 (rfl) rfl ⟨rfl,rfl⟩) rfl (Qco rfl (Qat (vs:=[.agg (((vc vzero)++[(.slice none 0 0:Value),(.slice none 0 0:Value) ])++[(.slice (some ⟨b1,0,none⟩) 1 1:Value) ]++(vc alK)).toArray,.agg (vc QrD).toArray]) (V:=I6 (Qbb alP QrD)) Qtz rfl rfl ?hc hs fun w25 hs=>?_)))))))))))))))))))))
 case hc=>exact (QmJ _ alP none 0 none 0 (some ⟨b1,0,none⟩) 1 QrD QqY Qhd (by decide) (by decide) (by decide) (Rd.nil _ 7) (Rd.nil _ 2) (hs.rd 0 rfl))
 refine Qco rfl (Qbp (V:=.bool (decide (Qbb alP QrD=11))) (V':=.bool true) (QaS rfl rfl ⟨rfl,rfl⟩) (congrArg Value.bool (QQ3 Qq3)) (Qaa (QcX (V:=.bool true) rfl rfl (Qaa (Qad (V:=.bool true) rfl (Qaf (Qau ?_)))))))
 refine ⟨_,Qaq (V:=.bool true) Tryz.results10 rfl,(Zr hs ?_)⟩
 rfl
end Tt
end Go.Proofs
namespace Go.Proofs
open Go Go.Vx Go.RowKit
namespace Tt
theorem Qpf (w:World) (a b:Option Addr) (c e:Nat) (l l2:List Dif) (hr:Rd w (.slice a l.length c) 5 (l.map dfc)) (hq:Rd w (.slice b l2.length e) 5 (l2.map dfc)):Calls Tryz.prog 24 #[.slice a l.length c,.slice b l2.length e] w (fun e w'=>e = .returned (.bool (decide (l=l2)))/\Own w no w' []):=by
 refine Qaj (n:=26) Tryz.func24 rfl Tryz.ntmps24 rfl ?_
 have hs:=Own.start w
 have hn:=hr.sml
 refine Qag (Qab (Qaa (Qad (V:=.bool false) rfl (Qaf (Qag (Qag (Qab (Qaa (Qac (V:=.slice a l.length c) rfl (Qaa (Qa2 (n:=l.length) Qm7 (Rd.own' hr hs) (by simp) rfl (Qaa (Qac (V:=.slice b l2.length e) rfl (Qaa (Qa2 (n:=l2.length) Qto (Rd.own' hq hs) (by simp) rfl (Qaa (Qch rfl rfl (Qaf (Qan (t:=!decide (((l.length:Nat):Int)=((l2.length:Nat):Int))) rfl (fun c1=>?_) (fun c1=>?_))))))))))))))))))))
 ·
  replace c1:=Qbn c1
  replace c1:=QQ2 c1
  refine Qag (Qab (Qaa (Qad (V:=.bool false) rfl (Qaf (Qau ?_)))))
  refine ⟨_,Qaq (V:=.bool false) Tryz.results24 rfl,(Zr hs (congrArg Value.bool (QQ4 fun e=>?_).symm))⟩
  subst e
  omega
 replace c1:=Qbf c1
 replace c1:=QQ1 c1
 refine Qap (Qag (Qag (Qab (Qaa (Qac (V:=.slice a l.length c) rfl (Qaa (Qa2 (n:=l.length) Qm7 (Rd.own' hr hs) (by simp) rfl (Qaa (Qac (V:=I6 0) rfl (Qaf (Qam (QaA (fun J μ J' w'=>∃ (Jo:Env) (k:Nat),J'=upd (mix ([4,5,6]++sq 14 12) Jo J) 14 (I6 (k:Int))/\(k<=l.length)/\(∀ j:Nat,j<k->gd l j=gd l2 j)/\μ=l.length-k/\Own w no w' []) ?_ ?_))))))))))))
 ·exact ⟨_,_,0,Qai (Qao (ds:=([4,5,6]++sq 14 12)) (Agr.refl _ _)) rfl,(by omega),(fun j hj=>absurd hj (Nat.not_lt_zero j)),rfl,hs⟩
 rintro μ J' w2 ⟨Jo,k,rfl,hk,heq,rfl,hs⟩
 refine Qag (Qab (Qaa (QaQ rfl rfl (Qaf (Qag (Qan (t:=decide ((k:Int)<((l.length:Nat):Int))) rfl (fun c3=>?_) (fun c3=>?_)))))))
 ·
  replace c3:=QQ1 c3
  refine Qap (Qag (Qam (Qag (Qab (Qaa (Qac (V:=I6 (k:Int)) rfl (Qaa (Qaw Qm7 Qf7.1 (Rd.own' hr hs) rfl rfl (by omega) (by rw [QQ6];omega) (Qaa (Qa1 (j:=0) (vs:=dfc (gd l k)) k Qf7 (Rd.own' hr hs) (QaT (by omega)) rfl rfl rfl (by omega) (Qaa (QaM (cs:=dfc (⟨0,0,false,0,0⟩:Dif)) Qty rfl hs fun b4 w5 hs=>(Qaa (Qad (V:=I6 (k:Int)) rfl (Qaa (QcK (V:=.agg (dfc (gd l k)).toArray) (vs:=dfc (gd l k)) (cs':=dfc (gd l k)) Qf7.1 hs 0 rfl rfl rfl rfl rfl (QQ8 rfl) (QdJ _) (QaB rfl) fun w6 hs=>(Qaf (Qag (QaI HM [some 19,some 20,some 21,some 22,some 23,some 24] [] [0,0,0,6,14,31] [pv (.agg (dfc (gd l k)).toArray),pv (.slice b l2.length e),pv (I6 (k:Int)),pv (.pointer (some ⟨bkS (.slice b l2.length e),ofS (.slice b l2.length e)+(k:Int).toNat*5,none⟩)),pv (.agg (dfc (gd l2 k)).toArray),pv (.bool (!decide (gd l k=gd l2 k)))] (fun _ _=>_) [5] (by kernel_rfl) hs ⟨?_,?_,?_,?_,?_,?_,trivial⟩ ?_)))))))))))))))))))
  ·exact oa [] fun D J w hs=>QaG (cs:=dfc (gd l k)) Qf7 hs 0 rfl rfl rfl (Zz hs)
  ·exact oa [] fun D J w hs=>Qac (V:=.slice b l2.length e) rfl (Zz hs)
  ·exact oa [] fun D J w hs=>Qac (V:=.int .i64 (k:Int)) rfl (Zz hs)
  ·exact oa [1,2] fun D J w hs=>Qaw Qto Qql.1 (Rd.own' hq hs) rfl rfl (by omega) (by rw [QQ6];omega) (Zz hs)
  ·exact oa [3] fun D J w hs=>Qa1 (j:=0) (vs:=dfc (gd l2 k)) k Qql (Rd.own' hq hs) (QaT (by omega)) rfl rfl rfl (by omega) (Zz hs)
  ·exact oa [0,4] fun D J w hs=>QuL (xs:=dfc (gd l k)) (ys:=dfc (gd l2 k)) Tryz.eqGuardType132 (Qt5 (gd l k) (gd l2 k)) rfl rfl rfl (Zz hs)
  rintro J1 w7 J2 hJ hs
  replace hJ:J2=upd (mix (sq 19 6) J1 _) 24 (.bool (!decide (gd l k=gd l2 k))):=hJ
  subst hJ
  refine Qan (t:=!decide (gd l k=gd l2 k)) rfl (fun c8=>?_) (fun c8=>?_)
  ·
   replace c8:=Qbn c8
   replace c8:=QQ2 c8
   refine Qag (Qab (Qaa (Qad (V:=.bool false) rfl (Qaf (Qau ?_)))))
   refine ⟨_,Qaq (V:=.bool false) Tryz.results24 rfl,(Zr hs (congrArg Value.bool (QQ4 fun e=>?_).symm))⟩
   subst e
   exact c8 rfl
  replace c8:=Qbf c8
  replace c8:=QQ1 c8
  refine Qap (Qab (Qaa (QaD (a:=(k:Int)) (b:=1) (c:=(k:Int)+1) rfl rfl (QbH (by omega) (by omega)) (Qaa (Qac (V:=I6 ((k:Int)+1)) rfl (Qaf ?_))))))
  refine ⟨_,?_,_,k+1,Qai (Qao (ds:=([4,5,6]++sq 14 12)) (by repeat (first|exact Agr.refl _ _|refine Agr.upd ?_ rfl|refine Agr.mix ?_ rfl))) rfl,(by omega),(Qn1 heq c8),rfl,hs.take 0⟩
  omega
 replace c3:=QQ2 c3
 refine QaF (Qag (Qab (Qaa (Qad (V:=.bool true) rfl (Qaf (Qau ?_))))))
 refine ⟨_,Qaq (V:=.bool true) Tryz.results24 rfl,(Zr hs ?_)⟩
 exact congrArg Value.bool (QQ3 (Ql8 (by omega) fun j hj=>heq j (by omega))).symm
end Tt
end Go.Proofs
namespace Go.Proofs
open Go Go.Vx Go.RowKit
namespace Tt
theorem cutsDiffs_ok (w:World) (p:Pst) (a1:Option Addr) (c1:Nat) (a2:Option Addr) (c2:Nat) (a3:Option Addr) (c3:Nat) (a b:Vec) (hsortE:QgY Tryz.prog 48 49 cec 106 7 QjX) (hsortU:QgT Tryz.prog 134 .u16 32) (hok:Qc0 p) (ha:QbV a) (hb:QbV b) (hr1:Rd w (.slice a1 p.base.ents.length c1) 7 (p.base.ents.map cec)) (hr2:Rd w (.slice a2 p.base.ticks.length c2) 2 (p.base.ticks.map lsc)) (hr3:Rd w (.slice a3 p.ops.length c3) 23 (p.ops.map oc)):Calls Tryz.prog 4 #[.agg (((vc p.base.known)++[(.slice a1 p.base.ents.length c1:Value),(.slice a2 p.base.ticks.length c2:Value) ])++[(.slice a3 p.ops.length c3:Value) ]++(vc p.known)).toArray,.agg (vc a).toArray,.agg (vc b).toArray] w (fun e w'=>e = .returned (.bool true)/\Own w no w' []):=by
 refine Qaj (n:=39) Tryz.func4 rfl Tryz.ntmps4 rfl ?_
 have hs:=Own.start w
 refine Qag (Qab (Qaa (QaN (V:=.agg (((vc p.base.known)++[(.slice a1 p.base.ents.length c1:Value),(.slice a2 p.base.ticks.length c2:Value) ])++[(.slice a3 p.ops.length c3:Value) ]++(vc p.known)).toArray) (cs:=((vc p.base.known)++[(.slice a1 p.base.ents.length c1:Value),(.slice a2 p.base.ticks.length c2:Value) ])++[(.slice a3 p.ops.length c3:Value) ]++(vc p.known)) rfl rfl hs fun b1 w2 hs=>(Qaa (QaN (V:=.agg (vc a).toArray) (cs:=vc a) rfl rfl hs fun b3 w4 hs=>(Qaa (QaN (V:=.agg (vc b).toArray) (cs:=vc b) rfl rfl hs fun b5 w6 hs=>(Qaa (Qad (V:=.bool false) rfl (Qaf (Qag (Qag (Qab (Qaa (Qat (vs:=[]) (V:=.bool true) Qvf rfl rfl ?hc hs fun w7 hs=>?_)))))))))))))))
 case hc=>exact (Qlt _ hsortE hsortU)
 refine Qaa (Qbz rfl (Qaf (Qcy rfl ?_)))
 refine Qap (Qag (Qag (Qab (Qaa (QaG (cs:=((vc p.base.known)++[(.slice a1 p.base.ents.length c1:Value),(.slice a2 p.base.ticks.length c2:Value) ])++[(.slice a3 p.ops.length c3:Value) ]++(vc p.known)) QjF hs 0 rfl rfl rfl (Qaa (Qat (vs:=[.agg (((vc p.base.known)++[(.slice a1 p.base.ents.length c1:Value),(.slice a2 p.base.ticks.length c2:Value) ])++[(.slice a3 p.ops.length c3:Value) ]++(vc p.known)).toArray]) (V:=.bool (Qhv p.base&&decide (((p.ops.length:Nat):Int)<=30))) Qu4 rfl rfl ?hc hs fun w8 hs=>?_)))))))
 case hc=>exact (Qrw _ p a1 c1 a2 c2 a3 c3 (Rd.own' hr1 hs) (Rd.own' hr2 hs) (Rd.own' hr3 hs))
 refine Qaa (Qbz rfl (Qaf (Qan (t:=!(Qhv p.base&&decide (((p.ops.length:Nat):Int)<=30))) rfl (fun c9=>?_) (fun c9=>?_))))
 ·
  replace c9:=Qbn c9
  refine Qag (Qab (Qaa (Qad (V:=.bool true) rfl (Qaf (Qau ?_)))))
  refine ⟨_,Qaq (V:=.bool true) Tryz.results4 rfl,(Zr hs ?_)⟩
  rfl
 replace c9:=Qbf c9
 have c9r:=QbF c9
 replace c9:=QbD c9
 replace c9r:=QQ1 c9r
 refine Qap (Qag ?_)
 have ⟨hf1,hf2⟩:=Qtj c9
 replace hs:=hs.more emp trivial
 replace hs:=hs.more emp trivial
 replace hs:=hs.more emp trivial
 refine QaI HM [some 17,some 18,some 19,some 20,some 21,some 16,some 22,some 23,some 7,some 8] [[],[18],[],[],[21],[21],[21],[],[21]] [0,1,0,0,15,31,63,63,127,511] [pv (.agg (((vc p.base.known)++[(.slice a1 p.base.ents.length c1:Value),(.slice a2 p.base.ticks.length c2:Value) ])++[(.slice a3 p.ops.length c3:Value) ]++(vc p.known)).toArray),(true,fun J=>.agg (((vc p.base.known)++[(.slice (aOf (Qbq (J 18) 16)) p.base.ents.length (cOf (Qbq (J 18) 16)):Value),(.slice (aOf (Qbq (J 18) 17)) p.base.ticks.length (cOf (Qbq (J 18) 17)):Value) ])++[(.slice a3 p.ops.length c3:Value) ]++(vc p.known)).toArray),pv (.agg (vc a).toArray),pv (.agg (vc b).toArray),(true,fun J=>.tuple #[.slice (aOf (QgO (J 21) 0)) ((Qbt p a b).length) (cOf (QgO (J 21) 0)),I6 (QbE p a b)]),(true,fun J=>.tuple #[.slice (aOf (QgO (J 21) 0)) ((Qbt p a b).length) (cOf (QgO (J 21) 0)),I6 (QbE p a b)]),(true,fun J=>.slice (aOf (QgO (J 21) 0)) ((Qbt p a b).length) (cOf (QgO (J 21) 0))),pv (I6 (QbE p a b)),(true,fun J=>.slice (aOf (QgO (J 21) 0)) ((Qbt p a b).length) (cOf (QgO (J 21) 0))),pv (I6 (QbE p a b))] (fun D J=>[blk b1 (((vc p.base.known)++[(.slice a1 p.base.ents.length c1:Value),(.slice a2 p.base.ticks.length c2:Value) ])++[(.slice a3 p.ops.length c3:Value) ]++(vc p.known)) 31,blk b3 (vc a) 24,blk b5 (vc b) 24,cond (D 1) (row (.slice (aOf (Qbq (J 18) 16)) p.base.ents.length (cOf (Qbq (J 18) 16))) (p.base.ents.map cec) 106 7) (emp),cond (D 1) (row (.slice (aOf (Qbq (J 18) 17)) p.base.ticks.length (cOf (Qbq (J 18) 17))) (p.base.ticks.map lsc) 102 2) (emp),cond (D 4) (row (.slice (aOf (QgO (J 21) 0)) ((Qbt p a b).length) (cOf (QgO (J 21) 0))) ((Qbt p a b).map dfc) 83 5) (emp)]) [9,8] (by kernel_rfl) hs ⟨?_,?_,?_,?_,?_,?_,?_,?_,?_,?_,trivial⟩ ?_
 ·exact oa [] fun D J w hs=>QaG (cs:=((vc p.base.known)++[(.slice a1 p.base.ents.length c1:Value),(.slice a2 p.base.ticks.length c2:Value) ])++[(.slice a3 p.ops.length c3:Value) ]++(vc p.known)) QjF hs 0 rfl rfl rfl (Zz hs)
 ·exact oa [0] fun D J w hs=>Qbh (α:=(Option Addr × Nat) × (Option Addr × Nat)) (vs:=[.agg (((vc p.base.known)++[(.slice a1 p.base.ents.length c1:Value),(.slice a2 p.base.ticks.length c2:Value) ])++[(.slice a3 p.ops.length c3:Value) ]++(vc p.known)).toArray]) (V:=fun y=>.agg (((vc p.base.known)++[(.slice y.1.1 p.base.ents.length y.1.2:Value),(.slice y.2.1 p.base.ticks.length y.2.2:Value) ])++[(.slice a3 p.ops.length c3:Value) ]++(vc p.known)).toArray) (Lo:=fun y=>[row (.slice y.1.1 p.base.ents.length y.1.2) (p.base.ents.map cec) 106 7,row (.slice y.2.1 p.base.ticks.length y.2.2) (p.base.ticks.map lsc) 102 2]) (F:=fun _ _=>True) QvJ rfl rfl (Qlf _ p a1 c1 a2 c2 a3 c3 hok (by omega) (by omega) (by omega) (Rd.own' hr1 hs) (Rd.own' hr2 hs) (Rd.own' hr3 hs)) hs fun _ _ hs _=>⟨rfl,hs.put2 3 4 (QQ8 rfl) (QQ8 rfl)⟩
 ·exact oa [] fun D J w hs=>QaG (cs:=vc a) QbA hs 1 rfl rfl rfl (Zz hs)
 ·exact oa [] fun D J w hs=>QaG (cs:=vc b) QbA hs 2 rfl rfl rfl (Zz hs)
 ·exact oa [1,2,3] fun D J w hs=>Qbh (vs:=[.agg (((vc p.base.known)++[(.slice (aOf (Qbq (J 18) 16)) p.base.ents.length (cOf (Qbq (J 18) 16)):Value),(.slice (aOf (Qbq (J 18) 17)) p.base.ticks.length (cOf (Qbq (J 18) 17)):Value) ])++[(.slice a3 p.ops.length c3:Value) ]++(vc p.known)).toArray,.agg (vc a).toArray,.agg (vc b).toArray]) (V:=fun x:Option Addr × Nat=>.tuple #[.slice x.1 (Qbt p a b).length x.2,.int .i64 (QbE p a b)]) QtC rfl rfl (QkJ _ p (aOf (Qbq (J 18) 16)) (cOf (Qbq (J 18) 16)) (aOf (Qbq (J 18) 17)) (cOf (Qbq (J 18) 17)) a3 c3 a b ha hb hsortE hsortU hok (by omega) (by omega) (by omega) (hs.rd 3 rfl) (hs.rd 4 rfl) (Rd.own' hr3 hs)) hs fun _ _ hs _=>⟨rfl,hs.put 5 (QQ8 rfl)⟩
 ·exact oa [4] fun D J w hs=>Qac (V:=.tuple #[.slice (aOf (QgO (J 21) 0)) ((Qbt p a b).length) (cOf (QgO (J 21) 0)),.int .i64 (QbE p a b)]) rfl (Zz hs)
 ·exact oa [5] fun D J w hs=>Qax (V:=.slice (aOf (QgO (J 21) 0)) ((Qbt p a b).length) (cOf (QgO (J 21) 0))) rfl rfl (Zz hs)
 ·exact oa [5] fun D J w hs=>Qax (V:=.int .i64 (QbE p a b)) rfl rfl (Zz hs)
 ·exact oa [6] fun D J w hs=>Qad (V:=.slice (aOf (QgO (J 21) 0)) ((Qbt p a b).length) (cOf (QgO (J 21) 0))) rfl (Zz hs)
 ·exact oa [7] fun D J w hs=>Qad (V:=.int .i64 (QbE p a b)) rfl (Zz hs)
 rintro J1 w12 J2 hJ hs
 replace hJ:J2=upd (upd (mix [17,18,19,20,21,16,22,23,7,8] J1 _) 7 (.slice (aOf (QgO (J1 21) 0)) ((Qbt p a b).length) (cOf (QgO (J1 21) 0)))) 8 (I6 (QbE p a b)):=hJ
 replace hs:Own w no w12 [blk b1 (((vc p.base.known)++[(.slice a1 p.base.ents.length c1:Value),(.slice a2 p.base.ticks.length c2:Value) ])++[(.slice a3 p.ops.length c3:Value) ]++(vc p.known)) 31,blk b3 (vc a) 24,blk b5 (vc b) 24,row (.slice (aOf (Qbq (J1 18) 16)) p.base.ents.length (cOf (Qbq (J1 18) 16))) (p.base.ents.map cec) 106 7,row (.slice (aOf (Qbq (J1 18) 17)) p.base.ticks.length (cOf (Qbq (J1 18) 17))) (p.base.ticks.map lsc) 102 2,row (.slice (aOf (QgO (J1 21) 0)) ((Qbt p a b).length) (cOf (QgO (J1 21) 0))) ((Qbt p a b).map dfc) 83 5]:=hs
 generalize (aOf (Qbq (J1 18) 16))=na13 at hs
 generalize (cOf (Qbq (J1 18) 16))=nc14 at hs
 generalize (aOf (Qbq (J1 18) 17))=na15 at hs
 generalize (cOf (Qbq (J1 18) 17))=nc16 at hs
 generalize (aOf (QgO (J1 21) 0))=a17 at hJ hs
 generalize (cOf (QgO (J1 21) 0))=c18 at hJ hs
 subst hJ
 refine Qag (Qab (Qaa (QaG (cs:=((vc p.base.known)++[(.slice a1 p.base.ents.length c1:Value),(.slice a2 p.base.ticks.length c2:Value) ])++[(.slice a3 p.ops.length c3:Value) ]++(vc p.known)) QjF hs 0 rfl rfl rfl (Qaa (QaG (cs:=vc a) QbA hs 1 rfl rfl rfl (Qaa (QaG (cs:=vc b) QbA hs 2 rfl rfl rfl (Qaa (Qbh (vs:=[.agg (((vc p.base.known)++[(.slice a1 p.base.ents.length c1:Value),(.slice a2 p.base.ticks.length c2:Value) ])++[(.slice a3 p.ops.length c3:Value) ]++(vc p.known)).toArray,.agg (vc a).toArray,.agg (vc b).toArray]) (V:=fun x:Option Addr × Nat=>.tuple #[.slice x.1 (Qbt p a b).length x.2,I6 (QbE p a b)]) QuT rfl rfl (Qn0 _ p a1 c1 a2 c2 a3 c3 a b ha hb  hok (by omega) (by omega) (by omega) (Rd.own' hr1 hs) (Rd.own' hr2 hs) (Rd.own' hr3 hs)) hs fun x20 w19 hs _=>?_)))))))))
 replace hs:Own w no w19 [blk b1 (((vc p.base.known)++[(.slice a1 p.base.ents.length c1:Value),(.slice a2 p.base.ticks.length c2:Value) ])++[(.slice a3 p.ops.length c3:Value) ]++(vc p.known)) 31,blk b3 (vc a) 24,blk b5 (vc b) 24,row (.slice na13 p.base.ents.length nc14) (p.base.ents.map cec) 106 7,row (.slice na15 p.base.ticks.length nc16) (p.base.ticks.map lsc) 102 2,row (.slice a17 ((Qbt p a b).length) c18) ((Qbt p a b).map dfc) 83 5,row (.slice x20.1 ((Qbt p a b).length) x20.2) ((Qbt p a b).map dfc) 132 5]:=hs
 refine Qaa (Qac (V:=.tuple #[.slice x20.1 ((Qbt p a b).length) x20.2,I6 (QbE p a b)]) rfl (Qaa (Qax (V:=.slice x20.1 ((Qbt p a b).length) x20.2) rfl rfl (Qaa (Qax (V:=I6 (QbE p a b)) rfl rfl (Qaa (Qad (V:=.slice x20.1 ((Qbt p a b).length) x20.2) rfl (Qaa (Qad (V:=I6 (QbE p a b)) rfl (Qaf (Qag (Qbj [some 31,some 32,some 33,some 34,some 35,some 36,some 37,some 38,some 6] [] [0,0,3,7,15,15,63,127,255] [pv (.slice a17 ((Qbt p a b).length) c18),pv (.slice x20.1 ((Qbt p a b).length) x20.2),pv (.bool true),pv (.bool true),pv (I6 (QbE p a b)),pv (I6 (QbE p a b)),pv (.bool true),pv (.bool true),pv (.bool true)] (fun _ _=>_) [8] (by kernel_rfl) hs ⟨?_,?_,?_,?_,?_,?_,?_,?_,?_,trivial⟩ ?_))))))))))))
 ·exact oa [] fun D J w hs=>Qac (V:=.slice a17 ((Qbt p a b).length) c18) rfl (Zz hs)
 ·exact oa [] fun D J w hs=>Qac (V:=.slice x20.1 ((Qbt p a b).length) x20.2) rfl (Zz hs)
 ·exact oa [0,1] fun D J w hs=>Qka (V':=.bool true) (congrArg Value.bool (by simp)) (vs:=[.slice a17 ((Qbt p a b).length) c18,.slice x20.1 ((Qbt p a b).length) x20.2]) (V:=.bool (decide (Qbt p a b=Qbt p a b))) QuV rfl rfl (Qpf _ a17 x20.1 c18 x20.2 (Qbt p a b) (Qbt p a b) (hs.rd 5 rfl) (hs.rd 6 rfl)) hs fun _ hs=>Zz hs
 ·exact oa [2] fun D J w hs=>Qac (V:=.bool true) rfl (Zz hs)
 ·exact obg [3] [] true rfl (fun _=>rfl) rfl (fun _ _ _ h=>nomatch h) fun D J w _ hs=>Qac (V:=I6 (QbE p a b)) rfl (Zz hs)
 ·exact obg [3] [] true rfl (fun _=>rfl) rfl (fun _ _ _ h=>nomatch h) fun D J w _ hs=>Qac (V:=I6 (QbE p a b)) rfl (Zz hs)
 ·exact obg [3,4,5] [] true rfl (fun _=>rfl) rfl (fun _ _ _ h=>nomatch h) fun D J w _ hs=>Qbp (V:=.bool (decide (QbE p a b=QbE p a b))) (V':=.bool true) (QaS rfl rfl ⟨rfl,rfl⟩) (congrArg Value.bool (by simp)) (Zz hs)
 ·exact oa [3,6] fun D J w hs=>QcX (V:=.bool true) rfl rfl (Zz hs)
 ·exact oa [7] fun D J w hs=>Qad (V:=.bool true) rfl (Zz hs)
 rintro J1 w22 J2 hJ hs
 replace hJ:J2=upd (mix (sq 31 8++[6]) J1 _) 6 (.bool true):=hJ
 subst hJ
 refine Qau ?_
 refine ⟨_,Qaq (V:=.bool true) Tryz.results4 rfl,(Zr hs ?_)⟩
 rfl
end Tt
end Go.Proofs
namespace Go.Vx
open Go.RowKit Go.ChangeShapes Go.WideShapes Go.ChangeAt
theorem Qov {P:Program} {t tS tv s1 s2 s3 e1 e2 e3:TypeId} {f0 f1 f2 q0 q1 q2:Field} (ht:P.underlying t=some (.struct #[f0,f1,f2])) (hoff:[f0.offset,f1.offset,f2.offset]=[0,18,19]) (hty:[f0.type,f1.type,f2.type]=[tS,s3,tv])
  (hS:P.underlying tS=some (.struct #[q0,q1,q2])) (hoffS:[q0.offset,q1.offset,q2.offset]=[0,16,17]) (htyS:[q0.type,q1.type,q2.type]=[tv,s1,s2])
  (hV:QdE P tv vc QbV) (u1:P.underlying s1=some (.slice e1)) (hE:QdE P e1 cec Qfb) (u2:P.underlying s2=some (.slice e2)) (hL:QdE P e2 lsc QgI) (u3:P.underlying s3=some (.slice e3)) (hO:QdE P e3 oc Qds)
  (hc:[P.cellsOf tv,P.cellsOf s1,P.cellsOf s2,P.cellsOf s3,P.cellsOf e1,P.cellsOf e2,P.cellsOf e3,P.cellsOf tS,P.cellsOf t]=[16,1,1,1,7,2,23,18,35]) (hts:(P.cellTypes P.depth t).map (fun ts=>(ts.length,ts[16]?,ts[17]?,ts[18]?))=some (35,some s1,some s2,some s3))
  {H:Type} {enc:TypeId × Value->H} {w:World} {r:Reach} {b0 base:Nat} {spare:Nat->Bool} {held:Bool} {v:Value} {d:DataW H} {ps:List MemPlace}
  (hv:Value.okWide P w r b0 t v) (h:DataW.Trod enc P w base spare held t v d ps) :
  ∃ (x:Pst) (a:Option Addr) (c:Nat) (b:Option Addr) (e:Nat) (a3:Option Addr) (c3:Nat),v = .agg ((vc x.base.known++[(.slice a x.base.ents.length c:Value),(.slice b x.base.ticks.length e:Value)])++[(.slice a3 x.ops.length c3:Value)]++vc x.known).toArray/\Qc0 x /\
   Rd w (.slice a x.base.ents.length c) 7 (x.base.ents.map cec)/\Rd w (.slice b x.base.ticks.length e) 2 (x.base.ticks.map lsc)/\Rd w (.slice a3 x.ops.length c3) 23 (x.ops.map oc):=by
 unfold Value.okWide at hv
 rw [ht] at hv
 obtain ⟨cs,rfl,hsz,ts,hts',_,hcell⟩:=hv
 obtain ⟨fuel,h⟩:=h
 have h':DataW.trod enc P w base spare held fuel t cs.toList=some (d,ps):=h
 obtain ⟨xs,n,_,_,hl,hxl,hx⟩:=DataW.trod_struct ht h'
 simp only [List.cons.injEq,and_true] at hoff hty hc hoffS htyS
 obtain ⟨o0,o1,o2⟩:=hoff
 obtain ⟨t0,t1,t2⟩:=hty
 obtain ⟨p0,p1,p2⟩:=hoffS
 obtain ⟨y0,y1,y2⟩:=htyS
 obtain ⟨cv,k1,k2,k3,k4,k5,k6,k7,k8⟩:=hc
 rw [k8] at hl
 rw [hts'] at hts
 simp only [Option.map_some,Option.some.injEq,Prod.mk.injEq] at hts
 obtain ⟨hlen,hs1,hs2,hs3⟩:=hts
 have g0:=hx 0 f0 rfl
 have g1:=hx 1 f1 rfl
 have g2:=hx 2 f2 rfl
 have hx2:xs.length=3:=by simpa using hxl
 rw [List.getElem?_eq_getElem (by omega)] at g0 g1 g2
 rw [o0,t0,k7] at g0
 rw [o1,t1,k3] at g1
 rw [o2,t2,cv] at g2
 obtain ⟨ys,m,_,_,hl2,hyl,hy⟩:=DataW.trod_struct hS g0
 have j0:=hy 0 q0 rfl
 have j1:=hy 1 q1 rfl
 have j2:=hy 2 q2 rfl
 have hy2:ys.length=3:=by simpa using hyl
 rw [List.getElem?_eq_getElem (by omega)] at j0 j1 j2
 rw [p0,y0,cv,List.drop_zero,List.drop_zero,List.take_take,Nat.min_eq_left (by decide)] at j0
 rw [p1,y1,k1,List.drop_zero,List.drop_take,List.take_take,Nat.min_eq_left (by decide)] at j1
 rw [p2,y2,k2,List.drop_zero,List.drop_take,List.take_take,Nat.min_eq_left (by decide)] at j2
 obtain ⟨kn,hkn,e0⟩:=hV _ _ _ _ _ _ _ _ _ j0
 obtain ⟨kn2,hkn2,e4⟩:=hV _ _ _ _ _ _ _ _ _ g2
 have a1:(cs.toList.drop 16).take 1=[cs.toList[16]'(by omega)]:=by rw [List.drop_eq_getElem_cons (by omega)];rfl
 have a2:(cs.toList.drop 17).take 1=[cs.toList[17]'(by omega)]:=by rw [List.drop_eq_getElem_cons (by omega)];rfl
 have a3:(cs.toList.drop 18).take 1=[cs.toList[18]'(by omega)]:=by rw [List.drop_eq_getElem_cons (by omega)];rfl
 have hsp:cs.toList=cs.toList.take 16++[cs.toList[16]'(by omega),cs.toList[17]'(by omega)]++[cs.toList[18]'(by omega)]++(cs.toList.drop 19).take 16:=by
  have hd:(cs.toList.drop 19).take 16=cs.toList.drop 19:=List.take_of_length_le (by rw [List.length_drop];omega)
  rw [hd]
  simp only [List.append_assoc,List.cons_append,List.nil_append]
  rw [← List.drop_eq_getElem_cons (by omega),← List.drop_eq_getElem_cons (by omega),← List.drop_eq_getElem_cons (by omega),List.take_append_drop]
 generalize hz1:cs.toList[16]'(by omega)=z1 at a1 hsp
 generalize hz2:cs.toList[17]'(by omega)=z2 at a2 hsp
 generalize hz3:cs.toList[18]'(by omega)=z3 at a3 hsp
 rw [a1] at j1
 rw [a2] at j2
 rw [a3] at g1
 have i1:cs[16]?=some z1:=by rw [← hz1,← Array.getElem?_toList];exact List.getElem?_eq_getElem _
 have i2:cs[17]?=some z2:=by rw [← hz2,← Array.getElem?_toList];exact List.getElem?_eq_getElem _
 have i3:cs[18]?=some z3:=by rw [← hz3,← Array.getElem?_toList];exact List.getElem?_eq_getElem _
 obtain ⟨yy1,hy1,w1⟩:=hcell 16 z1 i1
 obtain ⟨yy2,hyy2,w2⟩:=hcell 17 z2 i2
 obtain ⟨yy3,hy3,w3⟩:=hcell 18 z3 i3
 rw [hlen,show 16%35=16 by rfl,hs1] at hy1
 rw [hlen,show 17%35=17 by rfl,hs2] at hyy2
 rw [hlen,show 18%35=18 by rfl,hs3] at hy3
 cases hy1
 cases hyy2
 cases hy3
 have v1:Value.okWide P w r b0 s1 z1:=by unfold Value.okWide;rw [u1];exact w1
 have v2:Value.okWide P w r b0 s2 z2:=by unfold Value.okWide;rw [u2];exact w2
 have v3:Value.okWide P w r b0 s3 z3:=by unfold Value.okWide;rw [u3];exact w3
 obtain ⟨_,_,_,hw1⟩:=okWide_slice u1 v1
 obtain ⟨_,_,_,hw2⟩:=okWide_slice u2 v2
 obtain ⟨_,_,_,hw3⟩:=okWide_slice u3 v3
 have tr1:DataW.Trod enc P w base spare held s1 z1 (ys[1].1) (ys[1].2):=⟨m,by subst hw1;exact j1⟩
 have tr2:DataW.Trod enc P w base spare held s2 z2 (ys[2].1) (ys[2].2):=⟨m,by subst hw2;exact j2⟩
 have tr3:DataW.Trod enc P w base spare held s3 z3 (xs[1].1) (xs[1].2):=⟨n,by subst hw3;exact g1⟩
 obtain ⟨a,c,l1,hv1,hok1,hr1⟩:=QgB u1 hE (fun _=>rfl) k4 v1 tr1
 obtain ⟨b,e,l2,hv2,hok2,hr2⟩:=QgB u2 hL (fun _=>rfl) k5 v2 tr2
 obtain ⟨a',c',l3,hv3,hok3,hr3⟩:=QgB u3 hO (fun _=>rfl) k6 v3 tr3
 refine ⟨⟨⟨kn,l1,l2⟩,l3,kn2⟩,a,c,b,e,a',c',?_,⟨⟨hkn,hok1,hok2⟩,hok3,hkn2⟩,hr1,hr2,hr3⟩
 rw [e0,e4,hv1,hv2,hv3] at hsp
 congr 1
 rw [← hsp]
end Go.Vx
namespace Go.Proofs.YtbjbjboehjdcaaaGreat
open Go.RowKit Go.Vx
theorem Tryz.own:ownKnob Tryz.prog.godebug=none:=by kernel_rfl
theorem Tryz.laidOut:laidOutB Tryz.prog=true:=by kernel_rfl
theorem O24:QdE Tryz.prog 24 vc QbV:=QvY Tryz.underlying24 Tryz.underlying22 (by kernel_rfl) (by kernel_rfl)
theorem O96:QdE Tryz.prog 96 dc Qc3:=Qvc Tryz.underlying96 rfl rfl Tryz.underlying5 Tryz.underlying22 (by kernel_rfl) (by kernel_rfl) (by kernel_rfl)
theorem O98:QdE Tryz.prog 98 oc Qds:=QvX Tryz.underlying98 rfl rfl O96 O24 Tryz.underlying5 Tryz.underlying32 Tryz.underlying32 Tryz.underlying32 Tryz.underlying22 (by kernel_rfl) (by kernel_rfl)
theorem O119:QdE Tryz.prog 119 cec Qfb:=Qu7 Tryz.underlying119 rfl rfl O96 Tryz.underlying32 Tryz.underlying32 Tryz.underlying32 Tryz.underlying5 Tryz.underlying104 (by kernel_rfl) (by kernel_rfl)
theorem O125:QdE Tryz.prog 125 lsc QgI:=QvZ Tryz.underlying125 rfl Tryz.underlying32 Tryz.underlying22 (by kernel_rfl) (by kernel_rfl)
end Go.Proofs.YtbjbjboehjdcaaaGreat
namespace Go.Vx
open Go.RowKit Go.Shelf Go.Sort Go.Proofs
theorem QpI {w w':World} {L:List Res} (h:Own w no w' L):∃ q os,w'=grow (w.drewN q) os:=by
 refine ⟨w'.drawn-w.drawn,w'.heap.extract w.heap.size w'.heap.size,?_⟩
 have hd:w.drawn+(w'.drawn-w.drawn)=w'.drawn:=by have:=h.tape.2;omega
 have hh:w.heap++w'.heap.extract w.heap.size w'.heap.size=w'.heap:=by
  apply Array.ext_getElem?
  intro i
  by_cases hi:i<w.heap.size
  ·rw [Array.getElem?_append_left hi,h.old i hi (fun h=>h)]
  rw [Array.getElem?_append_right (by omega)]
  have:=h.size
  simp only [Array.getElem?_extract]
  split
  ·congr 1;omega
  rw [Array.getElem?_eq_none (by omega)]
 have h1:=h.os
 have h2:=h.tape.1
 have h3:=h.output
 cases w' with
 | mk heap tape drawn os output =>
  cases w with
  | mk heap0 tape0 drawn0 os0 output0 =>
   simp only at h1 h2 h3 hd hh
   subst h1;subst h2;subst h3
   simp [grow,World.drewN,hh,hd]
section
variable {P:Program} {J:Ren} {α:Type} [Inhabited α]
theorem QjN {enc:α->List Value} {k:Nat} {l:List α} (hk:∀ x,(enc x).length=k) {j:Nat} (hj:j<l.length*k):(l.map enc).flatten[j]?=some (flatK enc k l.toArray)[j]!:=by
 have hk0:0<k:=by
  rcases Nat.eq_zero_or_pos k with h|h
  ·subst h;simp at hj
  exact h
 have hi:j/k<l.length:=Nat.div_lt_of_lt_mul (by rw [Nat.mul_comm];exact hj)
 have hm:j%k<k:=Nat.mod_lt _ hk0
 have e1:(l.map enc)[j/k]?=some (enc l[j/k]):=by simp [hi]
 have e2:(enc l[j/k])[j%k]?=some (enc l[j/k])[j%k]!:=by
  rw [List.getElem?_eq_getElem (by rw [hk];exact hm),List.getElem!_eq_getElem?_getD,List.getElem?_eq_getElem (by rw [hk];exact hm)]
  rfl
 have h:=QhA (l.map enc) k (Qbe hk l) (j/k) (j%k) _ _ e1 e2
 rw [Nat.mul_comm,Nat.div_add_mod] at h
 rw [h,get_flatK enc k l.toArray j (by simpa using hj)]
 simp [hi]
theorem QkR {enc:α->List Value} {k:Nat} {w:World} {S:Nat->Prop} {g cap T n:Nat} {l m:List α} {os:Array Obj} (hk:∀ x,(enc x).length=k) (h1:∀ x,∀ v∈enc x,v.oneCell'=true)
  (hR:(row (.slice (some ⟨g,0,none⟩) l.length cap) (l.map enc) T k).holds w S) (hlt:∀ b,S b->b<w.heap.size) (hlen:m.length=l.length) :
  Own w S (sortWorldK enc k w g 0 n m.toArray os) [row (.slice (some ⟨g,0,none⟩) l.length cap) (m.map enc) T k]:=by
 obtain ⟨_,hown,hS⟩:=hR
 have hSg:=hS g rfl
 have hgl:=hlt g hSg
 rcases hown.2 with ⟨hv,_⟩|⟨g',cap',cur,hv,_,hg,hnc,hcm,hcs,htake⟩
 ·cases hv
 simp only [Value.slice.injEq,Option.some.injEq,Addr.mk.injEq,and_true] at hv
 obtain ⟨rfl,hn,rfl⟩:=hv
 simp only [QQ6] at hnc htake hn
 have hX:∀ c,c<w.heap.size->(sortWorldK enc k w g 0 n m.toArray os).heap[c]?=(w.heap.modify g (onCells (putCells id 0 (flatK enc k m.toArray))))[c]?:=by
  intro c hc
  show ((w.heap.modify g (onCells (putCells id 0 (flatK enc k m.toArray))))++os)[c]?=_
  rw [Array.getElem?_append_left (by simpa using hc)]
 have hXg:(sortWorldK enc k w g 0 n m.toArray os).heap[g]?=some (.cells (putCells id 0 (flatK enc k m.toArray) cur) T (0,0)):=by
  rw [hX g hgl,Array.getElem?_modify,if_pos rfl,hg];rfl
 have hXo:∀ c,c<w.heap.size->c≠g->(sortWorldK enc k w g 0 n m.toArray os).heap[c]?=w.heap[c]?:=by
  intro c hc hne
  rw [hX c hc,Array.getElem?_modify,if_neg (fun e=>hne e.symm)]
 have hsz:(sortWorldK enc k w g 0 n m.toArray os).heap.size=w.heap.size+os.size:=by
  show ((w.heap.modify g (onCells (putCells id 0 (flatK enc k m.toArray))))++os).size=_
  simp
 refine ⟨rfl,⟨rfl,Nat.le_add_right _ _⟩,rfl,by omega,fun b hb hm=>hXo b hb (fun e=>hm (e ▸ hSg)),fun j b=>j=0/\b=g,fun j R hj=>?_,fun j b hb=>by rw [hb.2];omega,fun j j' b hb hb'=>hb.1.trans hb'.1.symm,fun j b hb _=>by rw [hb.2];exact hSg⟩
 cases j with
 | succ j=>simp at hj
 | zero =>
  simp only [List.getElem?_cons_zero,Option.some.injEq] at hj
  subst hj
  refine ⟨⟨Qbe hk m,QaJ h1 m⟩,⟨?_,.inr ⟨g,cap,_,by rw [QQ6,hlen],Nat.zero_le _,hXg,by rw [QQ6];omega,hcm,by unfold putCells;simpa using hcs,?_⟩⟩,fun g' hg'=>by cases hg';exact ⟨rfl,rfl⟩⟩
  ·rw [QdT _ (Qbe hk m)]
  apply List.ext_getElem?
  intro j
  rw [List.getElem?_take,QQ6]
  by_cases hj:j<m.length*k
  ·have hjc:j<cur.size:=by
    rw [hcs]
    exact Nat.lt_of_lt_of_le hj (Nat.mul_le_mul_right _ (by omega))
   rw [if_pos hj,QjN hk hj,Array.getElem?_toList]
   unfold putCells
   rw [Array.getElem?_mapIdx,Array.getElem?_eq_getElem hjc]
   simp [hj]
  rw [if_neg hj,List.getElem?_eq_none (by rw [QdT _ (Qbe hk m),QQ6];omega)]
theorem Qow (L:SlLaysF0.n6 P J) {k T g:Nat} {enc:α->List Value} {cf:α->α->Int} (aE:∀ w,(isAgg (J.t 24)).run P w = .ok true w) (zE:∀ w,(Go.sizeOf (J.t 24)).run P w = .ok k w) (hk:∀ x,(enc x).length=k) (h1:∀ x,∀ v∈enc x,v.oneCell'=true)
  (hO:SWO (ltOf cf)) (hg:En P g) (hc:∀ w x y,Calls P g #[.agg (enc x).toArray,.agg (enc y).toArray] w fun e w'=>e = .returned (.int .i64 (cf x y))/\Own w no w' [])
  (hnil:∀ w,Calls P (J.f 6) #[.slice none 0 0,.func (.func g) #[] #[]] w fun e w'=>e = .returned (.tuple #[])/\w'=w) :
  QgY P (J.f 6) g enc T k (fun l m=>m.Perm l/\m.Pairwise fun x y=>¬cf y x<0):=by
 intro w S a c l hR hlt hsz
 have hR':=hR
 obtain ⟨_,hown,hS⟩:=hR
 rcases hown.2 with ⟨hv,hn⟩|⟨b,cap,cur,hv,_,hb,hnc,hcm,hcs,htake⟩
 ·have hl:l=[]:=by simpa using hn
  subst hl
  simp only [List.length_nil,Value.slice.injEq] at hv
  obtain ⟨rfl,_,rfl⟩:=hv
  exact (hnil w).mono fun e w' ⟨he,hw⟩=>⟨⟨[],List.Perm.refl _,List.Pairwise.nil⟩,he,by subst hw;exact Own.lent hR' hlt,trivial⟩
 simp only [Value.slice.injEq,QQ6] at hv
 obtain ⟨rfl,_,rfl⟩:=hv
 have hbl:=hlt b (hS b rfl)
 have hH:HoldsK enc k w b 0 l.toArray:=by
  intro j hj
  have hj':j<l.length*k:=by simpa using hj
  rw [Nat.zero_add]
  refine ⟨?_,frozen_of_row w b _ _ _ hb⟩
  rw [cell_of_row w b j _ _ _ hb]
  have h2:=QjN (l:=l) hk hj'
  rw [← htake,List.getElem?_take,QQ6,if_pos hj'] at h2
  simpa using h2
 have hcmp:CmpLays P g #[] enc k cf b 0 l.toArray.size w:=fun m os dk _ x y =>
  (hc _ x y).mono fun e w' ⟨he,ho⟩=>⟨he,QpI ho⟩
 refine (AnyQ.slices_SortFunc L k aE zE enc hk h1 cf hO g #[] b 0 c l.toArray w hg hcmp hH hbl (by simpa using hsz)).mono ?_
 rintro e w' ⟨he,d',n,os,hp,hs,rfl⟩
 obtain ⟨hp1,_,hp2⟩:=hp
 have hsz':d'.toList.length=l.length:=by simpa using hp1
 refine ⟨⟨d'.toList,?_,?_⟩,he,?_,trivial⟩
 ·have e1:d'.extract 0 l.toArray.size=d':=by rw [← hp1];simp
  have e2:l.toArray.extract 0 l.toArray.size=l.toArray:=by simp
  rw [e1,e2] at hp2
  simpa using hp2
 ·rw [List.pairwise_iff_getElem]
  intro i j hi hj hij
  have h3:=hs i j (Nat.zero_le _) hij (by rw [← hp1];simpa using hj)
  unfold ltOf at h3
  have e1:d'[i]! = d'.toList[i]:=by simp at hi;simp [hi]
  have e2:d'[j]! = d'.toList[j]:=by simp at hj;simp [hj]
  rw [e1,e2] at h3
  simpa using h3
 have:=QkR (n:=n) (os:=os) hk h1 hR' hlt hsz'
 simpa using this
end
end Go.Vx
namespace Go.Proofs
open Go.Shelf
def Tryz.sortE_ren:Go.Shelf.Ren:=⟨fun|6=>48|15=>92|14=>91|28=>144|29=>145|20=>136|21=>137|22=>138|23=>139|24=>140|25=>141|26=>142|27=>143|46=>161|47=>162|48=>163|49=>164|50=>165|57=>181|n=>n,fun|22=>35|24=>106|25=>116|3=>3|39=>159|0=>0|53=>22|55=>104|4=>4|46=>192|45=>191|50=>138|5=>5|9=>9|66=>211|70=>215|76=>227|77=>228|n=>n,fun|n=>n⟩
theorem Tryz.sortE:Go.Proofs.SlLaysF0.n6 Tryz.prog Tryz.sortE_ren:={
 mixed:=by kernel_rfl
 f6:=⟨Tryz.f48.name,by decide,Tryz.func48.trans (congrArg some (by kernel_rfl))⟩
 f14:=⟨Tryz.f91.name,by decide,Tryz.func91.trans (congrArg some (by kernel_rfl))⟩
 f15:=Tryz.func92.trans (congrArg some (by kernel_rfl))
 f20:=⟨Tryz.f136.name,by decide,Tryz.func136.trans (congrArg some (by kernel_rfl))⟩
 f21:=⟨Tryz.f137.name,by decide,Tryz.func137.trans (congrArg some (by kernel_rfl))⟩
 f22:=⟨Tryz.f138.name,by decide,Tryz.func138.trans (congrArg some (by kernel_rfl))⟩
 f23:=⟨Tryz.f139.name,by decide,Tryz.func139.trans (congrArg some (by kernel_rfl))⟩
 f24:=⟨Tryz.f140.name,by decide,Tryz.func140.trans (congrArg some (by kernel_rfl))⟩
 f25:=⟨Tryz.f141.name,by decide,Tryz.func141.trans (congrArg some (by kernel_rfl))⟩
 f26:=⟨Tryz.f142.name,by decide,Tryz.func142.trans (congrArg some (by kernel_rfl))⟩
 f27:=⟨Tryz.f143.name,by decide,Tryz.func143.trans (congrArg some (by kernel_rfl))⟩
 f28:=Tryz.func144.trans (congrArg some (by kernel_rfl))
 f29:=Tryz.func145.trans (congrArg some (by kernel_rfl))
 f46:=⟨Tryz.f161.name,by decide,Tryz.func161.trans (congrArg some (by kernel_rfl))⟩
 f47:=Tryz.func162.trans (congrArg some (by kernel_rfl))
 f48:=Tryz.func163.trans (congrArg some (by kernel_rfl))
 f49:=⟨Tryz.f164.name,by decide,Tryz.func164.trans (congrArg some (by kernel_rfl))⟩
 f50:=⟨Tryz.f165.name,by decide,Tryz.func165.trans (congrArg some (by kernel_rfl))⟩
 f57:=⟨Tryz.f181.name,by decide,Tryz.func181.trans (congrArg some (by kernel_rfl))⟩
 t0:=Tryz.underlying0
 a0:=Tryz.isAgg0
 z0:=Tryz.sizeOf0
 v0:=Tryz.zeroValue0
 t3:=Tryz.underlying3
 a3:=Tryz.isAgg3
 z3:=Tryz.sizeOf3
 v3:=Tryz.zeroValue3
 t4:=Tryz.underlying4
 a4:=Tryz.isAgg4
 z4:=Tryz.sizeOf4
 v4:=Tryz.zeroValue4
 t5:=Tryz.underlying5
 a5:=Tryz.isAgg5
 z5:=Tryz.sizeOf5
 v5:=Tryz.zeroValue5
 t9:=Tryz.underlying9
 a9:=Tryz.isAgg9
 z9:=Tryz.sizeOf9
 v9:=Tryz.zeroValue9
 t22:=Tryz.underlying35
 a22:=Tryz.isAgg35
 z22:=Tryz.sizeOf35
 v22:=Tryz.zeroValue35
 t25:=Tryz.underlying116
 a25:=Tryz.isAgg116
 z25:=Tryz.sizeOf116
 v25:=Tryz.zeroValue116
 t39:=Tryz.underlying159
 a39:=Tryz.isAgg159
 z39:=Tryz.sizeOf159
 v39:=Tryz.zeroValue159
 t45:=Tryz.underlying191
 a45:=Tryz.isAgg191
 z45:=Tryz.sizeOf191
 v45:=Tryz.zeroValue191
 t46:=Tryz.underlying192
 a46:=Tryz.isAgg192
 z46:=Tryz.sizeOf192
 v46:=Tryz.zeroValue192
 t50:=Tryz.underlying138
 a50:=Tryz.isAgg138
 z50:=Tryz.sizeOf138
 v50:=Tryz.zeroValue138
 t53:=Tryz.underlying22
 a53:=Tryz.isAgg22
 z53:=Tryz.sizeOf22
 v53:=Tryz.zeroValue22
 t55:=Tryz.underlying104
 a55:=Tryz.isAgg104
 z55:=Tryz.sizeOf104
 v55:=Tryz.zeroValue104
 t66:=Tryz.underlying211
 a66:=Tryz.isAgg211
 z66:=Tryz.sizeOf211
 v66:=Tryz.zeroValue211
 t70:=Tryz.underlying215
 a70:=Tryz.isAgg215
 z70:=Tryz.sizeOf215
 v70:=Tryz.zeroValue215
 t76:=Tryz.underlying227
 a76:=Tryz.isAgg227
 z76:=Tryz.sizeOf227
 v76:=Tryz.zeroValue227
 t77:=Tryz.underlying228
 a77:=Tryz.isAgg228
 z77:=Tryz.sizeOf228
 v77:=Tryz.zeroValue228 }
end Go.Proofs
namespace Go.Proofs.YtbjbjboehjdcaaaGreat
open Go.Vx Go.Sort Go.Proofs
theorem Qwr:SWO (ltOf QcD) where
 irrefl x:=by unfold ltOf;rw [decide_eq_false_iff_not,Qeo,Qcq];decide
 trans x y z h1 h2:=by unfold ltOf at *;rw [decide_eq_true_iff,Qeo] at *;exact QdP h1 h2
 ntrans x y z h1 h2:=by unfold ltOf at *;rw [decide_eq_false_iff_not,Qeo,QdF] at *;omega
theorem Quy:QgY Tryz.prog 48 49 cec 106 7 QjX :=
 Qow (J:=Tryz.sortE_ren) (k:=7) (T:=106) Tryz.sortE Tryz.isAgg106 Tryz.sizeOf106 (fun _=>rfl) Qa8 Qwr Tryz.call49 (fun w x y=>Tt.order_ok w x y) (fun w=>AnyF.slices_SortFunc_none Tryz.sortE none 0 _ w)
end Go.Proofs.YtbjbjboehjdcaaaGreat
namespace Go.Proofs
open Go Go.Vx Go.RowKit
open Go.Sort (ltInt medianAdjacent order2 partition)
namespace Tt
theorem QpO (w:World) (x:Int):Calls Tryz.prog 127 #[.int .u16 x] w (fun e w'=>e = .returned (.bool false)/\Own w no w' []):=by
 refine Qaj (n:=6) Tryz.func127 rfl Tryz.ntmps127 rfl ?_
 have hs:=Own.start w
 refine Qag (Qab (Qaa (Qad (V:=.bool false) rfl (Qaf (Qag (Qab (Qaa (Qac (V:=I7 x) rfl (Qaa (Qac (V:=I7 x) rfl (Qaa (Qch rfl rfl (Qaa (Qad (V:=.bool (!decide (x=x))) rfl (Qaf (Qau ?_))))))))))))))))
 refine ⟨_,Qaq (V:=.bool (!decide (x=x))) Tryz.results127 rfl,(Zr hs ?_)⟩
 simp
theorem Qcm (w:World) (x y:Int):Calls Tryz.prog 178 #[.int .u16 x,.int .u16 y] w (fun e w'=>e = .returned (.bool (decide (x<y)))/\Own w no w' []):=by
 refine Qaj (n:=17) Tryz.func178 rfl Tryz.ntmps178 rfl ?_
 have hs:=Own.start w
 refine Qag (Qab (Qaa (Qad (V:=.bool false) rfl (Qaf (Qag (Qbj [some 5,some 6,some 7,some 8,some 9,some 10,some 11,some 12,some 13,some 14,some 15,some 16,some 4] [] [0,1,3,7,15,31,63,127,255,255,1023,2047,4095] [pv (I7 x),pv (.bool false),pv (.bool false),pg false (.bool true),pg false (.bool true),pg false (.bool true),pv (.bool false),pv (.bool false),pv (I7 x),pv (I7 y),pv (.bool (decide (x<y))),pv (.bool (decide (x<y))),pv (.bool (decide (x<y)))] (fun _ _=>_) [12] (by kernel_rfl) hs ⟨?_,?_,?_,?_,?_,?_,?_,?_,?_,?_,?_,?_,?_,trivial⟩ ?_))))))
 ·exact oa [] fun D J w hs=>Qac (V:=.int .u16 x) rfl (Zz hs)
 ·exact oa [0] fun D J w hs=>Qat (vs:=[.int .u16 x]) (V:=.bool false) Qmu rfl rfl (QpO _ x) hs fun _ hs=>Zz hs
 ·exact oa [1] fun D J w hs=>Qac (V:=.bool false) rfl (Zz hs)
 ·exact obg [] [] false rfl (fun _=>rfl) rfl (fun _ _ _ _ h=>h) (fun _ _ _ h=>nomatch h)
 ·exact obg [] [] false rfl (fun _=>rfl) rfl (fun _ _ _ _ h=>h) (fun _ _ _ h=>nomatch h)
 ·exact obg [] [] false rfl (fun _=>rfl) rfl (fun _ _ _ _ h=>h) (fun _ _ _ h=>nomatch h)
 ·exact oa [2] fun D J w hs=>QcX (V:=.bool false) rfl rfl (Zz hs)
 ·exact oa [6] fun D J w hs=>Qac (V:=.bool false) rfl (Zz hs)
 ·exact obg [7] [] false rfl (fun _=>rfl) rfl (fun _ _ _ h=>nomatch h) fun D J w _ hs=>Qac (V:=I7 x) rfl (Zz hs)
 ·exact obg [7] [] false rfl (fun _=>rfl) rfl (fun _ _ _ h=>nomatch h) fun D J w _ hs=>Qac (V:=I7 y) rfl (Zz hs)
 ·exact obg [7,8,9] [] false rfl (fun _=>rfl) rfl (fun _ _ _ h=>nomatch h) fun D J w _ hs=>QaQ rfl rfl (Zz hs)
 ·exact oa [7,10] fun D J w hs=>QcX (V:=.bool (decide (x<y))) rfl rfl (Zz hs)
 ·exact oa [11] fun D J w hs=>Qad (V:=.bool (decide (x<y))) rfl (Zz hs)
 rintro J1 w2 J2 hJ hs
 replace hJ:J2=upd (mix (sq 5 12++[4]) J1 _) 4 (.bool (decide (x<y))):=hJ
 subst hJ
 refine Qau ?_
 refine ⟨_,Qaq (V:=.bool (decide (x<y))) Tryz.results178 rfl,(Zr hs ?_)⟩
 first|rfl|simp
theorem Qrr {lo j:Nat} {d:Array Int} (h1:(lo:Int)<(j:Int)) (h2:d[j]!<d[j-1]!):Sort.insInner ltInt lo j d=Sort.insInner ltInt lo (j-1) (Sort.swp d j (j-1)):=by
 obtain ⟨i,rfl⟩:∃ i,j=i+1:=⟨j-1,by omega⟩
 rw [Nat.add_sub_cancel] at *
 rw [Sort.insInner,if_pos]
 simp [ltInt,h2];omega
theorem Qs8 {lo j:Nat} {d:Array Int} (h:(decide ((lo:Int)<(j:Int))&&decide (d[j]!<d[j-1]!))=false):Sort.insInner ltInt lo j d=d:=by
 cases j with
 | zero=>rfl
 | succ i =>
  rw [Sort.insInner,if_neg]
  intro h2
  simp [ltInt] at h2 h
  have:=h (by omega)
  omega
theorem Qr3 {lo hi k:Nat} {d:Array Int} (h:(k:Int)<(hi:Int)):Sort.insOuter ltInt lo hi k d=Sort.insOuter ltInt lo hi (k+1) (Sort.insInner ltInt lo k d):=by
 rw [Sort.insOuter,if_pos (by omega)]
theorem Quc {lo hi k:Nat} {d:Array Int} (h:¬(k:Int)<(hi:Int)):Sort.insOuter ltInt lo hi k d=d:=by
 rw [Sort.insOuter,if_neg (by omega)]
theorem Qs4 (w:World) (S:Nat->Prop) (a:Option Addr) (N c:Nat) (d:Array Int) (hsz:d.size=N) (hN:N<=2305843009213693951) (lo hi:Nat) (h1:lo<=hi) (h2:hi<=N) (hR:(row (.slice a N c) (d.toList.map (ic .u16)) 32 1).holds w S) (hlt:∀ x,S x->x<w.heap.size):Calls Tryz.prog 172 #[.slice a N c,.int .i64 (lo:Int),.int .i64 (hi:Int)] w (fun e w'=>∃ x:Unit,e = .returned (.tuple #[])/\Own w S w' [row (.slice a N c) ((Sort.insertionSort ltInt d lo hi).toList.map (ic .u16)) 32 1]/\(Sort.insertionSort ltInt d lo hi).size=N):=by
 refine Qaj (n:=49) Tryz.func172 rfl Tryz.ntmps172 rfl ?_
 have hs:=Own.lent hR hlt
 refine Qag (Qab (Qaa (Qac (V:=I6 (lo:Int)) rfl (Qaa (QaD (a:=(lo:Int)) (b:=1) (c:=((lo+1:Nat):Int)) rfl rfl (Qak (by omega) (by omega)) (Qaa (Qad (V:=I6 ((lo+1:Nat):Int)) rfl (Qaf (Qam (QaA (fun J μ J' w'=>∃ (Jo:Env) (k:Nat) (d1:Array Int),J'=upd (mix ([6,7]++sq 10 39) Jo J) 6 (I6 (k:Int))/\(lo+1<=k)/\(k<=hi∨k=lo+1)/\(d1.size=N)/\(Sort.insOuter ltInt lo hi k d1=Sort.insertionSort ltInt d lo hi)/\μ=hi-k/\Own w S w' [row (.slice a N c) (d1.toList.map (ic .u16)) 32 1]) ?_ ?_))))))))))
 ·exact ⟨_,_,lo+1,d,Qai (Qao (ds:=([6,7]++sq 10 39)) (Agr.refl _ _)) rfl,(Nat.le_refl _),(Or.inr rfl),hsz,rfl,rfl,hs⟩
 rintro μ J' w1 ⟨Jo,k,d1,rfl,hk0,hk,hz1,hev,rfl,hs⟩
 refine Qag (Qag (Qab (Qaa (Qac (V:=I6 (k:Int)) rfl (Qaa (Qac (V:=I6 (hi:Int)) rfl (Qaa (QaQ rfl rfl (Qaf (Qan (t:=decide ((k:Int)<(hi:Int))) rfl (fun c2=>?_) (fun c2=>?_)))))))))))
 ·
  replace c2:=QQ1 c2
  refine Qap (Qag (Qam (Qag (Qab (Qaa (Qac (V:=I6 (k:Int)) rfl (Qaa (Qad (V:=I6 (k:Int)) rfl (Qaf (Qam (QaA (fun J μ J' w'=>∃ (Jo:Env) (j:Nat) (d2:Array Int),J'=upd (mix ([7]++sq 16 33) Jo J) 7 (I6 (j:Int))/\(lo<=j)/\(j<=k)/\(d2.size=N)/\(Sort.insInner ltInt lo j d2=Sort.insInner ltInt lo k d1)/\μ=2*j/\Own w S w' [row (.slice a N c) (d2.toList.map (ic .u16)) 32 1]) ?_ ?_)))))))))))
  ·exact ⟨_,_,k,d1,Qai (Qao (ds:=([7]++sq 16 33)) (Agr.refl _ _)) rfl,(by omega),(Nat.le_refl _),hz1,rfl,rfl,hs⟩
  rintro μ J' w3 ⟨Jo,j,d2,rfl,hj0,hj,hz2,hin,rfl,hs⟩
  refine Qag (Qag (QaI HM [some 16,some 17,some 18,some 19,some 20,some 21,some 22,some 23,some 24,some 25,some 26,some 27,some 28,some 29,some 30] [] [0,0,3,7,15,15,63,127,15,15,527,1807,3855,8191,16383] [pv (I6 (j:Int)),pv (I6 (lo:Int)),pv (.bool (decide ((lo:Int)<(j:Int)))),pv (.bool (decide ((lo:Int)<(j:Int)))),pg ((decide ((lo:Int)<(j:Int))) == true) (.slice a N c),pg ((decide ((lo:Int)<(j:Int))) == true) (I6 (j:Int)),pg ((decide ((lo:Int)<(j:Int))) == true) (.pointer (some ⟨bkS (.slice a N c),ofS (.slice a N c)+(j:Int).toNat*1,none⟩)),pg ((decide ((lo:Int)<(j:Int))) == true) (I7 (d2[j]!)),pg ((decide ((lo:Int)<(j:Int))) == true) (.slice a N c),pg ((decide ((lo:Int)<(j:Int))) == true) (I6 (j:Int)),pg ((decide ((lo:Int)<(j:Int))) == true) (I6 ((j-1:Nat):Int)),pg ((decide ((lo:Int)<(j:Int))) == true) (.pointer (some ⟨bkS (.slice a N c),ofS (.slice a N c)+((j-1:Nat):Int).toNat*1,none⟩)),pg ((decide ((lo:Int)<(j:Int))) == true) (I7 (d2[j-1]!)),pg ((decide ((lo:Int)<(j:Int))) == true) (.bool (decide (d2[j]!<d2[j-1]!))),pv (.bool ((decide ((lo:Int)<(j:Int)))&&(decide (d2[j]!<d2[j-1]!))))] (fun _ _=>_) [14] (by kernel_rfl) hs ⟨?_,?_,?_,?_,?_,?_,?_,?_,?_,?_,?_,?_,?_,?_,?_,trivial⟩ ?_))
  ·exact oa [] fun D J w hs=>Qac (V:=.int .i64 (j:Int)) rfl (Zz hs)
  ·exact oa [] fun D J w hs=>Qac (V:=.int .i64 (lo:Int)) rfl (Zz hs)
  ·exact oa [0,1] fun D J w hs=>QbY rfl rfl (Zz hs)
  ·exact oa [2] fun D J w hs=>Qac (V:=.bool (decide ((lo:Int)<(j:Int)))) rfl (Zz hs)
  ·refine og [3] fun D J w hG hs=>?_
   have hgd:=QQ1 (eq_of_beq hG)
   exact Qac (V:=.slice a N c) rfl (Zz hs)
  ·refine og [3] fun D J w hG hs=>?_
   have hgd:=QQ1 (eq_of_beq hG)
   exact Qac (V:=.int .i64 (j:Int)) rfl (Zz hs)
  ·refine oy [3,4,5] [4,5] fun D J w hG hs=>?_
   have hgd:=QQ1 (eq_of_beq hG)
   exact Qaw QaL Qar.1 (hs.rd 0 rfl) rfl rfl (by omega) (by simp only [QQ6,QQ9,QQ5,Go.Sort.size_swp];omega) (Zz hs)
  ·refine oy [3,6] [6] fun D J w hG hs=>?_
   have hgd:=QQ1 (eq_of_beq hG)
   exact QaR (j:=0) (V:=.int .u16 (d2[j]!)) j Qar (hs.rd 0 rfl) (Qbo (by omega)) rfl rfl (by omega) (Zz hs)
  ·refine og [3] fun D J w hG hs=>?_
   have hgd:=QQ1 (eq_of_beq hG)
   exact Qac (V:=.slice a N c) rfl (Zz hs)
  ·refine og [3] fun D J w hG hs=>?_
   have hgd:=QQ1 (eq_of_beq hG)
   exact Qac (V:=.int .i64 (j:Int)) rfl (Zz hs)
  ·refine oy [3,9] [9] fun D J w hG hs=>?_
   have hgd:=QQ1 (eq_of_beq hG)
   exact Qa7 (a:=(j:Int)) (b:=1) (c:=((j-1:Nat):Int)) rfl rfl (Qak (by omega) (by omega)) (Zz hs)
  ·refine oy [3,8,10] [8,10] fun D J w hG hs=>?_
   have hgd:=QQ1 (eq_of_beq hG)
   exact Qaw QaL Qar.1 (hs.rd 0 rfl) rfl rfl (by omega) (by simp only [QQ6,QQ9,QQ5,Go.Sort.size_swp];omega) (Zz hs)
  ·refine oy [3,11] [11] fun D J w hG hs=>?_
   have hgd:=QQ1 (eq_of_beq hG)
   exact QaR (j:=0) (V:=.int .u16 (d2[j-1]!)) (j-1) Qar (hs.rd 0 rfl) (Qbo (by omega)) rfl rfl (by omega) (Zz hs)
  ·refine oy [3,7,12] [7,12] fun D J w hG hs=>?_
   have hgd:=QQ1 (eq_of_beq hG)
   exact Qat (vs:=[.int .u16 (d2[j]!),.int .u16 (d2[j-1]!)]) (V:=.bool (decide (d2[j]!<d2[j-1]!))) Qc9 rfl rfl (Qcm _ (d2[j]!) (d2[j-1]!)) hs fun _ hs=>Zz hs
  ·exact oa [3,13] fun D J w hs=>Qa4 (h':=decide (d2[j]!<d2[j-1]!)) rfl rfl rfl (Zz hs)
  rintro J1 w5 J2 hJ hs
  replace hJ:J2=upd (mix (sq 16 15) J1 _) 30 (.bool ((decide ((lo:Int)<(j:Int)))&&(decide (d2[j]!<d2[j-1]!)))):=hJ
  subst hJ
  refine Qan (t:=(decide ((lo:Int)<(j:Int)))&&(decide (d2[j]!<d2[j-1]!))) rfl (fun c6=>?_) (fun c6=>?_)
  ·
   have c6r:=QbF c6
   replace c6:=QbD c6
   replace c6:=QQ1 c6
   replace c6r:=QQ1 c6r
   refine Qap (Qag (Qam (QaI HM [some 33,some 34,some 35,some 36,some 37,some 38,some 39,some 40,some 41,some 42,some 43,some 44,some 45,some 46,some 47,none,some 48,none] [] [0,0,0,0,8,0,0,64,224,480,0,0,3072,7168,16355,32739,65535,131071] [pv (.slice a N c),pv (I6 (j:Int)),pv (.slice a N c),pv (I6 (j:Int)),pv (I6 ((j-1:Nat):Int)),pv (.slice a N c),pv (I6 (j:Int)),pv (I6 ((j-1:Nat):Int)),pv (.pointer (some ⟨bkS (.slice a N c),ofS (.slice a N c)+((j-1:Nat):Int).toNat*1,none⟩)),pv (I7 (d2[j-1]!)),pv (.slice a N c),pv (I6 (j:Int)),pv (.pointer (some ⟨bkS (.slice a N c),ofS (.slice a N c)+(j:Int).toNat*1,none⟩)),pv (I7 (d2[j]!)),pv (.pointer (some ⟨bkS (.slice a N c),ofS (.slice a N c)+(j:Int).toNat*1,none⟩)),pn,pv (.pointer (some ⟨bkS (.slice a N c),ofS (.slice a N c)+((j-1:Nat):Int).toNat*1,none⟩)),pn] (fun D J=>[cond (D 17) (row (.slice a N c) ((((d2.setIfInBounds j (d2[j-1]!)).setIfInBounds (j-1) (d2[j]!)).toList).map (ic .u16)) 32 1) (cond (D 15) (row (.slice a N c) (((d2.setIfInBounds j (d2[j-1]!)).toList).map (ic .u16)) 32 1) (row (.slice a N c) (d2.toList.map (ic .u16)) 32 1))]) [] (by kernel_rfl) hs ⟨?_,?_,?_,?_,?_,?_,?_,?_,?_,?_,?_,?_,?_,?_,?_,?_,?_,?_,trivial⟩ ?_)))
   ·exact oa [] fun D J w hs=>Qac (V:=.slice a N c) rfl (Zz hs)
   ·exact oa [] fun D J w hs=>Qac (V:=.int .i64 (j:Int)) rfl (Zz hs)
   ·exact oa [] fun D J w hs=>Qac (V:=.slice a N c) rfl (Zz hs)
   ·exact oa [] fun D J w hs=>Qac (V:=.int .i64 (j:Int)) rfl (Zz hs)
   ·exact oa [3] fun D J w hs=>Qa7 (a:=(j:Int)) (b:=1) (c:=((j-1:Nat):Int)) rfl rfl (Qak (by omega) (by omega)) (Zz hs)
   ·exact oa [] fun D J w hs=>Qac (V:=.slice a N c) rfl (Zz hs)
   ·exact oa [] fun D J w hs=>Qac (V:=.int .i64 (j:Int)) rfl (Zz hs)
   ·exact oa [6] fun D J w hs=>Qa7 (a:=(j:Int)) (b:=1) (c:=((j-1:Nat):Int)) rfl rfl (Qak (by omega) (by omega)) (Zz hs)
   ·exact ob [5,7] [15,17] rfl rfl fun D J w hs=>Qaw QaL Qar.1 (hs.rd 0 rfl) rfl rfl (by omega) (by simp only [QQ6,QQ9,QQ5,Go.Sort.size_swp];omega) (Zz hs)
   ·exact ob [8] [15,17] rfl rfl fun D J w hs=>QaR (j:=0) (V:=I7 (d2[j-1]!)) (j-1) Qar (hs.rd 0 rfl) (Qbo (by omega)) rfl rfl (by omega) (Zz hs)
   ·exact oa [] fun D J w hs=>Qac (V:=.slice a N c) rfl (Zz hs)
   ·exact oa [] fun D J w hs=>Qac (V:=.int .i64 (j:Int)) rfl (Zz hs)
   ·exact ob [10,11] [15,17] rfl rfl fun D J w hs=>Qaw QaL Qar.1 (hs.rd 0 rfl) rfl rfl (by omega) (by simp only [QQ6,QQ9,QQ5,Go.Sort.size_swp];omega) (Zz hs)
   ·exact ob [12] [15,17] rfl rfl fun D J w hs=>QaR (j:=0) (V:=I7 (d2[j]!)) j Qar (hs.rd 0 rfl) (Qbo (by omega)) rfl rfl (by omega) (Zz hs)
   ·exact ob [0,1] [15,17] rfl rfl fun D J w hs=>Qaw QaL Qar.1 (hs.rd 0 rfl) rfl rfl (by omega) (by simp only [QQ6,QQ9,QQ5,Go.Sort.size_swp];omega) (Zz hs)
   ·exact ob [9,14] [17] rfl rfl fun D J w hs=>Qcj (z:=d2[j-1]!) j Qar hs 0 rfl rfl (by omega) (by first|omega|(simp only [QQ5,Go.Sort.size_swp];omega)) rfl rfl rfl fun _ hs=>⟨trivial,hs⟩
   ·exact ob [2,4,15] [17] rfl rfl fun D J w hs=>Qaw QaL Qar.1 (hs.rd 0 rfl) rfl rfl (by omega) (by simp only [QQ6,QQ9,QQ5,Go.Sort.size_swp];omega) (Zz hs)
   ·exact oa [13,15,16] fun D J w hs=>Qcj (z:=d2[j]!) (j-1) Qar hs 0 rfl rfl (by omega) (by first|omega|(simp only [QQ5,Go.Sort.size_swp];omega)) rfl rfl rfl fun _ hs=>⟨trivial,hs⟩
   rintro J1 w9 J2 hJ hs
   replace hJ:J2=mix (sq 33 16) J1 _:=hJ
   replace hs:Own w S w9 [row (.slice a N c) ((((d2.setIfInBounds j (d2[j-1]!)).setIfInBounds (j-1) (d2[j]!)).toList).map (ic .u16)) 32 1]:=hs
   subst hJ
   refine Qab (Qaa (Qac (V:=I6 (j:Int)) rfl (Qaa (Qa7 (a:=(j:Int)) (b:=1) (c:=((j-1:Nat):Int)) rfl rfl (Qak (by omega) (by omega)) (Qaa (Qad (V:=I6 ((j-1:Nat):Int)) rfl (Qaf ?_)))))))
   refine ⟨_,?_,_,j-1,((d2.setIfInBounds j (d2[j-1]!)).setIfInBounds (j-1) (d2[j]!)),Qai (Qao (ds:=([7]++sq 16 33)) (by repeat (first|exact Agr.refl _ _|refine Agr.upd ?_ rfl|refine Agr.mix ?_ rfl))) rfl,(by omega),(by omega),(by simp only [QQ5];exact hz2),(by rw [← hin];exact (Qrr c6 c6r).symm),rfl,hs.take 1⟩
   omega
  refine QaF (Qab (Qaa (Qac (V:=I6 (k:Int)) rfl (Qaa (QaD (a:=(k:Int)) (b:=1) (c:=((k+1:Nat):Int)) rfl rfl (Qak (by omega) (by omega)) (Qaa (Qad (V:=I6 ((k+1:Nat):Int)) rfl (Qaf ?_))))))))
  refine ⟨_,?_,_,k+1,d2,Qai (Qao (ds:=([6,7]++sq 10 39)) (by repeat (first|exact Agr.refl _ _|refine Agr.upd ?_ rfl|refine Agr.mix ?_ rfl))) rfl,(by omega),(by omega),hz2,(by rw [← hev,Qr3 (d:=d1) c2,← hin,Qs8 c6]),rfl,hs.take 1⟩
  omega
 replace c2:=QQ2 c2
 refine QaF ?_
 refine ⟨_,Qbr Tryz.results172,?_⟩
 have hX:d1=Sort.insertionSort ltInt d lo hi:=by rw [← hev,Quc c2]
 exact ⟨(),rfl,hX ▸ hs.take 1,hX ▸ (by first|assumption|(simp only [QQ5,Go.Sort.size_swp];omega))⟩
end Tt
end Go.Proofs
