/- A part of a proof: what functions of the program compute, and plain facts on that. -/
import Derived.Test.YtbjbjboehjdcaaaGreatCutsBetweenP8
set_option linter.unusedVariables false
set_option linter.unusedSimpArgs false
set_option maxHeartbeats 4000000
set_option maxRecDepth 100000
namespace Go.Proofs
open Go Go.Vx Go.RowKit
open Go.Sort (ltInt medianAdjacent order2 partition)
namespace Tt
theorem Qwc:Sort.SWO ltInt:=Sort.swo_ltInt
theorem Qoc {d:Array Int} {lo hi pvx:Nat} (h1:lo<=pvx) (h2:pvx<hi) (h3:hi<=d.size):lo<(Sort.partitionEqual ltInt d lo hi pvx).1/\(Sort.partitionEqual ltInt d lo hi pvx).1<=hi:=by
 have:=Sort.partEqLoop_spec ltInt lo hi (hi-1+1-(lo+1)) (lo+1) (hi-1) (Sort.swp d lo pvx) (Nat.le_refl _) (by omega) (by omega) (by omega) (by rw [Sort.size_swp];exact h3) (fun t a b=>by omega) (fun t a b=>by omega)
 exact ⟨this.1,this.2.1⟩
theorem Qph {d:Array Int} {lo hi pvx:Nat} (h1:lo<=pvx) (h2:pvx<hi) (h3:hi<=d.size):lo<=(partition ltInt d lo hi pvx).1/\(partition ltInt d lo hi pvx).1<hi:=by
 have:=Sort.partition_holds (lt:=ltInt) Qwc d lo hi pvx h1 h2 h3
 exact ⟨this.1,this.2.1⟩
theorem QkF {x:Sort.Hint}:QcG x=1↔x = .increasing:=by cases x<;>simp [QcG]
theorem Qkc {x:Sort.Hint}:QcG x=2↔x = .decreasing:=by cases x<;>simp [QcG]
section
variable {l h lim2 lim3 pvx:Nat} {wb wp b:Bool} {d1 d2 d3 d4:Array Int}
theorem Qqz (hw:wb=false):Sort.breakPatterns d1 l h=(Sort.rd ltInt d1 l h lim2 wb wp).d1/\lim2-1=(Sort.rd ltInt d1 l h lim2 wb wp).lim:=by subst hw;exact ⟨rfl,rfl⟩
theorem Qt4 (hw:wb=true):d1=(Sort.rd ltInt d1 l h lim2 wb wp).d1/\lim2=(Sort.rd ltInt d1 l h lim2 wb wp).lim:=by subst hw;exact ⟨rfl,rfl⟩
theorem QjI (h2:d2=(Sort.rd ltInt d1 l h lim2 wb wp).d1) (hh:QcG (Sort.choosePivot ltInt d2 l h).2=2):Sort.reverseRange d2 l h=(Sort.rd ltInt d1 l h lim2 wb wp).d2/\(h-1)-((Sort.choosePivot ltInt d2 l h).1-l)=(Sort.rd ltInt d1 l h lim2 wb wp).pivot/\(1:Int)=QcG (Sort.rd ltInt d1 l h lim2 wb wp).hint:=by
 rw [Qkc] at hh
 subst h2
 have hc:(Sort.rd ltInt d1 l h lim2 wb wp).c.2 = .decreasing:=hh
 refine ⟨?_,?_,?_⟩
 ·show _=if (Sort.rd ltInt d1 l h lim2 wb wp).c.2 = .decreasing then _ else _
  rw [if_pos hc];rfl
 ·show _=if (Sort.rd ltInt d1 l h lim2 wb wp).c.2 = .decreasing then _ else _
  rw [if_pos hc];rfl
 show _=QcG (if (Sort.rd ltInt d1 l h lim2 wb wp).c.2 = .decreasing then Sort.Hint.increasing else _)
 rw [if_pos hc];rfl
theorem QjG (h2:d2=(Sort.rd ltInt d1 l h lim2 wb wp).d1) (hh:¬QcG (Sort.choosePivot ltInt d2 l h).2=2):d2=(Sort.rd ltInt d1 l h lim2 wb wp).d2/\(Sort.choosePivot ltInt d2 l h).1=(Sort.rd ltInt d1 l h lim2 wb wp).pivot/\QcG (Sort.choosePivot ltInt d2 l h).2=QcG (Sort.rd ltInt d1 l h lim2 wb wp).hint:=by
 rw [Qkc] at hh
 subst h2
 have hc:¬(Sort.rd ltInt d1 l h lim2 wb wp).c.2 = .decreasing:=hh
 refine ⟨?_,?_,?_⟩
 ·show _=if (Sort.rd ltInt d1 l h lim2 wb wp).c.2 = .decreasing then _ else _
  rw [if_neg hc];rfl
 ·show _=if (Sort.rd ltInt d1 l h lim2 wb wp).c.2 = .decreasing then _ else _
  rw [if_neg hc];rfl
 show _=QcG (if (Sort.rd ltInt d1 l h lim2 wb wp).c.2 = .decreasing then Sort.Hint.increasing else _)
 rw [if_neg hc];rfl
theorem QuD (h3:d3=(Sort.rd ltInt d1 l h lim2 wb wp).d2) (hw:wb=true) (hp:wp=true) (hh:QcG (Sort.rd ltInt d1 l h lim2 wb wp).hint=1):(Sort.rd ltInt d1 l h lim2 wb wp).pi=Sort.partialInsertionSort ltInt d3 l h:=by
 rw [QkF] at hh
 subst h3
 have hc:(wb&&wp&&decide ((Sort.rd ltInt d1 l h lim2 wb wp).hint = .increasing))=true:=by rw [QQ3 hh,hw,hp];rfl
 show (if (wb&&wp&&decide ((Sort.rd ltInt d1 l h lim2 wb wp).hint = .increasing))=true then _ else _)=_
 rw [if_pos hc];rfl
theorem Qrn (h3:d3=(Sort.rd ltInt d1 l h lim2 wb wp).d2) (hh:((wb&&wp)&&decide (QcG (Sort.rd ltInt d1 l h lim2 wb wp).hint=1))=false):(Sort.rd ltInt d1 l h lim2 wb wp).pi=(d3,false):=by
 subst h3
 have hc:(wb&&wp&&decide ((Sort.rd ltInt d1 l h lim2 wb wp).hint = .increasing))=false:=by rw [← hh];congr 1;exact decide_eq_decide.2 QkF.symm
 show (if (wb&&wp&&decide ((Sort.rd ltInt d1 l h lim2 wb wp).hint = .increasing))=true then _ else _)=_
 rw [if_neg (by rw [hc];exact Bool.false_ne_true)];rfl
theorem Qo8 (hs:((h-l:Nat):Int)<=12):Sort.pdq ltInt d1 l h lim2 wb wp=Sort.insertionSort ltInt d1 l h:=Sort.pdq_small (by omega)
theorem Qsk (hs:¬((h-l:Nat):Int)<=12) (h0:(lim2:Int)=0):Sort.pdq ltInt d1 l h lim2 wb wp=Sort.heapSort ltInt d1 l h:=Sort.pdq_heap (by omega) (by omega)
theorem QqW (hs:¬((h-l:Nat):Int)<=12) (h0:¬(lim2:Int)=0) (hp:(Sort.rd ltInt d1 l h lim2 wb wp).pi.2=true):Sort.pdq ltInt d1 l h lim2 wb wp=(Sort.rd ltInt d1 l h lim2 wb wp).pi.1:=Sort.pdq_done (by omega) (by omega) hp
theorem Qvn {x y:Int} (hb:(decide (0<(l:Int))&&!decide (x<y))=b):(decide (l > 0)&&!ltInt x y)=b:=by
 rw [← hb];congr 1;exact decide_eq_decide.2 (by omega)
theorem QvI (hs:¬((h-l:Nat):Int)<=12) (h0:¬(lim2:Int)=0) (hd4:d4=(Sort.rd ltInt d1 l h lim2 wb wp).pi.1) (hp:(Sort.rd ltInt d1 l h lim2 wb wp).pi.2=false) (hpv:pvx=(Sort.rd ltInt d1 l h lim2 wb wp).pivot) (hl:lim3=(Sort.rd ltInt d1 l h lim2 wb wp).lim) (h2:(decide (0<(l:Int))&&!decide (d4[l-1]!<d4[pvx]!))=true) (hr:l<(Sort.partitionEqual ltInt d4 l h pvx).1/\(Sort.partitionEqual ltInt d4 l h pvx).1<=h) :
  Sort.pdq ltInt d1 l h lim2 wb wp=Sort.pdq ltInt (Sort.partitionEqual ltInt d4 l h pvx).2 (Sort.partitionEqual ltInt d4 l h pvx).1 h lim3 wb wp:=by
 subst hd4 hpv hl;exact Sort.pdq_eq (by omega) (by omega) hp (Qvn h2) hr
theorem QrN (hs:¬((h-l:Nat):Int)<=12) (h0:¬(lim2:Int)=0) (hd4:d4=(Sort.rd ltInt d1 l h lim2 wb wp).pi.1) (hp:(Sort.rd ltInt d1 l h lim2 wb wp).pi.2=false) (hpv:pvx=(Sort.rd ltInt d1 l h lim2 wb wp).pivot) (hl:lim3=(Sort.rd ltInt d1 l h lim2 wb wp).lim) (h2:(decide (0<(l:Int))&&!decide (d4[l-1]!<d4[pvx]!))=false) (hr:l<=(partition ltInt d4 l h pvx).1/\(partition ltInt d4 l h pvx).1<h)
  (h4:(((partition ltInt d4 l h pvx).1-l:Nat):Int)<((h-(partition ltInt d4 l h pvx).1:Nat):Int)) :
  Sort.pdq ltInt d1 l h lim2 wb wp=Sort.pdq ltInt (Sort.pdq ltInt (partition ltInt d4 l h pvx).2.2 l (partition ltInt d4 l h pvx).1 lim3 true true) ((partition ltInt d4 l h pvx).1+1) h lim3 (decide ((partition ltInt d4 l h pvx).1-l ≥ (h-l)/8)) (partition ltInt d4 l h pvx).2.1:=by
 subst hd4 hpv hl;exact Sort.pdq_left (by omega) (by omega) hp (Qvn h2) hr (by omega)
theorem Qpv (hs:¬((h-l:Nat):Int)<=12) (h0:¬(lim2:Int)=0) (hd4:d4=(Sort.rd ltInt d1 l h lim2 wb wp).pi.1) (hp:(Sort.rd ltInt d1 l h lim2 wb wp).pi.2=false) (hpv:pvx=(Sort.rd ltInt d1 l h lim2 wb wp).pivot) (hl:lim3=(Sort.rd ltInt d1 l h lim2 wb wp).lim) (h2:(decide (0<(l:Int))&&!decide (d4[l-1]!<d4[pvx]!))=false) (hr:l<=(partition ltInt d4 l h pvx).1/\(partition ltInt d4 l h pvx).1<h)
  (h4:¬(((partition ltInt d4 l h pvx).1-l:Nat):Int)<((h-(partition ltInt d4 l h pvx).1:Nat):Int)) :
  Sort.pdq ltInt d1 l h lim2 wb wp=Sort.pdq ltInt (Sort.pdq ltInt (partition ltInt d4 l h pvx).2.2 ((partition ltInt d4 l h pvx).1+1) h lim3 true true) l (partition ltInt d4 l h pvx).1 lim3 (decide (h-(partition ltInt d4 l h pvx).1 ≥ (h-l)/8)) (partition ltInt d4 l h pvx).2.1:=by
 subst hd4 hpv hl;exact Sort.pdq_right (by omega) (by omega) hp (Qvn h2) hr (by omega)
end
def QtE (n:Nat):Prop:=∀ (w:World) (S:Nat->Prop) (a:Option Addr) (N c:Nat) (d:Array Int) (hsz:d.size=N) (hN:N<=2305843009213693951) (lo hi lim:Nat) (h1:lo<=hi) (h2:hi<=N) (hlim:lim<=4611686018427387904) (hlen:hi-lo<n) (hR:(row (.slice a N c) (d.toList.map (ic .u16)) 32 1).holds w S) (hlt:∀ x,S x->x<w.heap.size),Calls Tryz.prog 160 #[.slice a N c,.int .i64 (lo:Int),.int .i64 (hi:Int),.int .i64 (lim:Int)] w (fun e w'=>∃ x:Unit,e = .returned (.tuple #[])/\Own w S w' [row (.slice a N c) ((Sort.pdq ltInt d lo hi lim true true).toList.map (ic .u16)) 32 1]/\(Sort.pdq ltInt d lo hi lim true true).size=N)
theorem Qpx (n:Nat) (ih:QtE n) (w:World) (S:Nat->Prop) (a:Option Addr) (N c:Nat) (d:Array Int) (hsz:d.size=N) (hN:N<=2305843009213693951) (lo hi lim:Nat) (h1:lo<=hi) (h2:hi<=N) (hxor:Qr9 Tryz.prog 163 211) (hpow:Qsm Tryz.prog 162) (hlim:lim<=4611686018427387904) (hlen:hi-lo<n+1) (hR:(row (.slice a N c) (d.toList.map (ic .u16)) 32 1).holds w S) (hlt:∀ x,S x->x<w.heap.size):Calls Tryz.prog 160 #[.slice a N c,.int .i64 (lo:Int),.int .i64 (hi:Int),.int .i64 (lim:Int)] w (fun e w'=>∃ x:Unit,e = .returned (.tuple #[])/\Own w S w' [row (.slice a N c) ((Sort.pdq ltInt d lo hi lim true true).toList.map (ic .u16)) 32 1]/\(Sort.pdq ltInt d lo hi lim true true).size=N):=by
 refine Qai (n:=134) Tryz.func160 rfl Tryz.ntmps160 rfl ?_
 have hs:=Own.lent hR hlt
 refine Qag (Qab (Qaa (Qad (V:=.bool true) rfl (Qae (Qag (Qab (Qaa (Qad (V:=.bool true) rfl (Qae (Qan (QaD (fun J μ J' w'=>∃ (Jo:Env) (l:Nat) (h:Nat) (lim2:Nat) (wb:Bool) (wp:Bool) (d1:Array Int),J'=upd (upd (upd (upd (upd (mix ([1,2,3]++sq 8 126) Jo J) 1 (I6 (l:Int))) 2 (I6 (h:Int))) 3 (I6 (lim2:Int))) 8 (.bool wb)) 9 (.bool wp)/\(l<=h)/\(h<=N)/\(h-l<=hi-lo)/\(lim2<=4611686018427387904)/\(d1.size=N)/\(Sort.pdq ltInt d1 l h lim2 wb wp=Sort.pdq ltInt d lo hi lim true true)/\μ=h-l/\Own w S w' [row (.slice a N c) (d1.toList.map (ic .u16)) 32 1]) ?_ ?_)))))))))))
 ·exact ⟨_,_,lo,hi,lim,true,true,d,Qal (Qal (Qal (Qal (Qal (Qap (ds:=([1,2,3]++sq 8 126)) (Agr.refl _ _)) rfl) rfl) rfl) rfl) rfl,h1,h2,(Nat.le_refl _),hlim,hsz,rfl,rfl,hs⟩
 rintro μ J' w1 ⟨Jo,l,h,lim2,wb,wp,d1,rfl,hlh,hhN,hlen2,hlim2,hz1,hev,rfl,hs⟩
 refine Qan (Qag (Qab (Qaa (Qac (V:=I6 (h:Int)) rfl (Qaa (Qac (V:=I6 (l:Int)) rfl (Qaa (Qa5 (a:=(h:Int)) (b:=(l:Int)) (c:=((h-l:Nat):Int)) rfl rfl (Qak (by omega) (by omega)) (Qaa (Qad (V:=I6 ((h-l:Nat):Int)) rfl (Qae (Qag (Qag (Qab (Qaa (Qac (V:=I6 ((h-l:Nat):Int)) rfl (Qaa (QdZ rfl rfl (Qae (Qam (t:=decide (((h-l:Nat):Int)<=12)) rfl (fun c2=>?_) (fun c2=>?_)))))))))))))))))))))
 ·
  replace c2:=QQ1 c2
  refine Qag (Qab (Qaa (Qac (V:=.slice a N c) rfl (Qaa (Qac (V:=I6 (l:Int)) rfl (Qaa (Qac (V:=I6 (h:Int)) rfl (Qaa (Qbr (vs:=[.slice a N c,I6 (l:Int),I6 (h:Int)]) (V:=fun _:Unit=>.tuple #[]) (R:=row (.slice a N c) (d1.toList.map (ic .u16)) 32 1) (R':=fun _=>row (.slice a N c) ((Sort.insertionSort ltInt d1 l h).toList.map (ic .u16)) 32 1) (Lo:=fun _=>[]) (F:=fun _ _=>(Sort.insertionSort ltInt d1 l h).size=N) Qtf rfl rfl hs 0 rfl (fun S hS hlt=>QuK _ S a N c d1 (by first|assumption|(simp only [QQ5,Go.Sort.size_swp];omega)) hN l h (by omega) (by omega) hS hlt) fun _ w3 hs hz4=>(Qae (Qaw ?_)))))))))))
  refine ⟨_,Qbf Tryz.results160,?_⟩
  have hX:Sort.insertionSort ltInt d1 l h=Sort.pdq ltInt d lo hi lim true true:=by rw [← hev,Qo8 c2]
  exact ⟨(),rfl,hX ▸ hs.take 1,hX ▸ (by first|assumption|(simp only [QQ5,Go.Sort.size_swp];omega))⟩
 replace c2:=QQ2 c2
 refine Qao (Qag (Qag (Qab (Qaa (Qac (V:=I6 (lim2:Int)) rfl (Qaa (QaZ rfl rfl (Qae (Qam (t:=decide ((lim2:Int)=0)) rfl (fun c6=>?_) (fun c6=>?_))))))))))
 ·
  replace c6:=QQ1 c6
  refine Qag (Qab (Qaa (Qac (V:=.slice a N c) rfl (Qaa (Qac (V:=I6 (l:Int)) rfl (Qaa (Qac (V:=I6 (h:Int)) rfl (Qaa (Qbr (vs:=[.slice a N c,I6 (l:Int),I6 (h:Int)]) (V:=fun _:Unit=>.tuple #[]) (R:=row (.slice a N c) (d1.toList.map (ic .u16)) 32 1) (R':=fun _=>row (.slice a N c) ((Sort.heapSort ltInt d1 l h).toList.map (ic .u16)) 32 1) (Lo:=fun _=>[]) (F:=fun _ _=>(Sort.heapSort ltInt d1 l h).size=N) Que rfl rfl hs 0 rfl (fun S hS hlt=>Qsu _ S a N c d1 (by first|assumption|(simp only [QQ5,Go.Sort.size_swp];omega)) hN l h (by omega) (by omega) hS hlt) fun _ w7 hs hz8=>(Qae (Qaw ?_)))))))))))
  refine ⟨_,Qbf Tryz.results160,?_⟩
  have hX:Sort.heapSort ltInt d1 l h=Sort.pdq ltInt d lo hi lim true true:=by rw [← hev,Qsk c2 c6]
  exact ⟨(),rfl,hX ▸ hs.take 1,hX ▸ (by first|assumption|(simp only [QQ5,Go.Sort.size_swp];omega))⟩
 replace c6:=QQ2 c6
 refine Qao (Qag (Qag (Qab (Qaa (Qac (V:=.bool wb) rfl (Qaa (Qbz rfl (Qae (QfE (fun J J' w'=>∃ (Jo:Env) (d2:Array Int) (lim3:Nat),J'=upd (mix ([3]++sq 36 6) Jo J) 3 (I6 (lim3:Int))/\(d2=(Sort.rd ltInt d1 l h lim2 wb wp).d1)/\(lim3=(Sort.rd ltInt d1 l h lim2 wb wp).lim)/\(lim3<=4611686018427387904)/\(d2.size=N)/\Own w S w' [row (.slice a N c) (d2.toList.map (ic .u16)) 32 1]) ?_ ?_)))))))))
 ·
  refine Qam (t:=!wb) rfl (fun c10=>?_) (fun c10=>?_)
  ·
   replace c10:=Qby c10
   refine Qag (Qab (Qaa (Qac (V:=.slice a N c) rfl (Qaa (Qac (V:=I6 (l:Int)) rfl (Qaa (Qac (V:=I6 (h:Int)) rfl (Qaa (Qbr (vs:=[.slice a N c,I6 (l:Int),I6 (h:Int)]) (V:=fun _:Unit=>.tuple #[]) (R:=row (.slice a N c) (d1.toList.map (ic .u16)) 32 1) (R':=fun _=>row (.slice a N c) ((Sort.breakPatterns d1 l h).toList.map (ic .u16)) 32 1) (Lo:=fun _=>[]) (F:=fun _ _=>(Sort.breakPatterns d1 l h).size=N) QtL rfl rfl hs 0 rfl (fun S hS hlt=>QuY _ S a N c d1 (by first|assumption|(simp only [QQ5,Go.Sort.size_swp];omega)) hN l h (by omega) (by omega) hxor hpow hS hlt) fun _ w11 hs hz12=>(Qae (Qab (Qaa (Qac (V:=I6 (lim2:Int)) rfl (Qaa (Qa5 (a:=(lim2:Int)) (b:=1) (c:=((lim2-1:Nat):Int)) rfl rfl (Qak (by omega) (by omega)) (Qaa (Qad (V:=I6 ((lim2-1:Nat):Int)) rfl (Qae ?_))))))))))))))))))
   exact ⟨_,Sort.breakPatterns d1 l h,lim2-1,Qal (Qap (ds:=([3]++sq 36 6)) (by repeat (first|exact Agr.refl _ _|refine Agr.upd ?_ rfl|refine Agr.mix ?_ rfl))) rfl,((Qqz (l:=l) (h:=h) (lim2:=lim2) (wp:=wp) (d1:=d1) c10).1),((Qqz (l:=l) (h:=h) (lim2:=lim2) (wp:=wp) (d1:=d1) c10).2),(by omega),(by assumption),hs.take 1⟩
  replace c10:=Qbu c10
  refine Qao ?_
  exact ⟨_,d1,lim2,Qal (Qap (ds:=([3]++sq 36 6)) (by repeat (first|exact Agr.refl _ _|refine Agr.upd ?_ rfl|refine Agr.mix ?_ rfl))) rfl,((Qt4 (l:=l) (h:=h) (lim2:=lim2) (wp:=wp) (d1:=d1) c10).1),((Qt4 (l:=l) (h:=h) (lim2:=lim2) (wp:=wp) (d1:=d1) c10).2),(by omega),(by assumption),hs.take 1⟩
 rintro J' w14 ⟨Jo,d2,lim3,rfl,hd2,hl3,hlim3,hz2,hs⟩
 refine Qag (Qab (Qaa (Qac (V:=.slice a N c) rfl (Qaa (Qac (V:=I6 (l:Int)) rfl (Qaa (Qac (V:=I6 (h:Int)) rfl (Qaa (Qat (vs:=[.slice a N c,I6 (l:Int),I6 (h:Int)]) (V:=.tuple #[I6 (((Sort.choosePivot ltInt d2 l h).1:Nat):Int),I6 (QcG (Sort.choosePivot ltInt d2 l h).2)]) QsI rfl rfl ?hc hs fun w15 hs=>?_)))))))))
 case hc=>exact (QsZ _ a N c d2 (by first|assumption|(simp only [QQ5,Go.Sort.size_swp];omega)) hN (hs.rd 0 rfl) l h (by omega) (by omega))
 refine Qaa (Qac (V:=.tuple #[I6 (((Sort.choosePivot ltInt d2 l h).1:Nat):Int),I6 (QcG (Sort.choosePivot ltInt d2 l h).2)]) rfl (Qaa (QaA (V:=I6 (((Sort.choosePivot ltInt d2 l h).1:Nat):Int)) rfl rfl (Qaa (QaA (V:=I6 (QcG (Sort.choosePivot ltInt d2 l h).2)) rfl rfl (Qaa (Qad (V:=I6 (((Sort.choosePivot ltInt d2 l h).1:Nat):Int)) rfl (Qaa (Qad (V:=I6 (QcG (Sort.choosePivot ltInt d2 l h).2)) rfl (Qae (Qag (Qag ?_))))))))))))
 have hcp:=Sort.choosePivot_holds ltInt d2 l h (by omega)
 refine Qab (Qaa (Qac (V:=I6 (QcG (Sort.choosePivot ltInt d2 l h).2)) rfl (Qaa (QaZ rfl rfl (Qae (QfE (fun J J' w'=>∃ (Jo:Env) (d3:Array Int) (pvx:Nat),J'=upd (upd (mix ([11,12]++sq 51 10) Jo J) 11 (I6 (pvx:Int))) 12 (I6 (QcG (Sort.rd ltInt d1 l h lim2 wb wp).hint))/\(d3=(Sort.rd ltInt d1 l h lim2 wb wp).d2)/\(pvx=(Sort.rd ltInt d1 l h lim2 wb wp).pivot)/\(l<=pvx/\pvx<h)/\(d3.size=N)/\Own w S w' [row (.slice a N c) (d3.toList.map (ic .u16)) 32 1]) ?_ ?_))))))
 ·
  refine Qam (t:=decide (QcG (Sort.choosePivot ltInt d2 l h).2=2)) rfl (fun c16=>?_) (fun c16=>?_)
  ·
   replace c16:=QQ1 c16
   refine Qag (Qab (Qaa (Qac (V:=.slice a N c) rfl (Qaa (Qac (V:=I6 (l:Int)) rfl (Qaa (Qac (V:=I6 (h:Int)) rfl (Qaa (Qbr (vs:=[.slice a N c,I6 (l:Int),I6 (h:Int)]) (V:=fun _:Unit=>.tuple #[]) (R:=row (.slice a N c) (d2.toList.map (ic .u16)) 32 1) (R':=fun _=>row (.slice a N c) ((Sort.reverseRange d2 l h).toList.map (ic .u16)) 32 1) (Lo:=fun _=>[]) (F:=fun _ _=>(Sort.reverseRange d2 l h).size=N) QsQ rfl rfl hs 0 rfl (fun S hS hlt=>Qth _ S a N c d2 (by first|assumption|(simp only [QQ5,Go.Sort.size_swp];omega)) hN l h (by omega) (by omega) hS hlt) fun _ w17 hs hz18=>(Qae (Qag (Qab (Qaa (Qac (V:=I6 (h:Int)) rfl (Qaa (Qa5 (a:=(h:Int)) (b:=1) (c:=((h-1:Nat):Int)) rfl rfl (Qak (by omega) (by omega)) (Qaa (Qac (V:=I6 (((Sort.choosePivot ltInt d2 l h).1:Nat):Int)) rfl (Qaa (Qac (V:=I6 (l:Int)) rfl (Qaa (Qa5 (a:=(((Sort.choosePivot ltInt d2 l h).1:Nat):Int)) (b:=(l:Int)) (c:=((((Sort.choosePivot ltInt d2 l h).1)-l:Nat):Int)) rfl rfl (Qak (by omega) (by omega)) (Qaa (Qa5 (a:=((h-1:Nat):Int)) (b:=((((Sort.choosePivot ltInt d2 l h).1)-l:Nat):Int)) (c:=(((h-1)-(((Sort.choosePivot ltInt d2 l h).1)-l):Nat):Int)) rfl rfl (Qak (by omega) (by omega)) (Qaa (Qad (V:=I6 (((h-1)-(((Sort.choosePivot ltInt d2 l h).1)-l):Nat):Int)) rfl (Qae (Qab (Qaa (Qad (V:=I6 1) rfl (Qae ?_)))))))))))))))))))))))))))))))
   exact ⟨_,Sort.reverseRange d2 l h,(h-1)-(((Sort.choosePivot ltInt d2 l h).1)-l),Qal (Qal (Qap (ds:=([11,12]++sq 51 10)) (by repeat (first|exact Agr.refl _ _|refine Agr.upd ?_ rfl|refine Agr.mix ?_ rfl))) rfl) (congrArg (Value.int .i64) (by first|exact (QjI hd2 (by assumption)).2.2|exact (QjG hd2 (by assumption)).2.2)),((QjI hd2 c16).1),((QjI hd2 c16).2.1),(by omega),(by assumption),hs.take 1⟩
  replace c16:=QQ2 c16
  refine Qao ?_
  exact ⟨_,d2,(Sort.choosePivot ltInt d2 l h).1,Qal (Qal (Qap (ds:=([11,12]++sq 51 10)) (by repeat (first|exact Agr.refl _ _|refine Agr.upd ?_ rfl|refine Agr.mix ?_ rfl))) rfl) (congrArg (Value.int .i64) (by first|exact (QjI hd2 (by assumption)).2.2|exact (QjG hd2 (by assumption)).2.2)),((QjG hd2 c16).1),((QjG hd2 c16).2.1),(by omega),(by assumption),hs.take 1⟩
 rintro J' w20 ⟨Jo,d3,pvx,rfl,hd3,hpv,hpr,hz3,hs⟩
 refine Qag (Qag (Qbw [some 61,some 62,some 63,some 64,some 65,some 66,some 67,some 68] [] [0,1,3,7,15,31,63,127] [pv (.bool wb),pv (.bool wb),pg (wb == true) (.bool wp),pv (.bool (wb&&wp)),pv (.bool (wb&&wp)),pg ((wb&&wp) == true) (I6 (QcG (Sort.rd ltInt d1 l h lim2 wb wp).hint)),pg ((wb&&wp) == true) (.bool (decide (QcG (Sort.rd ltInt d1 l h lim2 wb wp).hint=1))),pv (.bool ((wb&&wp)&&(decide (QcG (Sort.rd ltInt d1 l h lim2 wb wp).hint=1))))] (fun _ _=>_) [7] (by kernel_rfl) hs ⟨?_,?_,?_,?_,?_,?_,?_,?_,trivial⟩ ?_))
 ·exact oa [] fun D J w hs=>Qac (V:=.bool wb) rfl (Zz hs)
 ·exact oa [0] fun D J w hs=>Qac (V:=.bool wb) rfl (Zz hs)
 ·exact og [1] fun D J w hG hs=>Qac (V:=.bool wp) rfl (Zz hs)
 ·exact oa [1,2] fun D J w hs=>Qbn (h':=wp) rfl rfl rfl (Zz hs)
 ·exact oa [3] fun D J w hs=>Qac (V:=.bool (wb&&wp)) rfl (Zz hs)
 ·exact og [4] fun D J w hG hs=>Qac (V:=.int .i64 (QcG (Sort.rd ltInt d1 l h lim2 wb wp).hint)) rfl (Zz hs)
 ·exact oy [4,5] [5] fun D J w hG hs=>QaZ rfl rfl (Zz hs)
 ·exact oa [4,6] fun D J w hs=>Qbn (h':=decide (QcG (Sort.rd ltInt d1 l h lim2 wb wp).hint=1)) rfl rfl rfl (Zz hs)
 rintro J1 w21 J2 hJ hs
 replace hJ:J2=upd (mix (sq 61 8) J1 _) 68 (.bool ((wb&&wp)&&(decide (QcG (Sort.rd ltInt d1 l h lim2 wb wp).hint=1)))):=hJ
 subst hJ
 refine QfE (fun J J' w'=>∃ (Jo:Env) (d4:Array Int),J'=mix [69,70,71,72] Jo J/\(d4=(Sort.rd ltInt d1 l h lim2 wb wp).pi.1)/\((Sort.rd ltInt d1 l h lim2 wb wp).pi.2=false)/\(d4.size=N)/\Own w S w' [row (.slice a N c) (d4.toList.map (ic .u16)) 32 1]) ?_ ?_
 ·
  refine Qam (t:=(wb&&wp)&&(decide (QcG (Sort.rd ltInt d1 l h lim2 wb wp).hint=1))) rfl (fun c22=>?_) (fun c22=>?_)
  ·
   have c22r:=Qcy c22
   replace c22:=Qb3 c22
   have c22rr:=Qcy c22
   replace c22:=Qb3 c22
   replace c22r:=QQ1 c22r
   refine Qag (Qab (Qaa (Qac (V:=.slice a N c) rfl (Qaa (Qac (V:=I6 (l:Int)) rfl (Qaa (Qac (V:=I6 (h:Int)) rfl (Qaa (Qbr (vs:=[.slice a N c,I6 (l:Int),I6 (h:Int)]) (V:=fun _:Unit=>.bool ((Sort.partialInsertionSort ltInt d3 l h).2)) (R:=row (.slice a N c) (d3.toList.map (ic .u16)) 32 1) (R':=fun _=>row (.slice a N c) (((Sort.partialInsertionSort ltInt d3 l h).1).toList.map (ic .u16)) 32 1) (Lo:=fun _=>[]) (F:=fun _ _=>((Sort.partialInsertionSort ltInt d3 l h).1).size=N) Quh rfl rfl hs 0 rfl (fun S hS hlt=>QrH _ S a N c d3 (by first|assumption|(simp only [QQ5,Go.Sort.size_swp];omega)) hN l h (by omega) (by omega) hS hlt) fun _ w23 hs hz24=>(Qae (Qam (t:=(Sort.partialInsertionSort ltInt d3 l h).2) rfl (fun c26=>?_) (fun c26=>?_))))))))))))
   ·
    refine Qaw ?_
    refine ⟨_,Qbf Tryz.results160,?_⟩
    have hpi:=QuD hd3 c22 c22rr c22r
    have hX:(Sort.partialInsertionSort ltInt d3 l h).1=Sort.pdq ltInt d lo hi lim true true:=by rw [← hev,QqW c2 c6 (by rw [hpi];exact c26),hpi]
    exact ⟨(),rfl,hX ▸ hs.take 1,hX ▸ (by first|assumption|(simp only [QQ5,Go.Sort.size_swp];omega))⟩
   refine Qao ?_
   have hpi:=QuD hd3 c22 c22rr c22r
   exact ⟨_,(Sort.partialInsertionSort ltInt d3 l h).1,Qap (ds:=[69,70,71,72]) (by repeat (first|exact Agr.refl _ _|refine Agr.upd ?_ rfl|refine Agr.mix ?_ rfl)),(by rw [hpi]),(by rw [hpi];exact c26),(by assumption),hs.take 1⟩
  refine Qao ?_
  have hpi:=Qrn hd3 c22
  exact ⟨_,d3,Qap (ds:=[69,70,71,72]) (by repeat (first|exact Agr.refl _ _|refine Agr.upd ?_ rfl|refine Agr.mix ?_ rfl)),(by rw [hpi]),(by rw [hpi]),(by assumption),hs.take 1⟩
 rintro J' w27 ⟨Jo,d4,rfl,hd4,hp4,hz4,hs⟩
 refine Qag (Qag (QaH HM [some 73,some 74,some 75,some 76,some 77,some 78,some 79,some 80,some 81,some 82,some 83,some 84,some 85,some 86,some 87] [] [0,1,3,7,7,23,63,127,7,7,775,1799,4095,8191,16383] [pv (I6 (l:Int)),pv (.bool (decide (0<(l:Int)))),pv (.bool (decide (0<(l:Int)))),pg ((decide (0<(l:Int))) == true) (.slice a N c),pg ((decide (0<(l:Int))) == true) (I6 (l:Int)),pg ((decide (0<(l:Int))) == true) (I6 ((l-1:Nat):Int)),pg ((decide (0<(l:Int))) == true) (.pointer (some ⟨bkS (.slice a N c),ofS (.slice a N c)+((l-1:Nat):Int).toNat*1,none⟩)),pg ((decide (0<(l:Int))) == true) (I7 (d4[l-1]!)),pg ((decide (0<(l:Int))) == true) (.slice a N c),pg ((decide (0<(l:Int))) == true) (I6 (pvx:Int)),pg ((decide (0<(l:Int))) == true) (.pointer (some ⟨bkS (.slice a N c),ofS (.slice a N c)+(pvx:Int).toNat*1,none⟩)),pg ((decide (0<(l:Int))) == true) (I7 (d4[pvx]!)),pg ((decide (0<(l:Int))) == true) (.bool (decide (d4[l-1]!<d4[pvx]!))),pg ((decide (0<(l:Int))) == true) (.bool (!decide (d4[l-1]!<d4[pvx]!))),pv (.bool ((decide (0<(l:Int)))&&(!decide (d4[l-1]!<d4[pvx]!))))] (fun _ _=>_) [14] (by kernel_rfl) hs ⟨?_,?_,?_,?_,?_,?_,?_,?_,?_,?_,?_,?_,?_,?_,?_,trivial⟩ ?_))
 ·exact oa [] fun D J w hs=>Qac (V:=.int .i64 (l:Int)) rfl (Zz hs)
 ·exact oa [0] fun D J w hs=>Qb2 rfl rfl (Zz hs)
 ·exact oa [1] fun D J w hs=>Qac (V:=.bool (decide (0<(l:Int)))) rfl (Zz hs)
 ·refine og [2] fun D J w hG hs=>?_
  have hgd:=QQ1 (eq_of_beq hG)
  exact Qac (V:=.slice a N c) rfl (Zz hs)
 ·refine og [2] fun D J w hG hs=>?_
  have hgd:=QQ1 (eq_of_beq hG)
  exact Qac (V:=.int .i64 (l:Int)) rfl (Zz hs)
 ·refine oy [2,4] [4] fun D J w hG hs=>?_
  have hgd:=QQ1 (eq_of_beq hG)
  exact Qa5 (a:=(l:Int)) (b:=1) (c:=((l-1:Nat):Int)) rfl rfl (Qak (by omega) (by omega)) (Zz hs)
 ·refine oy [2,3,5] [3,5] fun D J w hG hs=>?_
  have hgd:=QQ1 (eq_of_beq hG)
  exact Qax QaN Qar.1 (hs.rd 0 rfl) rfl rfl (by omega) (by simp only [QQ6,QQ9,QQ5,Go.Sort.size_swp];omega) (Zz hs)
 ·refine oy [2,6] [6] fun D J w hG hs=>?_
  have hgd:=QQ1 (eq_of_beq hG)
  exact QaW (j:=0) (V:=.int .u16 (d4[l-1]!)) (l-1) Qar (hs.rd 0 rfl) (Qbo (by omega)) rfl rfl (by omega) (Zz hs)
 ·refine og [2] fun D J w hG hs=>?_
  have hgd:=QQ1 (eq_of_beq hG)
  exact Qac (V:=.slice a N c) rfl (Zz hs)
 ·refine og [2] fun D J w hG hs=>?_
  have hgd:=QQ1 (eq_of_beq hG)
  exact Qac (V:=.int .i64 (pvx:Int)) rfl (Zz hs)
 ·refine oy [2,8,9] [8,9] fun D J w hG hs=>?_
  have hgd:=QQ1 (eq_of_beq hG)
  exact Qax QaN Qar.1 (hs.rd 0 rfl) rfl rfl (by omega) (by simp only [QQ6,QQ9,QQ5,Go.Sort.size_swp];omega) (Zz hs)
 ·refine oy [2,10] [10] fun D J w hG hs=>?_
  have hgd:=QQ1 (eq_of_beq hG)
  exact QaW (j:=0) (V:=.int .u16 (d4[pvx]!)) pvx Qar (hs.rd 0 rfl) (Qbo (by omega)) rfl rfl (by omega) (Zz hs)
 ·refine oy [2,7,11] [7,11] fun D J w hG hs=>?_
  have hgd:=QQ1 (eq_of_beq hG)
  exact Qat (vs:=[.int .u16 (d4[l-1]!),.int .u16 (d4[pvx]!)]) (V:=.bool (decide (d4[l-1]!<d4[pvx]!))) Qdc rfl rfl (Qcr _ (d4[l-1]!) (d4[pvx]!)) hs fun _ hs=>Zz hs
 ·refine oy [2,12] [12] fun D J w hG hs=>?_
  have hgd:=QQ1 (eq_of_beq hG)
  exact Qbz rfl (Zz hs)
 ·exact oa [2,13] fun D J w hs=>Qbn (h':=!decide (d4[l-1]!<d4[pvx]!)) rfl rfl rfl (Zz hs)
 rintro J1 w29 J2 hJ hs
 replace hJ:J2=upd (mix (sq 73 15) J1 _) 87 (.bool ((decide (0<(l:Int)))&&(!decide (d4[l-1]!<d4[pvx]!)))):=hJ
 subst hJ
 refine Qam (t:=(decide (0<(l:Int)))&&(!decide (d4[l-1]!<d4[pvx]!))) rfl (fun c30=>?_) (fun c30=>?_)
 ·
  have c30r:=Qcy c30
  replace c30:=Qb3 c30
  replace c30:=QQ1 c30
  replace c30r:=Qby c30r
  replace c30r:=QQ2 c30r
  refine Qag ?_
  have hrg:=Qoc (d:=d4) (lo:=l) (hi:=h) (pvx:=pvx) (by omega) (by omega) (by omega)
  refine Qab (Qaa (Qac (V:=.slice a N c) rfl (Qaa (Qac (V:=I6 (l:Int)) rfl (Qaa (Qac (V:=I6 (h:Int)) rfl (Qaa (Qac (V:=I6 (pvx:Int)) rfl (Qaa (Qbr (vs:=[.slice a N c,I6 (l:Int),I6 (h:Int),I6 (pvx:Int)]) (V:=fun _:Unit=>I6 (((Sort.partitionEqual ltInt d4 l h pvx).1:Nat):Int)) (R:=row (.slice a N c) (d4.toList.map (ic .u16)) 32 1) (R':=fun _=>row (.slice a N c) (((Sort.partitionEqual ltInt d4 l h pvx).2).toList.map (ic .u16)) 32 1) (Lo:=fun _=>[]) (F:=fun _ _=>((Sort.partitionEqual ltInt d4 l h pvx).2).size=N) QsH rfl rfl hs 0 rfl (fun S hS hlt=>Qv1 _ S a N c d4 (by first|assumption|(simp only [QQ5,Go.Sort.size_swp];omega)) hN l h pvx (by omega) (by omega) (by omega) hS hlt) fun _ w31 hs hz32=>(Qaa (Qad (V:=I6 (((Sort.partitionEqual ltInt d4 l h pvx).1:Nat):Int)) rfl (Qae (Qag (Qab (Qaa (Qac (V:=I6 (((Sort.partitionEqual ltInt d4 l h pvx).1:Nat):Int)) rfl (Qaa (Qad (V:=I6 (((Sort.partitionEqual ltInt d4 l h pvx).1:Nat):Int)) rfl (Qae (QaJ ?_)))))))))))))))))))))
  have hfin:=QvI c2 c6 hd4 hp4 hpv hl3 (by rw [QQ3 c30,QQ4 c30r];rfl) hrg
  refine ⟨_,?_,_,(Sort.partitionEqual ltInt d4 l h pvx).1,h,lim3,wb,wp,(Sort.partitionEqual ltInt d4 l h pvx).2,Qal (Qal (Qal (Qal (Qal (Qap (ds:=([1,2,3]++sq 8 126)) (by repeat (first|exact Agr.refl _ _|refine Agr.upd ?_ rfl|refine Agr.mix ?_ rfl))) rfl) rfl) rfl) rfl) rfl,(by omega),(by omega),(by omega),(by omega),(by assumption),(by rw [← hev,hfin]),rfl,hs.take 1⟩
  omega
 refine Qao (Qag ?_)
 have hrg:=Qph (d:=d4) (lo:=l) (hi:=h) (pvx:=pvx) (by omega) (by omega) (by omega)
 refine Qab (Qaa (Qac (V:=.slice a N c) rfl (Qaa (Qac (V:=I6 (l:Int)) rfl (Qaa (Qac (V:=I6 (h:Int)) rfl (Qaa (Qac (V:=I6 (pvx:Int)) rfl (Qaa (Qbr (vs:=[.slice a N c,I6 (l:Int),I6 (h:Int),I6 (pvx:Int)]) (V:=fun _:Unit=>.tuple #[I6 (((partition ltInt d4 l h pvx).1:Nat):Int),.bool ((partition ltInt d4 l h pvx).2.1)]) (R:=row (.slice a N c) (d4.toList.map (ic .u16)) 32 1) (R':=fun _=>row (.slice a N c) (((partition ltInt d4 l h pvx).2.2).toList.map (ic .u16)) 32 1) (Lo:=fun _=>[]) (F:=fun _ _=>((partition ltInt d4 l h pvx).2.2).size=N) Qtl rfl rfl hs 0 rfl (fun S hS hlt=>QvS _ S a N c d4 (by first|assumption|(simp only [QQ5,Go.Sort.size_swp];omega)) hN l h pvx (by omega) (by omega) (by omega) hS hlt) fun _ w34 hs hz35=>(Qaa (Qac (V:=.tuple #[I6 (((partition ltInt d4 l h pvx).1:Nat):Int),.bool ((partition ltInt d4 l h pvx).2.1)]) rfl (Qaa (QaA (V:=I6 (((partition ltInt d4 l h pvx).1:Nat):Int)) rfl rfl (Qaa (QaA (V:=.bool ((partition ltInt d4 l h pvx).2.1)) rfl rfl (Qaa (Qad (V:=I6 (((partition ltInt d4 l h pvx).1:Nat):Int)) rfl (Qaa (Qad (V:=.bool ((partition ltInt d4 l h pvx).2.1)) rfl (Qae (Qag (Qab (Qaa (Qac (V:=.bool ((partition ltInt d4 l h pvx).2.1)) rfl (Qaa (Qad (V:=.bool ((partition ltInt d4 l h pvx).2.1)) rfl (Qae (Qag (Qab (Qaa (Qac (V:=I6 (((partition ltInt d4 l h pvx).1:Nat):Int)) rfl (Qaa (Qac (V:=I6 (l:Int)) rfl (Qaa (Qa5 (a:=(((partition ltInt d4 l h pvx).1:Nat):Int)) (b:=(l:Int)) (c:=((((partition ltInt d4 l h pvx).1)-l:Nat):Int)) rfl rfl (Qak (by omega) (by omega)) (Qaa (Qac (V:=I6 (h:Int)) rfl (Qaa (Qac (V:=I6 (((partition ltInt d4 l h pvx).1:Nat):Int)) rfl (Qaa (Qa5 (a:=(h:Int)) (b:=(((partition ltInt d4 l h pvx).1:Nat):Int)) (c:=((h-((partition ltInt d4 l h pvx).1):Nat):Int)) rfl rfl (Qak (by omega) (by omega)) (Qaa (Qad (V:=I6 ((((partition ltInt d4 l h pvx).1)-l:Nat):Int)) rfl (Qaa (Qad (V:=I6 ((h-((partition ltInt d4 l h pvx).1):Nat):Int)) rfl (Qae (Qag (Qab (Qaa (Qac (V:=I6 ((h-l:Nat):Int)) rfl (Qaa (Qjp (a:=((h-l:Nat):Int)) (b:=8) (c:=(((h-l)/8:Nat):Int)) rfl rfl (by decide) (Qak rfl (by omega)) (Qaa (Qad (V:=I6 (((h-l)/8:Nat):Int)) rfl (Qae (Qag (Qab (Qaa (Qac (V:=I6 ((((partition ltInt d4 l h pvx).1)-l:Nat):Int)) rfl (Qaa (Qac (V:=I6 ((h-((partition ltInt d4 l h pvx).1):Nat):Int)) rfl (Qaa (Qa2 rfl rfl (Qae (Qam (t:=decide (((((partition ltInt d4 l h pvx).1)-l:Nat):Int)<((h-((partition ltInt d4 l h pvx).1):Nat):Int))) rfl (fun c37=>?_) (fun c37=>?_)))))))))))))))))))))))))))))))))))))))))))))))))))))))))))))))))))
 ·
  replace c37:=QQ1 c37
  refine Qag (Qab (Qaa (Qac (V:=I6 ((((partition ltInt d4 l h pvx).1)-l:Nat):Int)) rfl (Qaa (Qac (V:=I6 (((h-l)/8:Nat):Int)) rfl (Qaa (QaU (V:=.bool (decide ((((h-l)/8:Nat):Int)<=((((partition ltInt d4 l h pvx).1)-l:Nat):Int)))) (V':=.bool (decide ((partition ltInt d4 l h pvx).1-l ≥ (h-l)/8))) (QcZ rfl rfl ⟨rfl,rfl⟩) (congrArg Value.bool (decide_eq_decide.2 (by omega))) (Qaa (Qad (V:=.bool (decide ((partition ltInt d4 l h pvx).1-l ≥ (h-l)/8))) rfl (Qae (Qag (Qab (Qaa (Qac (V:=.slice a N c) rfl (Qaa (Qac (V:=I6 (l:Int)) rfl (Qaa (Qac (V:=I6 (((partition ltInt d4 l h pvx).1:Nat):Int)) rfl (Qaa (Qac (V:=I6 (lim3:Int)) rfl (Qaa (Qbr (vs:=[.slice a N c,I6 (l:Int),I6 (((partition ltInt d4 l h pvx).1:Nat):Int),I6 (lim3:Int)]) (V:=fun _:Unit=>.tuple #[]) (R:=row (.slice a N c) (((partition ltInt d4 l h pvx).2.2).toList.map (ic .u16)) 32 1) (R':=fun _=>row (.slice a N c) ((Sort.pdq ltInt ((partition ltInt d4 l h pvx).2.2) l ((partition ltInt d4 l h pvx).1) lim3 true true).toList.map (ic .u16)) 32 1) (Lo:=fun _=>[]) (F:=fun _ _=>(Sort.pdq ltInt ((partition ltInt d4 l h pvx).2.2) l ((partition ltInt d4 l h pvx).1) lim3 true true).size=N) Qm9 rfl rfl hs 0 rfl (fun S hS hlt=>ih _ S a N c ((partition ltInt d4 l h pvx).2.2) (by first|assumption|(simp only [QQ5,Go.Sort.size_swp];omega)) hN l ((partition ltInt d4 l h pvx).1) lim3 (by omega) (by omega) (by omega) (by omega) hS hlt) fun _ w38 hs hz39=>(Qae (Qab (Qaa (Qac (V:=I6 (((partition ltInt d4 l h pvx).1:Nat):Int)) rfl (Qaa (QaF (a:=(((partition ltInt d4 l h pvx).1:Nat):Int)) (b:=1) (c:=((((partition ltInt d4 l h pvx).1)+1:Nat):Int)) rfl rfl (Qak (by omega) (by omega)) (Qaa (Qad (V:=I6 ((((partition ltInt d4 l h pvx).1)+1:Nat):Int)) rfl (Qae ?_)))))))))))))))))))))))))))))))
  have hfin:=QrN c2 c6 hd4 hp4 hpv hl3 c30 hrg c37
  refine ⟨_,?_,_,((partition ltInt d4 l h pvx).1)+1,h,lim3,decide ((partition ltInt d4 l h pvx).1-l ≥ (h-l)/8),(partition ltInt d4 l h pvx).2.1,Sort.pdq ltInt ((partition ltInt d4 l h pvx).2.2) l ((partition ltInt d4 l h pvx).1) lim3 true true,Qal (Qal (Qal (Qal (Qal (Qap (ds:=([1,2,3]++sq 8 126)) (by repeat (first|exact Agr.refl _ _|refine Agr.upd ?_ rfl|refine Agr.mix ?_ rfl))) rfl) rfl) rfl) rfl) rfl,(by omega),(by omega),(by omega),(by omega),(by assumption),(by rw [← hev,hfin]),rfl,hs.take 1⟩
  omega
 replace c37:=QQ2 c37
 refine Qag (Qab (Qaa (Qac (V:=I6 ((h-((partition ltInt d4 l h pvx).1):Nat):Int)) rfl (Qaa (Qac (V:=I6 (((h-l)/8:Nat):Int)) rfl (Qaa (QaU (V:=.bool (decide ((((h-l)/8:Nat):Int)<=((h-((partition ltInt d4 l h pvx).1):Nat):Int)))) (V':=.bool (decide (h-(partition ltInt d4 l h pvx).1 ≥ (h-l)/8))) (QcZ rfl rfl ⟨rfl,rfl⟩) (congrArg Value.bool (decide_eq_decide.2 (by omega))) (Qaa (Qad (V:=.bool (decide (h-(partition ltInt d4 l h pvx).1 ≥ (h-l)/8))) rfl (Qae (Qag (Qab (Qaa (Qac (V:=.slice a N c) rfl (Qaa (Qac (V:=I6 (((partition ltInt d4 l h pvx).1:Nat):Int)) rfl (Qaa (QaF (a:=(((partition ltInt d4 l h pvx).1:Nat):Int)) (b:=1) (c:=((((partition ltInt d4 l h pvx).1)+1:Nat):Int)) rfl rfl (Qak (by omega) (by omega)) (Qaa (Qac (V:=I6 (h:Int)) rfl (Qaa (Qac (V:=I6 (lim3:Int)) rfl (Qaa (Qbr (vs:=[.slice a N c,I6 ((((partition ltInt d4 l h pvx).1)+1:Nat):Int),I6 (h:Int),I6 (lim3:Int)]) (V:=fun _:Unit=>.tuple #[]) (R:=row (.slice a N c) (((partition ltInt d4 l h pvx).2.2).toList.map (ic .u16)) 32 1) (R':=fun _=>row (.slice a N c) ((Sort.pdq ltInt ((partition ltInt d4 l h pvx).2.2) (((partition ltInt d4 l h pvx).1)+1) h lim3 true true).toList.map (ic .u16)) 32 1) (Lo:=fun _=>[]) (F:=fun _ _=>(Sort.pdq ltInt ((partition ltInt d4 l h pvx).2.2) (((partition ltInt d4 l h pvx).1)+1) h lim3 true true).size=N) Qm9 rfl rfl hs 0 rfl (fun S hS hlt=>ih _ S a N c ((partition ltInt d4 l h pvx).2.2) (by first|assumption|(simp only [QQ5,Go.Sort.size_swp];omega)) hN (((partition ltInt d4 l h pvx).1)+1) h lim3 (by omega) (by omega) (by omega) (by omega) hS hlt) fun _ w41 hs hz42=>(Qae (Qab (Qaa (Qac (V:=I6 (((partition ltInt d4 l h pvx).1:Nat):Int)) rfl (Qaa (Qad (V:=I6 (((partition ltInt d4 l h pvx).1:Nat):Int)) rfl (Qae ?_)))))))))))))))))))))))))))))))
 have hfin:=Qpv c2 c6 hd4 hp4 hpv hl3 c30 hrg c37
 refine ⟨_,?_,_,l,(partition ltInt d4 l h pvx).1,lim3,decide (h-(partition ltInt d4 l h pvx).1 ≥ (h-l)/8),(partition ltInt d4 l h pvx).2.1,Sort.pdq ltInt ((partition ltInt d4 l h pvx).2.2) (((partition ltInt d4 l h pvx).1)+1) h lim3 true true,Qal (Qal (Qal (Qal (Qal (Qap (ds:=([1,2,3]++sq 8 126)) (by repeat (first|exact Agr.refl _ _|refine Agr.upd ?_ rfl|refine Agr.mix ?_ rfl))) rfl) rfl) rfl) rfl) rfl,(by omega),(by omega),(by omega),(by omega),(by assumption),(by rw [← hev,hfin]),rfl,hs.take 1⟩
 omega
end Tt
end Go.Proofs
namespace Go.Proofs
open Go Go.Vx Go.RowKit
open Go.Sort (ltInt medianAdjacent order2 partition)
namespace Tt
theorem QlR (hxor:Qr9 Tryz.prog 163 211) (hpow:Qsm Tryz.prog 162):∀ n,QtE n
 | 0=>fun w S a N c d hsz hN lo hi lim h1 h2 hlim hlen=>by omega
 | n+1=>fun w S a N c d hsz hN lo hi lim h1 h2 hlim hlen hR hlt=>Qpx n (QlR hxor hpow n) w S a N c d hsz hN lo hi lim h1 h2 hxor hpow hlim hlen hR hlt
theorem QtF (w:World) (S:Nat->Prop) (a:Option Addr) (N c:Nat) (d:Array Int) (hsz:d.size=N) (hN:N<=2305843009213693951) (hxor:Qr9 Tryz.prog 163 211) (hpow:Qsm Tryz.prog 162) (lo hi lim:Nat) (h1:lo<=hi) (h2:hi<=N) (hlim:lim<=4611686018427387904) (hR:(row (.slice a N c) (d.toList.map (ic .u16)) 32 1).holds w S) (hlt:∀ x,S x->x<w.heap.size):Calls Tryz.prog 160 #[.slice a N c,.int .i64 (lo:Int),.int .i64 (hi:Int),.int .i64 (lim:Int)] w (fun e w'=>∃ x:Unit,e = .returned (.tuple #[])/\Own w S w' [row (.slice a N c) ((Sort.pdq ltInt d lo hi lim true true).toList.map (ic .u16)) 32 1]/\(Sort.pdq ltInt d lo hi lim true true).size=N) :=
 QlR hxor hpow (hi-lo+1) w S a N c d hsz hN lo hi lim h1 h2 hlim (Nat.lt_succ_self _) hR hlt
theorem Qmq (w:World) (S:Nat->Prop) (a:Option Addr) (N c:Nat) (d:Array Int) (hsz:d.size=N) (hN:N<=2305843009213693951) (hxor:Qr9 Tryz.prog 163 211) (hpow:Qsm Tryz.prog 162) (hblen:Qvb Tryz.prog 92) (hR:(row (.slice a N c) (d.toList.map (ic .u16)) 32 1).holds w S) (hlt:∀ x,S x->x<w.heap.size):Calls Tryz.prog 134 #[.slice a N c] w (fun e w'=>∃ x:Unit,e = .returned (.tuple #[])/\Own w S w' [row (.slice a N c) ((Sort.pdq ltInt d 0 N (Sort.bitsLen N) true true).toList.map (ic .u16)) 32 1]/\(Sort.pdq ltInt d 0 N (Sort.bitsLen N) true true).size=N):=by
 refine Qai (n:=11) Tryz.func134 rfl Tryz.ntmps134 rfl ?_
 have hs:=Own.lent hR hlt
 have hbl:Sort.bitsLen N<=4611686018427387904:=Nat.le_trans ((Sort.bitsLen_le_iff N 62).2 (by omega)) (by decide)
 refine Qag (Qab (Qaa (Qac (V:=.slice a N c) rfl (Qaa (Qa3 (n:=N) QaN (hs.rd 0 rfl) (by rw [QQ6,QQ9];assumption) rfl (Qaa (Qad (V:=I6 (N:Int)) rfl (Qae (Qab (Qaa (Qac (V:=.slice a N c) rfl (Qaa (Qac (V:=I6 (N:Int)) rfl (Qaa (Qac (V:=I6 (N:Int)) rfl (Qaa (Qcl QhS Qdm rfl (QdO (by omega) (by omega)) (Qaa (Qat (vs:=[.int .u64 (N:Int)]) (V:=I6 ((Sort.bitsLen N:Nat):Int)) Qvu rfl rfl ?hc hs fun w1 hs=>?_)))))))))))))))))))
 case hc=>exact (hblen _ N (by omega))
 refine Qaa (Qbr (vs:=[.slice a N c,I6 0,I6 (N:Int),I6 ((Sort.bitsLen N:Nat):Int)]) (V:=fun _:Unit=>.tuple #[]) (R:=row (.slice a N c) (d.toList.map (ic .u16)) 32 1) (R':=fun _=>row (.slice a N c) ((Sort.pdq ltInt d 0 N (Sort.bitsLen N) true true).toList.map (ic .u16)) 32 1) (Lo:=fun _=>[]) (F:=fun _ _=>(Sort.pdq ltInt d 0 N (Sort.bitsLen N) true true).size=N) Qm9 rfl rfl hs 0 rfl (fun S hS hlt=>QtF _ S a N c d (by first|assumption|(simp only [QQ5,Go.Sort.size_swp];omega)) hN hxor hpow 0 N (Sort.bitsLen N) (Nat.zero_le _) (Nat.le_refl _) hbl hS hlt) fun _ w2 hs hz3=>(Qae ?_))
 refine ⟨_,Qbf Tryz.results134,?_⟩
 have hX:Sort.pdq ltInt d 0 N (Sort.bitsLen N) true true=Sort.pdq ltInt d 0 N (Sort.bitsLen N) true true:=rfl
 exact ⟨(),rfl,hX ▸ hs.take 1,hX ▸ (by first|assumption|(simp only [QQ5,Go.Sort.size_swp];omega))⟩
theorem sort_ok (hxor:Qr9 Tryz.prog 163 211) (hpow:Qsm Tryz.prog 162) (hblen:Qvb Tryz.prog 92):QgC Tryz.prog 134 .u16 32:=by
 intro w S a c l hR hlt hlen
 have hd:l.toArray.size=l.length:=by simp
 have h:=Qmq w S a l.length c l.toArray hd hlen hxor hpow hblen (by simpa using hR) hlt
 refine h.mono fun e w' ⟨_,he,ho,_⟩=>⟨he,?_⟩
 have e1:(Sort.pdq ltInt l.toArray 0 l.length (Sort.bitsLen l.length) true true).toList=Qa7 l:=by
  have h2:=Sort.sortInt l
  unfold Sort.sort at h2
  rw [hd] at h2
  exact h2
 rw [e1] at ho
 exact ho
end Tt
end Go.Proofs
namespace Go.Proofs.YtbjbjboehjdcaaaGreat
open Go.Vx Go.Sort Go.Proofs
theorem Qwa:Qvb Tryz.prog 92:=fun w n hn=>by
 have h:=Any.bits_Len (SlLaysF0.n15.bits (P:=Tryz.prog) (ρ:=Tryz.sortE_ren) { Tryz.sortE with }) (n:Int) w (by omega) (by omega)
 rw [Int.toNat_natCast,bitLen_eq _ (by omega)] at h
 exact h.mono fun e w' ⟨he,hw⟩=>by subst hw;exact ⟨he,Own.start _⟩
theorem Qv9:Qr9 Tryz.prog 163 211:=fun w S rb X hX hR hlt=>Qur (P:=Tryz.prog) (J:=Tryz.sortE_ren) { Tryz.sortE with } 211 w S rb X hX hR hlt
theorem Qwd:Qsm Tryz.prog 162:=fun w n hn=>Qt9 (P:=Tryz.prog) (J:=Tryz.sortE_ren) { Tryz.sortE with } w n hn
theorem Quf:QgC Tryz.prog 134 .u16 32:=Tt.sort_ok Qv9 Qwd Qwa
end Go.Proofs.YtbjbjboehjdcaaaGreat
