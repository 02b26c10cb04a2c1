/- A part of a proof: what functions of the program compute, and plain facts on that. -/
import Derived.Test.YtbjbjboehjdcaaaGreatCutsBetweenP7
set_option linter.unusedVariables false
set_option linter.unusedSimpArgs false
set_option maxHeartbeats 4000000
set_option maxRecDepth 100000
namespace Go.Proofs
open Go Go.Vx Go.RowKit
open Go.Sort (ltInt medianAdjacent order2 partition)
namespace Tt
section
variable {d:Array Int} {x y sw:Nat}
theorem QuF (h:d[y]!<d[x]!):order2 ltInt d x y sw=(y,x,sw+1):=by unfold order2;rw [if_pos (by simpa [ltInt] using h)]
theorem Qvw (h:¬d[y]!<d[x]!):order2 ltInt d x y sw=(x,y,sw):=by unfold order2;rw [if_neg (by simpa [ltInt] using h)]
theorem Qma {N:Nat} (hx:x<N) (hy:y<N):(order2 ltInt d x y sw).1<N/\(order2 ltInt d x y sw).2.1<N/\(order2 ltInt d x y sw).2.2<=sw+1:=by
 unfold order2;split<;>simp [hx,hy]
end
theorem QsD {d:Array Int} {N x y z sw:Nat} (hx:x<N) (hy:y<N) (hz:z<N):(Sort.median ltInt d x y z sw).1<N/\(Sort.median ltInt d x y z sw).2<=sw+3:=by
 unfold Sort.median
 have h1:=Qma (d:=d) (sw:=sw) hx hy
 have h2:=Qma (d:=d) (sw:=(order2 ltInt d x y sw).2.2) h1.2.1 hz
 have h3:=Qma (d:=d) (sw:=(order2 ltInt d (order2 ltInt d x y sw).2.1 z (order2 ltInt d x y sw).2.2).2.2) h1.1 h2.1
 exact ⟨h3.2.1,Nat.le_trans h3.2.2 (Nat.succ_le_succ (Nat.le_trans h2.2.2 (Nat.succ_le_succ h1.2.2)))⟩
theorem Qm1 {d:Array Int} {N x sw:Nat} (h1:1<=x) (hx:x+1<N):(medianAdjacent ltInt d x sw).1<N/\(medianAdjacent ltInt d x sw).2<=sw+3:=QsD (by omega) (by omega) (by omega)
theorem QrQ (w:World) (S:Nat->Prop) (a:Option Addr) (N c:Nat) (d:Array Int) (hsz:d.size=N) (hN:N<=2305843009213693951) (sb sw:Nat) (hsw:sw<=1000) (hr:Rd w (.slice a N c) 1 (d.toList.map (ic .u16))) (hb:bkS (.slice a N c)<w.heap.size) (hm:¬S (bkS (.slice a N c))) (hR:(blk sb [.int .i64 (sw:Int)] 3).holds w S) (hlt:∀ x,S x->x<w.heap.size) (x y:Nat) (hx:x<N) (hy:y<N):Calls Tryz.prog 189 #[.slice a N c,.int .i64 (x:Int),.int .i64 (y:Int),.pointer (some ⟨sb,0,none⟩)] w (fun e w'=>∃ _u:Unit,e = .returned (.tuple #[.int .i64 (((order2 ltInt d x y sw).1:Nat):Int),.int .i64 (((order2 ltInt d x y sw).2.1:Nat):Int)])/\Own w S w' [blk sb [.int .i64 (((order2 ltInt d x y sw).2.2:Nat):Int)] 3]/\True):=by
 refine Qai (n:=28) Tryz.func189 rfl Tryz.ntmps189 rfl ?_
 have hs:=Own.lent hR hlt
 refine Qag (Qab (Qaa (Qad (V:=I6 0) rfl (Qaa (Qad (V:=I6 0) rfl (Qae (Qag (Qag (QaH HM [some 10,some 11,some 12,some 13,some 14,some 15,some 16,some 17,some 18] [] [0,0,3,7,0,0,48,112,255] [pv (.slice a N c),pv (I6 (y:Int)),pv (.pointer (some ⟨bkS (.slice a N c),ofS (.slice a N c)+(y:Int).toNat*1,none⟩)),pv (I7 (d[y]!)),pv (.slice a N c),pv (I6 (x:Int)),pv (.pointer (some ⟨bkS (.slice a N c),ofS (.slice a N c)+(x:Int).toNat*1,none⟩)),pv (I7 (d[x]!)),pv (.bool (decide (d[y]!<d[x]!)))] (fun _ _=>_) [8] (by kernel_rfl) hs ⟨?_,?_,?_,?_,?_,?_,?_,?_,?_,trivial⟩ ?_)))))))))
 ·exact oa [] fun D J w hs=>Qac (V:=.slice a N c) rfl (Zz hs)
 ·exact oa [] fun D J w hs=>Qac (V:=.int .i64 (y:Int)) rfl (Zz hs)
 ·exact oa [0,1] fun D J w hs=>Qax QaN Qar.1 (Rd.ownS hm hr hs) rfl rfl (by omega) (by simp only [QQ6,QQ9,QQ5,Go.Sort.size_swp];omega) (Zz hs)
 ·exact oa [2] fun D J w hs=>QaW (j:=0) (V:=.int .u16 (d[y]!)) y Qar (Rd.ownS hm hr hs) (Qbo (by omega)) rfl rfl (by omega) (Zz hs)
 ·exact oa [] fun D J w hs=>Qac (V:=.slice a N c) rfl (Zz hs)
 ·exact oa [] fun D J w hs=>Qac (V:=.int .i64 (x:Int)) rfl (Zz hs)
 ·exact oa [4,5] fun D J w hs=>Qax QaN Qar.1 (Rd.ownS hm hr hs) rfl rfl (by omega) (by simp only [QQ6,QQ9,QQ5,Go.Sort.size_swp];omega) (Zz hs)
 ·exact oa [6] fun D J w hs=>QaW (j:=0) (V:=.int .u16 (d[x]!)) x Qar (Rd.ownS hm hr hs) (Qbo (by omega)) rfl rfl (by omega) (Zz hs)
 ·exact oa [3,7] fun D J w hs=>Qat (vs:=[.int .u16 (d[y]!),.int .u16 (d[x]!)]) (V:=.bool (decide (d[y]!<d[x]!))) Qdc rfl rfl (Qcr _ (d[y]!) (d[x]!)) hs fun _ hs=>Zz hs
 rintro J1 w2 J2 hJ hs
 replace hJ:J2=upd (mix (sq 10 9) J1 _) 18 (.bool (decide (d[y]!<d[x]!))):=hJ
 subst hJ
 refine Qam (t:=decide (d[y]!<d[x]!)) rfl (fun c3=>?_) (fun c3=>?_)
 ·
  replace c3:=QQ1 c3
  refine Qag (Qab (Qaa (Qac (V:=Pq sb 0) rfl (Qaa (QcJ rfl (Qaa (QaQ (V:=I6 (sw:Int)) Qrz hs 0 rfl rfl rfl (Qaa (QaF (a:=(sw:Int)) (b:=1) (c:=((sw+1:Nat):Int)) rfl rfl (Qak (by omega) (by omega)) (Qaa (QcJ rfl (Qaa (Qc0 (V:=I6 ((sw+1:Nat):Int)) (cs':=[I6 ((sw+1:Nat):Int)]) Qrz hs 0 rfl rfl rfl rfl (QQ8 rfl) rfl fun w4 hs=>(Qae (Qag (Qab (Qaa (Qac (V:=I6 (y:Int)) rfl (Qaa (Qac (V:=I6 (x:Int)) rfl (Qaa (Qad (V:=I6 (y:Int)) rfl (Qaa (Qad (V:=I6 (x:Int)) rfl (Qae (Qaw ?_))))))))))))))))))))))))))
  refine ⟨_,QbI (U:=I6 (y:Int)) (V:=I6 (x:Int)) Tryz.results189 rfl rfl,?_⟩
  rw [QuF c3]
  exact ⟨(),rfl,hs.take 1,trivial⟩
 replace c3:=QQ2 c3
 refine Qao (Qag (Qab (Qaa (Qac (V:=I6 (x:Int)) rfl (Qaa (Qac (V:=I6 (y:Int)) rfl (Qaa (Qad (V:=I6 (x:Int)) rfl (Qaa (Qad (V:=I6 (y:Int)) rfl (Qae (Qaw ?_))))))))))))
 refine ⟨_,QbI (U:=I6 (x:Int)) (V:=I6 (y:Int)) Tryz.results189 rfl rfl,?_⟩
 rw [Qvw c3]
 exact ⟨(),rfl,hs.take 1,trivial⟩
theorem Qnv (w:World) (S:Nat->Prop) (a:Option Addr) (N c:Nat) (d:Array Int) (hsz:d.size=N) (hN:N<=2305843009213693951) (sb sw:Nat) (hsw:sw<=900) (hr:Rd w (.slice a N c) 1 (d.toList.map (ic .u16))) (hb:bkS (.slice a N c)<w.heap.size) (hm:¬S (bkS (.slice a N c))) (hR:(blk sb [.int .i64 (sw:Int)] 3).holds w S) (hlt:∀ x,S x->x<w.heap.size) (x y z:Nat) (hx:x<N) (hy:y<N) (hz:z<N):Calls Tryz.prog 187 #[.slice a N c,.int .i64 (x:Int),.int .i64 (y:Int),.int .i64 (z:Int),.pointer (some ⟨sb,0,none⟩)] w (fun e w'=>∃ _u:Unit,e = .returned (.int .i64 (((Sort.median ltInt d x y z sw).1:Nat):Int))/\Own w S w' [blk sb [.int .i64 (((Sort.median ltInt d x y z sw).2:Nat):Int)] 3]/\True):=by
 refine Qai (n:=36) Tryz.func187 rfl Tryz.ntmps187 rfl ?_
 have hs:=Own.lent hR hlt
 refine Qag (Qab (Qaa (Qad (V:=I6 0) rfl (Qae (Qag (Qab (Qaa (Qac (V:=.slice a N c) rfl (Qaa (Qac (V:=I6 (x:Int)) rfl (Qaa (Qac (V:=I6 (y:Int)) rfl (Qaa (Qac (V:=Pq sb 0) rfl (Qaa (Qc1 (vs:=[.slice a N c,I6 (x:Int),I6 (y:Int),Pq sb 0]) (V:=fun _:Unit=>.tuple #[I6 (((order2 ltInt d x y sw).1:Nat):Int),I6 (((order2 ltInt d x y sw).2.1:Nat):Int)]) (R:=blk sb [I6 (sw:Int)] 3) (R':=fun _=>blk sb [I6 (((order2 ltInt d x y sw).2.2:Nat):Int)] 3) (Lo:=fun _=>[]) (F:=fun _ _=>True) QlG rfl rfl hs 0 rfl (fun S hS hlt hSM=>QrQ _ S a N c d hsz hN sb sw (by omega) (Rd.ownS hm hr hs) (Nat.lt_of_lt_of_le hb hs.size) (fun h=>hm (hSM _ h hb)) hS hlt x y (by omega) (by omega)) fun _ w1 hs _=>(Qaa (Qac (V:=.tuple #[I6 (((order2 ltInt d x y sw).1:Nat):Int),I6 (((order2 ltInt d x y sw).2.1:Nat):Int)]) rfl (Qaa (QaA (V:=I6 (((order2 ltInt d x y sw).1:Nat):Int)) rfl rfl (Qaa (QaA (V:=I6 (((order2 ltInt d x y sw).2.1:Nat):Int)) rfl rfl (Qaa (Qad (V:=I6 (((order2 ltInt d x y sw).1:Nat):Int)) rfl (Qaa (Qad (V:=I6 (((order2 ltInt d x y sw).2.1:Nat):Int)) rfl (Qae (Qag ?_))))))))))))))))))))))))))))
 have hq1:=Qma (d:=d) (sw:=sw) hx hy
 refine Qab (Qaa (Qac (V:=.slice a N c) rfl (Qaa (Qac (V:=I6 (((order2 ltInt d x y sw).2.1:Nat):Int)) rfl (Qaa (Qac (V:=I6 (z:Int)) rfl (Qaa (Qac (V:=Pq sb 0) rfl (Qaa (Qc1 (vs:=[.slice a N c,I6 (((order2 ltInt d x y sw).2.1:Nat):Int),I6 (z:Int),Pq sb 0]) (V:=fun _:Unit=>.tuple #[I6 (((order2 ltInt d ((order2 ltInt d x y sw).2.1) z ((order2 ltInt d x y sw).2.2)).1:Nat):Int),I6 (((order2 ltInt d ((order2 ltInt d x y sw).2.1) z ((order2 ltInt d x y sw).2.2)).2.1:Nat):Int)]) (R:=blk sb [I6 (((order2 ltInt d x y sw).2.2:Nat):Int)] 3) (R':=fun _=>blk sb [I6 (((order2 ltInt d ((order2 ltInt d x y sw).2.1) z ((order2 ltInt d x y sw).2.2)).2.2:Nat):Int)] 3) (Lo:=fun _=>[]) (F:=fun _ _=>True) QlG rfl rfl hs 0 rfl (fun S hS hlt hSM=>QrQ _ S a N c d hsz hN sb ((order2 ltInt d x y sw).2.2) (by omega) (Rd.ownS hm hr hs) (Nat.lt_of_lt_of_le hb hs.size) (fun h=>hm (hSM _ h hb)) hS hlt ((order2 ltInt d x y sw).2.1) z (by omega) (by omega)) fun _ w2 hs _=>(Qaa (Qac (V:=.tuple #[I6 (((order2 ltInt d ((order2 ltInt d x y sw).2.1) z ((order2 ltInt d x y sw).2.2)).1:Nat):Int),I6 (((order2 ltInt d ((order2 ltInt d x y sw).2.1) z ((order2 ltInt d x y sw).2.2)).2.1:Nat):Int)]) rfl (Qaa (QaA (V:=I6 (((order2 ltInt d ((order2 ltInt d x y sw).2.1) z ((order2 ltInt d x y sw).2.2)).1:Nat):Int)) rfl rfl (Qaa (QaA (V:=I6 (((order2 ltInt d ((order2 ltInt d x y sw).2.1) z ((order2 ltInt d x y sw).2.2)).2.1:Nat):Int)) rfl rfl (Qaa (Qad (V:=I6 (((order2 ltInt d ((order2 ltInt d x y sw).2.1) z ((order2 ltInt d x y sw).2.2)).1:Nat):Int)) rfl (Qaa (Qad (V:=I6 (((order2 ltInt d ((order2 ltInt d x y sw).2.1) z ((order2 ltInt d x y sw).2.2)).2.1:Nat):Int)) rfl (Qae (Qag ?_))))))))))))))))))))))
 have hq2:=Qma (d:=d) (sw:=(order2 ltInt d x y sw).2.2) hq1.2.1 hz
 refine Qab (Qaa (Qac (V:=.slice a N c) rfl (Qaa (Qac (V:=I6 (((order2 ltInt d x y sw).1:Nat):Int)) rfl (Qaa (Qac (V:=I6 (((order2 ltInt d ((order2 ltInt d x y sw).2.1) z ((order2 ltInt d x y sw).2.2)).1:Nat):Int)) rfl (Qaa (Qac (V:=Pq sb 0) rfl (Qaa (Qc1 (vs:=[.slice a N c,I6 (((order2 ltInt d x y sw).1:Nat):Int),I6 (((order2 ltInt d ((order2 ltInt d x y sw).2.1) z ((order2 ltInt d x y sw).2.2)).1:Nat):Int),Pq sb 0]) (V:=fun _:Unit=>.tuple #[I6 (((order2 ltInt d ((order2 ltInt d x y sw).1) ((order2 ltInt d ((order2 ltInt d x y sw).2.1) z ((order2 ltInt d x y sw).2.2)).1) ((order2 ltInt d ((order2 ltInt d x y sw).2.1) z ((order2 ltInt d x y sw).2.2)).2.2)).1:Nat):Int),I6 (((order2 ltInt d ((order2 ltInt d x y sw).1) ((order2 ltInt d ((order2 ltInt d x y sw).2.1) z ((order2 ltInt d x y sw).2.2)).1) ((order2 ltInt d ((order2 ltInt d x y sw).2.1) z ((order2 ltInt d x y sw).2.2)).2.2)).2.1:Nat):Int)]) (R:=blk sb [I6 (((order2 ltInt d ((order2 ltInt d x y sw).2.1) z ((order2 ltInt d x y sw).2.2)).2.2:Nat):Int)] 3) (R':=fun _=>blk sb [I6 (((order2 ltInt d ((order2 ltInt d x y sw).1) ((order2 ltInt d ((order2 ltInt d x y sw).2.1) z ((order2 ltInt d x y sw).2.2)).1) ((order2 ltInt d ((order2 ltInt d x y sw).2.1) z ((order2 ltInt d x y sw).2.2)).2.2)).2.2:Nat):Int)] 3) (Lo:=fun _=>[]) (F:=fun _ _=>True) QlG rfl rfl hs 0 rfl (fun S hS hlt hSM=>QrQ _ S a N c d hsz hN sb ((order2 ltInt d ((order2 ltInt d x y sw).2.1) z ((order2 ltInt d x y sw).2.2)).2.2) (by omega) (Rd.ownS hm hr hs) (Nat.lt_of_lt_of_le hb hs.size) (fun h=>hm (hSM _ h hb)) hS hlt ((order2 ltInt d x y sw).1) ((order2 ltInt d ((order2 ltInt d x y sw).2.1) z ((order2 ltInt d x y sw).2.2)).1) (by omega) (by omega)) fun _ w3 hs _=>(Qaa (Qac (V:=.tuple #[I6 (((order2 ltInt d ((order2 ltInt d x y sw).1) ((order2 ltInt d ((order2 ltInt d x y sw).2.1) z ((order2 ltInt d x y sw).2.2)).1) ((order2 ltInt d ((order2 ltInt d x y sw).2.1) z ((order2 ltInt d x y sw).2.2)).2.2)).1:Nat):Int),I6 (((order2 ltInt d ((order2 ltInt d x y sw).1) ((order2 ltInt d ((order2 ltInt d x y sw).2.1) z ((order2 ltInt d x y sw).2.2)).1) ((order2 ltInt d ((order2 ltInt d x y sw).2.1) z ((order2 ltInt d x y sw).2.2)).2.2)).2.1:Nat):Int)]) rfl (Qaa (QaA (V:=I6 (((order2 ltInt d ((order2 ltInt d x y sw).1) ((order2 ltInt d ((order2 ltInt d x y sw).2.1) z ((order2 ltInt d x y sw).2.2)).1) ((order2 ltInt d ((order2 ltInt d x y sw).2.1) z ((order2 ltInt d x y sw).2.2)).2.2)).1:Nat):Int)) rfl rfl (Qaa (QaA (V:=I6 (((order2 ltInt d ((order2 ltInt d x y sw).1) ((order2 ltInt d ((order2 ltInt d x y sw).2.1) z ((order2 ltInt d x y sw).2.2)).1) ((order2 ltInt d ((order2 ltInt d x y sw).2.1) z ((order2 ltInt d x y sw).2.2)).2.2)).2.1:Nat):Int)) rfl rfl (Qaa (Qad (V:=I6 (((order2 ltInt d ((order2 ltInt d x y sw).1) ((order2 ltInt d ((order2 ltInt d x y sw).2.1) z ((order2 ltInt d x y sw).2.2)).1) ((order2 ltInt d ((order2 ltInt d x y sw).2.1) z ((order2 ltInt d x y sw).2.2)).2.2)).1:Nat):Int)) rfl (Qaa (Qad (V:=I6 (((order2 ltInt d ((order2 ltInt d x y sw).1) ((order2 ltInt d ((order2 ltInt d x y sw).2.1) z ((order2 ltInt d x y sw).2.2)).1) ((order2 ltInt d ((order2 ltInt d x y sw).2.1) z ((order2 ltInt d x y sw).2.2)).2.2)).2.1:Nat):Int)) rfl (Qae (Qag (Qab (Qaa (Qac (V:=I6 (((order2 ltInt d ((order2 ltInt d x y sw).1) ((order2 ltInt d ((order2 ltInt d x y sw).2.1) z ((order2 ltInt d x y sw).2.2)).1) ((order2 ltInt d ((order2 ltInt d x y sw).2.1) z ((order2 ltInt d x y sw).2.2)).2.2)).2.1:Nat):Int)) rfl (Qaa (Qad (V:=I6 (((order2 ltInt d ((order2 ltInt d x y sw).1) ((order2 ltInt d ((order2 ltInt d x y sw).2.1) z ((order2 ltInt d x y sw).2.2)).1) ((order2 ltInt d ((order2 ltInt d x y sw).2.1) z ((order2 ltInt d x y sw).2.2)).2.2)).2.1:Nat):Int)) rfl (Qae (Qaw ?_)))))))))))))))))))))))))))))
 refine ⟨_,Qaq (V:=I6 (((order2 ltInt d ((order2 ltInt d x y sw).1) ((order2 ltInt d ((order2 ltInt d x y sw).2.1) z ((order2 ltInt d x y sw).2.2)).1) ((order2 ltInt d ((order2 ltInt d x y sw).2.1) z ((order2 ltInt d x y sw).2.2)).2.2)).2.1:Nat):Int)) Tryz.results187 rfl,?_⟩
 exact ⟨(),rfl,hs.take 1,trivial⟩
theorem Qms (w:World) (S:Nat->Prop) (a:Option Addr) (N c:Nat) (d:Array Int) (hsz:d.size=N) (hN:N<=2305843009213693951) (sb sw:Nat) (hsw:sw<=900) (hr:Rd w (.slice a N c) 1 (d.toList.map (ic .u16))) (hb:bkS (.slice a N c)<w.heap.size) (hm:¬S (bkS (.slice a N c))) (hR:(blk sb [.int .i64 (sw:Int)] 3).holds w S) (hlt:∀ x,S x->x<w.heap.size) (x:Nat) (hx:1<=x) (hy:x+1<N):Calls Tryz.prog 186 #[.slice a N c,.int .i64 (x:Int),.pointer (some ⟨sb,0,none⟩)] w (fun e w'=>∃ _u:Unit,e = .returned (.int .i64 (((medianAdjacent ltInt d x sw).1:Nat):Int))/\Own w S w' [blk sb [.int .i64 (((medianAdjacent ltInt d x sw).2:Nat):Int)] 3]/\True):=by
 refine Qai (n:=15) Tryz.func186 rfl Tryz.ntmps186 rfl ?_
 have hs:=Own.lent hR hlt
 refine Qag (Qab (Qaa (Qad (V:=I6 0) rfl (Qae (Qag (Qab (Qaa (Qac (V:=.slice a N c) rfl (Qaa (Qac (V:=I6 (x:Int)) rfl (Qaa (Qa5 (a:=(x:Int)) (b:=1) (c:=((x-1:Nat):Int)) rfl rfl (Qak (by omega) (by omega)) (Qaa (Qac (V:=I6 (x:Int)) rfl (Qaa (Qac (V:=I6 (x:Int)) rfl (Qaa (QaF (a:=(x:Int)) (b:=1) (c:=((x+1:Nat):Int)) rfl rfl (Qak (by omega) (by omega)) (Qaa (Qac (V:=Pq sb 0) rfl (Qaa (Qc1 (vs:=[.slice a N c,I6 ((x-1:Nat):Int),I6 (x:Int),I6 ((x+1:Nat):Int),Pq sb 0]) (V:=fun _:Unit=>I6 (((Sort.median ltInt d (x-1) x (x+1) sw).1:Nat):Int)) (R:=blk sb [I6 (sw:Int)] 3) (R':=fun _=>blk sb [I6 (((Sort.median ltInt d (x-1) x (x+1) sw).2:Nat):Int)] 3) (Lo:=fun _=>[]) (F:=fun _ _=>True) Ql8 rfl rfl hs 0 rfl (fun S hS hlt hSM=>Qnv _ S a N c d hsz hN sb sw (by omega) (Rd.ownS hm hr hs) (Nat.lt_of_lt_of_le hb hs.size) (fun h=>hm (hSM _ h hb)) hS hlt (x-1) x (x+1) (by omega) (by omega) (by omega)) fun _ w1 hs _=>(Qaa (Qad (V:=I6 (((Sort.median ltInt d (x-1) x (x+1) sw).1:Nat):Int)) rfl (Qae (Qaw ?_))))))))))))))))))))))))))
 refine ⟨_,Qaq (V:=I6 (((Sort.median ltInt d (x-1) x (x+1) sw).1:Nat):Int)) Tryz.results186 rfl,?_⟩
 exact ⟨(),rfl,hs.take 1,trivial⟩
end Tt
end Go.Proofs
namespace Go.Proofs
open Go Go.Vx Go.RowKit
open Go.Sort (ltInt medianAdjacent order2 partition)
namespace Tt
def QcG:Sort.Hint->Int
 | .unknown=>0
 | .increasing=>1
 | .decreasing=>2
def cpR (d:Array Int) (lo hi:Nat):Nat × Nat:=if hi-lo ≥ 8 then (if hi-lo ≥ 50 then Sort.median ltInt d (medianAdjacent ltInt d (lo+((hi-lo)/4)*1) (0)).1 (medianAdjacent ltInt d (lo+((hi-lo)/4)*2) ((medianAdjacent ltInt d (lo+((hi-lo)/4)*1) (0)).2)).1 (medianAdjacent ltInt d (lo+((hi-lo)/4)*3) ((medianAdjacent ltInt d (lo+((hi-lo)/4)*2) ((medianAdjacent ltInt d (lo+((hi-lo)/4)*1) (0)).2)).2)).1 (medianAdjacent ltInt d (lo+((hi-lo)/4)*3) ((medianAdjacent ltInt d (lo+((hi-lo)/4)*2) ((medianAdjacent ltInt d (lo+((hi-lo)/4)*1) (0)).2)).2)).2 else Sort.median ltInt d (lo+((hi-lo)/4)*1) (lo+((hi-lo)/4)*2) (lo+((hi-lo)/4)*3) 0) else (lo+((hi-lo)/4)*2,0)
theorem QvJ (d:Array Int) (lo hi:Nat):Sort.choosePivot ltInt d lo hi=((cpR d lo hi).1,if (cpR d lo hi).2=0 then .increasing else if (cpR d lo hi).2=12 then .decreasing else .unknown):=rfl
theorem QiY {d:Array Int} {lo hi:Nat} {X:Nat × Nat} {h:Sort.Hint} (hR:cpR d lo hi=X) (hh:(if X.2=0 then Sort.Hint.increasing else if X.2=12 then .decreasing else .unknown)=h):Sort.choosePivot ltInt d lo hi=(X.1,h):=by
 rw [QvJ,hR,hh]
theorem QsZ (w:World) (a:Option Addr) (N c:Nat) (d:Array Int) (hsz:d.size=N) (hN:N<=2305843009213693951) (hr:Rd w (.slice a N c) 1 (d.toList.map (ic .u16))) (lo hi:Nat) (h1:lo<hi) (h2:hi<=N):Calls Tryz.prog 175 #[.slice a N c,.int .i64 (lo:Int),.int .i64 (hi:Int)] w (fun e w'=>e = .returned (.tuple #[.int .i64 (((Sort.choosePivot ltInt d lo hi).1:Nat):Int),.int .i64 (QcG (Sort.choosePivot ltInt d lo hi).2)])/\Own w no w' []):=by
 refine Qai (n:=57) Tryz.func175 rfl Tryz.ntmps175 rfl ?_
 have hs:=Own.start w
 have hb:bkS (.slice a N c)<w.heap.size:=hr.bk_lt (by simp only [QQ6,QQ9];omega)
 refine Qag (Qab (Qaa (Qad (V:=I6 0) rfl (Qaa (Qad (V:=I6 0) rfl (Qae (Qag (Qab (Qaa (Qac (V:=I6 (hi:Int)) rfl (Qaa (Qac (V:=I6 (lo:Int)) rfl (Qaa (Qa5 (a:=(hi:Int)) (b:=(lo:Int)) (c:=((hi-lo:Nat):Int)) rfl rfl (Qak (by omega) (by omega)) (Qaa (Qad (V:=I6 ((hi-lo:Nat):Int)) rfl (Qae (Qag (Qab (Qaa (QaK (cs:=[I6 0]) Qwh rfl hs fun b1 w2 hs=>(Qae (Qag (Qab (Qaa (Qac (V:=I6 (lo:Int)) rfl (Qaa (Qac (V:=I6 ((hi-lo:Nat):Int)) rfl (Qaa (Qjp (a:=((hi-lo:Nat):Int)) (b:=4) (c:=(((hi-lo)/4:Nat):Int)) rfl rfl (by decide) (Qak rfl (by omega)) (Qaa (QgI (a:=(((hi-lo)/4:Nat):Int)) (b:=1) (c:=((((hi-lo)/4)*1:Nat):Int)) rfl rfl (Qak (by omega) (by omega)) (Qaa (QaF (a:=(lo:Int)) (b:=((((hi-lo)/4)*1:Nat):Int)) (c:=((lo+(((hi-lo)/4)*1):Nat):Int)) rfl rfl (Qak (by omega) (by omega)) (Qaa (Qad (V:=I6 ((lo+(((hi-lo)/4)*1):Nat):Int)) rfl (Qae (Qag (Qab (Qaa (Qac (V:=I6 (lo:Int)) rfl (Qaa (Qac (V:=I6 ((hi-lo:Nat):Int)) rfl (Qaa (Qjp (a:=((hi-lo:Nat):Int)) (b:=4) (c:=(((hi-lo)/4:Nat):Int)) rfl rfl (by decide) (Qak rfl (by omega)) (Qaa (QgI (a:=(((hi-lo)/4:Nat):Int)) (b:=2) (c:=((((hi-lo)/4)*2:Nat):Int)) rfl rfl (Qak (by omega) (by omega)) (Qaa (QaF (a:=(lo:Int)) (b:=((((hi-lo)/4)*2:Nat):Int)) (c:=((lo+(((hi-lo)/4)*2):Nat):Int)) rfl rfl (Qak (by omega) (by omega)) (Qaa (Qad (V:=I6 ((lo+(((hi-lo)/4)*2):Nat):Int)) rfl (Qae (Qag (Qab (Qaa (Qac (V:=I6 (lo:Int)) rfl (Qaa (Qac (V:=I6 ((hi-lo:Nat):Int)) rfl (Qaa (Qjp (a:=((hi-lo:Nat):Int)) (b:=4) (c:=(((hi-lo)/4:Nat):Int)) rfl rfl (by decide) (Qak rfl (by omega)) (Qaa (QgI (a:=(((hi-lo)/4:Nat):Int)) (b:=3) (c:=((((hi-lo)/4)*3:Nat):Int)) rfl rfl (Qak (by omega) (by omega)) (Qaa (QaF (a:=(lo:Int)) (b:=((((hi-lo)/4)*3:Nat):Int)) (c:=((lo+(((hi-lo)/4)*3):Nat):Int)) rfl rfl (Qak (by omega) (by omega)) ?_))))))))))))))))))))))))))))))))))))))))))))))))))))))))))))))))
 refine Qaa (Qad (V:=I6 ((lo+(((hi-lo)/4)*3):Nat):Int)) rfl (Qae (Qag (Qag (Qab (Qaa (Qac (V:=I6 ((hi-lo:Nat):Int)) rfl (Qaa (QcZ rfl rfl (Qae (Qam (t:=decide (8<=((hi-lo:Nat):Int))) rfl (fun c3=>?_) (fun c3=>?_))))))))))))
 ·
  replace c3:=QQ1 c3
  refine Qag (Qag (Qab (Qaa (Qac (V:=I6 ((hi-lo:Nat):Int)) rfl (Qaa (QcZ rfl rfl (Qae (Qam (t:=decide (50<=((hi-lo:Nat):Int))) rfl (fun c4=>?_) (fun c4=>?_)))))))))
  ·
   replace c4:=QQ1 c4
   refine Qag (Qab (Qaa (Qac (V:=.slice a N c) rfl (Qaa (Qac (V:=I6 ((lo+(((hi-lo)/4)*1):Nat):Int)) rfl (Qaa (Qc1 (vs:=[.slice a N c,I6 ((lo+(((hi-lo)/4)*1):Nat):Int),Pq b1 0]) (V:=fun _:Unit=>I6 (((medianAdjacent ltInt d (lo+(((hi-lo)/4)*1)) 0).1:Nat):Int)) (R:=blk b1 [I6 (0:Int)] 3) (R':=fun _=>blk b1 [I6 (((medianAdjacent ltInt d (lo+(((hi-lo)/4)*1)) 0).2:Nat):Int)] 3) (Lo:=fun _=>[]) (F:=fun _ _=>True) Qml rfl rfl hs 0 rfl (fun S hS hlt hSM=>Qms _ S a N c d hsz hN b1 0 (by omega) (Rd.own' hr hs) (Nat.lt_of_lt_of_le hb hs.size) (fun h=>hSM _ h hb) hS hlt (lo+(((hi-lo)/4)*1)) (by omega) (by omega)) fun _ w5 hs _=>(Qaa (Qad (V:=I6 (((medianAdjacent ltInt d (lo+(((hi-lo)/4)*1)) 0).1:Nat):Int)) rfl (Qae (Qag ?_)))))))))))
   have hq1:=Qm1 (d:=d) (sw:=0) (N:=N) (x:=lo+((hi-lo)/4)*1) (by omega) (by omega)
   refine Qab (Qaa (Qac (V:=.slice a N c) rfl (Qaa (Qac (V:=I6 ((lo+(((hi-lo)/4)*2):Nat):Int)) rfl (Qaa (Qc1 (vs:=[.slice a N c,I6 ((lo+(((hi-lo)/4)*2):Nat):Int),Pq b1 0]) (V:=fun _:Unit=>I6 (((medianAdjacent ltInt d (lo+(((hi-lo)/4)*2)) ((medianAdjacent ltInt d (lo+(((hi-lo)/4)*1)) 0).2)).1:Nat):Int)) (R:=blk b1 [I6 (((medianAdjacent ltInt d (lo+(((hi-lo)/4)*1)) 0).2:Nat):Int)] 3) (R':=fun _=>blk b1 [I6 (((medianAdjacent ltInt d (lo+(((hi-lo)/4)*2)) ((medianAdjacent ltInt d (lo+(((hi-lo)/4)*1)) 0).2)).2:Nat):Int)] 3) (Lo:=fun _=>[]) (F:=fun _ _=>True) Qml rfl rfl hs 0 rfl (fun S hS hlt hSM=>Qms _ S a N c d hsz hN b1 ((medianAdjacent ltInt d (lo+(((hi-lo)/4)*1)) 0).2) (by omega) (Rd.own' hr hs) (Nat.lt_of_lt_of_le hb hs.size) (fun h=>hSM _ h hb) hS hlt (lo+(((hi-lo)/4)*2)) (by omega) (by omega)) fun _ w6 hs _=>(Qaa (Qad (V:=I6 (((medianAdjacent ltInt d (lo+(((hi-lo)/4)*2)) ((medianAdjacent ltInt d (lo+(((hi-lo)/4)*1)) 0).2)).1:Nat):Int)) rfl (Qae ?_)))))))))
   have hq2:=Qm1 (d:=d) (sw:=(medianAdjacent ltInt d (lo+((hi-lo)/4)*1) (0)).2) (N:=N) (x:=lo+((hi-lo)/4)*2) (by omega) (by omega)
   refine Qab (Qaa (Qac (V:=.slice a N c) rfl (Qaa (Qac (V:=I6 ((lo+(((hi-lo)/4)*3):Nat):Int)) rfl (Qaa (Qc1 (vs:=[.slice a N c,I6 ((lo+(((hi-lo)/4)*3):Nat):Int),Pq b1 0]) (V:=fun _:Unit=>I6 (((medianAdjacent ltInt d (lo+(((hi-lo)/4)*3)) ((medianAdjacent ltInt d (lo+(((hi-lo)/4)*2)) ((medianAdjacent ltInt d (lo+(((hi-lo)/4)*1)) 0).2)).2)).1:Nat):Int)) (R:=blk b1 [I6 (((medianAdjacent ltInt d (lo+(((hi-lo)/4)*2)) ((medianAdjacent ltInt d (lo+(((hi-lo)/4)*1)) 0).2)).2:Nat):Int)] 3) (R':=fun _=>blk b1 [I6 (((medianAdjacent ltInt d (lo+(((hi-lo)/4)*3)) ((medianAdjacent ltInt d (lo+(((hi-lo)/4)*2)) ((medianAdjacent ltInt d (lo+(((hi-lo)/4)*1)) 0).2)).2)).2:Nat):Int)] 3) (Lo:=fun _=>[]) (F:=fun _ _=>True) Qml rfl rfl hs 0 rfl (fun S hS hlt hSM=>Qms _ S a N c d hsz hN b1 ((medianAdjacent ltInt d (lo+(((hi-lo)/4)*2)) ((medianAdjacent ltInt d (lo+(((hi-lo)/4)*1)) 0).2)).2) (by omega) (Rd.own' hr hs) (Nat.lt_of_lt_of_le hb hs.size) (fun h=>hSM _ h hb) hS hlt (lo+(((hi-lo)/4)*3)) (by omega) (by omega)) fun _ w7 hs _=>?_))))))
   replace hs:Own w no w7 [blk b1 [I6 (((medianAdjacent ltInt d (lo+(((hi-lo)/4)*3)) ((medianAdjacent ltInt d (lo+(((hi-lo)/4)*2)) ((medianAdjacent ltInt d (lo+(((hi-lo)/4)*1)) 0).2)).2)).2:Nat):Int)] 3]:=hs
   refine Qaa (Qad (V:=I6 (((medianAdjacent ltInt d (lo+(((hi-lo)/4)*3)) ((medianAdjacent ltInt d (lo+(((hi-lo)/4)*2)) ((medianAdjacent ltInt d (lo+(((hi-lo)/4)*1)) 0).2)).2)).1:Nat):Int)) rfl (Qae ?_))
   have hq3:=Qm1 (d:=d) (sw:=(medianAdjacent ltInt d (lo+((hi-lo)/4)*2) ((medianAdjacent ltInt d (lo+((hi-lo)/4)*1) (0)).2)).2) (N:=N) (x:=lo+((hi-lo)/4)*3) (by omega) (by omega)
   refine Qab (Qaa (Qac (V:=.slice a N c) rfl (Qaa (Qac (V:=I6 (((medianAdjacent ltInt d (lo+(((hi-lo)/4)*1)) 0).1:Nat):Int)) rfl (Qaa (Qac (V:=I6 (((medianAdjacent ltInt d (lo+(((hi-lo)/4)*2)) ((medianAdjacent ltInt d (lo+(((hi-lo)/4)*1)) 0).2)).1:Nat):Int)) rfl (Qaa (Qac (V:=I6 (((medianAdjacent ltInt d (lo+(((hi-lo)/4)*3)) ((medianAdjacent ltInt d (lo+(((hi-lo)/4)*2)) ((medianAdjacent ltInt d (lo+(((hi-lo)/4)*1)) 0).2)).2)).1:Nat):Int)) rfl (Qaa (Qc1 (vs:=[.slice a N c,I6 (((medianAdjacent ltInt d (lo+(((hi-lo)/4)*1)) 0).1:Nat):Int),I6 (((medianAdjacent ltInt d (lo+(((hi-lo)/4)*2)) ((medianAdjacent ltInt d (lo+(((hi-lo)/4)*1)) 0).2)).1:Nat):Int),I6 (((medianAdjacent ltInt d (lo+(((hi-lo)/4)*3)) ((medianAdjacent ltInt d (lo+(((hi-lo)/4)*2)) ((medianAdjacent ltInt d (lo+(((hi-lo)/4)*1)) 0).2)).2)).1:Nat):Int),Pq b1 0]) (V:=fun _:Unit=>I6 (((Sort.median ltInt d ((medianAdjacent ltInt d (lo+(((hi-lo)/4)*1)) 0).1) ((medianAdjacent ltInt d (lo+(((hi-lo)/4)*2)) ((medianAdjacent ltInt d (lo+(((hi-lo)/4)*1)) 0).2)).1) ((medianAdjacent ltInt d (lo+(((hi-lo)/4)*3)) ((medianAdjacent ltInt d (lo+(((hi-lo)/4)*2)) ((medianAdjacent ltInt d (lo+(((hi-lo)/4)*1)) 0).2)).2)).1) ((medianAdjacent ltInt d (lo+(((hi-lo)/4)*3)) ((medianAdjacent ltInt d (lo+(((hi-lo)/4)*2)) ((medianAdjacent ltInt d (lo+(((hi-lo)/4)*1)) 0).2)).2)).2)).1:Nat):Int)) (R:=blk b1 [I6 (((medianAdjacent ltInt d (lo+(((hi-lo)/4)*3)) ((medianAdjacent ltInt d (lo+(((hi-lo)/4)*2)) ((medianAdjacent ltInt d (lo+(((hi-lo)/4)*1)) 0).2)).2)).2:Nat):Int)] 3) (R':=fun _=>blk b1 [I6 (((Sort.median ltInt d ((medianAdjacent ltInt d (lo+(((hi-lo)/4)*1)) 0).1) ((medianAdjacent ltInt d (lo+(((hi-lo)/4)*2)) ((medianAdjacent ltInt d (lo+(((hi-lo)/4)*1)) 0).2)).1) ((medianAdjacent ltInt d (lo+(((hi-lo)/4)*3)) ((medianAdjacent ltInt d (lo+(((hi-lo)/4)*2)) ((medianAdjacent ltInt d (lo+(((hi-lo)/4)*1)) 0).2)).2)).1) ((medianAdjacent ltInt d (lo+(((hi-lo)/4)*3)) ((medianAdjacent ltInt d (lo+(((hi-lo)/4)*2)) ((medianAdjacent ltInt d (lo+(((hi-lo)/4)*1)) 0).2)).2)).2)).2:Nat):Int)] 3) (Lo:=fun _=>[]) (F:=fun _ _=>True) Ql8 rfl rfl hs 0 rfl (fun S hS hlt hSM=>Qnv _ S a N c d hsz hN b1 ((medianAdjacent ltInt d (lo+(((hi-lo)/4)*3)) ((medianAdjacent ltInt d (lo+(((hi-lo)/4)*2)) ((medianAdjacent ltInt d (lo+(((hi-lo)/4)*1)) 0).2)).2)).2) (by omega) (Rd.own' hr hs) (Nat.lt_of_lt_of_le hb hs.size) (fun h=>hSM _ h hb) hS hlt ((medianAdjacent ltInt d (lo+(((hi-lo)/4)*1)) 0).1) ((medianAdjacent ltInt d (lo+(((hi-lo)/4)*2)) ((medianAdjacent ltInt d (lo+(((hi-lo)/4)*1)) 0).2)).1) ((medianAdjacent ltInt d (lo+(((hi-lo)/4)*3)) ((medianAdjacent ltInt d (lo+(((hi-lo)/4)*2)) ((medianAdjacent ltInt d (lo+(((hi-lo)/4)*1)) 0).2)).2)).1) (by omega) (by omega) (by omega)) fun _ w8 hs _=>(Qaa (Qad (V:=I6 (((Sort.median ltInt d ((medianAdjacent ltInt d (lo+(((hi-lo)/4)*1)) 0).1) ((medianAdjacent ltInt d (lo+(((hi-lo)/4)*2)) ((medianAdjacent ltInt d (lo+(((hi-lo)/4)*1)) 0).2)).1) ((medianAdjacent ltInt d (lo+(((hi-lo)/4)*3)) ((medianAdjacent ltInt d (lo+(((hi-lo)/4)*2)) ((medianAdjacent ltInt d (lo+(((hi-lo)/4)*1)) 0).2)).2)).1) ((medianAdjacent ltInt d (lo+(((hi-lo)/4)*3)) ((medianAdjacent ltInt d (lo+(((hi-lo)/4)*2)) ((medianAdjacent ltInt d (lo+(((hi-lo)/4)*1)) 0).2)).2)).2)).1:Nat):Int)) rfl (Qae (Qag (Qab (Qaa (QaQ (V:=I6 (((Sort.median ltInt d ((medianAdjacent ltInt d (lo+(((hi-lo)/4)*1)) 0).1) ((medianAdjacent ltInt d (lo+(((hi-lo)/4)*2)) ((medianAdjacent ltInt d (lo+(((hi-lo)/4)*1)) 0).2)).1) ((medianAdjacent ltInt d (lo+(((hi-lo)/4)*3)) ((medianAdjacent ltInt d (lo+(((hi-lo)/4)*2)) ((medianAdjacent ltInt d (lo+(((hi-lo)/4)*1)) 0).2)).2)).1) ((medianAdjacent ltInt d (lo+(((hi-lo)/4)*3)) ((medianAdjacent ltInt d (lo+(((hi-lo)/4)*2)) ((medianAdjacent ltInt d (lo+(((hi-lo)/4)*1)) 0).2)).2)).2)).2:Nat):Int)) Qrz hs 0 rfl rfl rfl (Qae (Qan (Qag (Qab (Qaa (QaZ rfl rfl (Qaa (Qad (V:=.bool (decide ((((Sort.median ltInt d ((medianAdjacent ltInt d (lo+(((hi-lo)/4)*1)) 0).1) ((medianAdjacent ltInt d (lo+(((hi-lo)/4)*2)) ((medianAdjacent ltInt d (lo+(((hi-lo)/4)*1)) 0).2)).1) ((medianAdjacent ltInt d (lo+(((hi-lo)/4)*3)) ((medianAdjacent ltInt d (lo+(((hi-lo)/4)*2)) ((medianAdjacent ltInt d (lo+(((hi-lo)/4)*1)) 0).2)).2)).1) ((medianAdjacent ltInt d (lo+(((hi-lo)/4)*3)) ((medianAdjacent ltInt d (lo+(((hi-lo)/4)*2)) ((medianAdjacent ltInt d (lo+(((hi-lo)/4)*1)) 0).2)).2)).2)).2:Nat):Int)=0))) rfl (Qae (Qam (t:=decide ((((Sort.median ltInt d ((medianAdjacent ltInt d (lo+(((hi-lo)/4)*1)) 0).1) ((medianAdjacent ltInt d (lo+(((hi-lo)/4)*2)) ((medianAdjacent ltInt d (lo+(((hi-lo)/4)*1)) 0).2)).1) ((medianAdjacent ltInt d (lo+(((hi-lo)/4)*3)) ((medianAdjacent ltInt d (lo+(((hi-lo)/4)*2)) ((medianAdjacent ltInt d (lo+(((hi-lo)/4)*1)) 0).2)).2)).1) ((medianAdjacent ltInt d (lo+(((hi-lo)/4)*3)) ((medianAdjacent ltInt d (lo+(((hi-lo)/4)*2)) ((medianAdjacent ltInt d (lo+(((hi-lo)/4)*1)) 0).2)).2)).2)).2:Nat):Int)=0)) rfl (fun c9=>?_) (fun c9=>?_))))))))))))))))))))))))))))
   ·
    replace c9:=QQ1 c9
    refine Qag (Qab (Qaa (Qac (V:=I6 (((Sort.median ltInt d ((medianAdjacent ltInt d (lo+(((hi-lo)/4)*1)) 0).1) ((medianAdjacent ltInt d (lo+(((hi-lo)/4)*2)) ((medianAdjacent ltInt d (lo+(((hi-lo)/4)*1)) 0).2)).1) ((medianAdjacent ltInt d (lo+(((hi-lo)/4)*3)) ((medianAdjacent ltInt d (lo+(((hi-lo)/4)*2)) ((medianAdjacent ltInt d (lo+(((hi-lo)/4)*1)) 0).2)).2)).1) ((medianAdjacent ltInt d (lo+(((hi-lo)/4)*3)) ((medianAdjacent ltInt d (lo+(((hi-lo)/4)*2)) ((medianAdjacent ltInt d (lo+(((hi-lo)/4)*1)) 0).2)).2)).2)).1:Nat):Int)) rfl (Qaa (Qad (V:=I6 (((Sort.median ltInt d ((medianAdjacent ltInt d (lo+(((hi-lo)/4)*1)) 0).1) ((medianAdjacent ltInt d (lo+(((hi-lo)/4)*2)) ((medianAdjacent ltInt d (lo+(((hi-lo)/4)*1)) 0).2)).1) ((medianAdjacent ltInt d (lo+(((hi-lo)/4)*3)) ((medianAdjacent ltInt d (lo+(((hi-lo)/4)*2)) ((medianAdjacent ltInt d (lo+(((hi-lo)/4)*1)) 0).2)).2)).1) ((medianAdjacent ltInt d (lo+(((hi-lo)/4)*3)) ((medianAdjacent ltInt d (lo+(((hi-lo)/4)*2)) ((medianAdjacent ltInt d (lo+(((hi-lo)/4)*1)) 0).2)).2)).2)).1:Nat):Int)) rfl (Qaa (Qad (V:=I6 1) rfl (Qae (Qaw ?_)))))))))
    refine ⟨_,QbI (U:=I6 (((Sort.median ltInt d ((medianAdjacent ltInt d (lo+(((hi-lo)/4)*1)) 0).1) ((medianAdjacent ltInt d (lo+(((hi-lo)/4)*2)) ((medianAdjacent ltInt d (lo+(((hi-lo)/4)*1)) 0).2)).1) ((medianAdjacent ltInt d (lo+(((hi-lo)/4)*3)) ((medianAdjacent ltInt d (lo+(((hi-lo)/4)*2)) ((medianAdjacent ltInt d (lo+(((hi-lo)/4)*1)) 0).2)).2)).1) ((medianAdjacent ltInt d (lo+(((hi-lo)/4)*3)) ((medianAdjacent ltInt d (lo+(((hi-lo)/4)*2)) ((medianAdjacent ltInt d (lo+(((hi-lo)/4)*1)) 0).2)).2)).2)).1:Nat):Int)) (V:=I6 1) Tryz.results175 rfl rfl,?_⟩
    refine ⟨?_,hs.take 0⟩
    rw [QiY (X:=Sort.median ltInt d (medianAdjacent ltInt d (lo+((hi-lo)/4)*1) (0)).1 (medianAdjacent ltInt d (lo+((hi-lo)/4)*2) ((medianAdjacent ltInt d (lo+((hi-lo)/4)*1) (0)).2)).1 (medianAdjacent ltInt d (lo+((hi-lo)/4)*3) ((medianAdjacent ltInt d (lo+((hi-lo)/4)*2) ((medianAdjacent ltInt d (lo+((hi-lo)/4)*1) (0)).2)).2)).1 (medianAdjacent ltInt d (lo+((hi-lo)/4)*3) ((medianAdjacent ltInt d (lo+((hi-lo)/4)*2) ((medianAdjacent ltInt d (lo+((hi-lo)/4)*1) (0)).2)).2)).2) (h:=.increasing) ((if_pos (by omega)).trans (if_pos (by omega))) (if_pos (by omega))];rfl
   replace c9:=QQ2 c9
   refine Qag (Qab (Qaa (QaZ rfl rfl (Qaa (Qad (V:=.bool (decide ((((Sort.median ltInt d ((medianAdjacent ltInt d (lo+(((hi-lo)/4)*1)) 0).1) ((medianAdjacent ltInt d (lo+(((hi-lo)/4)*2)) ((medianAdjacent ltInt d (lo+(((hi-lo)/4)*1)) 0).2)).1) ((medianAdjacent ltInt d (lo+(((hi-lo)/4)*3)) ((medianAdjacent ltInt d (lo+(((hi-lo)/4)*2)) ((medianAdjacent ltInt d (lo+(((hi-lo)/4)*1)) 0).2)).2)).1) ((medianAdjacent ltInt d (lo+(((hi-lo)/4)*3)) ((medianAdjacent ltInt d (lo+(((hi-lo)/4)*2)) ((medianAdjacent ltInt d (lo+(((hi-lo)/4)*1)) 0).2)).2)).2)).2:Nat):Int)=12))) rfl (Qae (Qam (t:=decide ((((Sort.median ltInt d ((medianAdjacent ltInt d (lo+(((hi-lo)/4)*1)) 0).1) ((medianAdjacent ltInt d (lo+(((hi-lo)/4)*2)) ((medianAdjacent ltInt d (lo+(((hi-lo)/4)*1)) 0).2)).1) ((medianAdjacent ltInt d (lo+(((hi-lo)/4)*3)) ((medianAdjacent ltInt d (lo+(((hi-lo)/4)*2)) ((medianAdjacent ltInt d (lo+(((hi-lo)/4)*1)) 0).2)).2)).1) ((medianAdjacent ltInt d (lo+(((hi-lo)/4)*3)) ((medianAdjacent ltInt d (lo+(((hi-lo)/4)*2)) ((medianAdjacent ltInt d (lo+(((hi-lo)/4)*1)) 0).2)).2)).2)).2:Nat):Int)=12)) rfl (fun c10=>?_) (fun c10=>?_))))))))
   ·
    replace c10:=QQ1 c10
    refine Qag (Qab (Qaa (Qac (V:=I6 (((Sort.median ltInt d ((medianAdjacent ltInt d (lo+(((hi-lo)/4)*1)) 0).1) ((medianAdjacent ltInt d (lo+(((hi-lo)/4)*2)) ((medianAdjacent ltInt d (lo+(((hi-lo)/4)*1)) 0).2)).1) ((medianAdjacent ltInt d (lo+(((hi-lo)/4)*3)) ((medianAdjacent ltInt d (lo+(((hi-lo)/4)*2)) ((medianAdjacent ltInt d (lo+(((hi-lo)/4)*1)) 0).2)).2)).1) ((medianAdjacent ltInt d (lo+(((hi-lo)/4)*3)) ((medianAdjacent ltInt d (lo+(((hi-lo)/4)*2)) ((medianAdjacent ltInt d (lo+(((hi-lo)/4)*1)) 0).2)).2)).2)).1:Nat):Int)) rfl (Qaa (Qad (V:=I6 (((Sort.median ltInt d ((medianAdjacent ltInt d (lo+(((hi-lo)/4)*1)) 0).1) ((medianAdjacent ltInt d (lo+(((hi-lo)/4)*2)) ((medianAdjacent ltInt d (lo+(((hi-lo)/4)*1)) 0).2)).1) ((medianAdjacent ltInt d (lo+(((hi-lo)/4)*3)) ((medianAdjacent ltInt d (lo+(((hi-lo)/4)*2)) ((medianAdjacent ltInt d (lo+(((hi-lo)/4)*1)) 0).2)).2)).1) ((medianAdjacent ltInt d (lo+(((hi-lo)/4)*3)) ((medianAdjacent ltInt d (lo+(((hi-lo)/4)*2)) ((medianAdjacent ltInt d (lo+(((hi-lo)/4)*1)) 0).2)).2)).2)).1:Nat):Int)) rfl (Qaa (Qad (V:=I6 2) rfl (Qae (Qaw ?_)))))))))
    refine ⟨_,QbI (U:=I6 (((Sort.median ltInt d ((medianAdjacent ltInt d (lo+(((hi-lo)/4)*1)) 0).1) ((medianAdjacent ltInt d (lo+(((hi-lo)/4)*2)) ((medianAdjacent ltInt d (lo+(((hi-lo)/4)*1)) 0).2)).1) ((medianAdjacent ltInt d (lo+(((hi-lo)/4)*3)) ((medianAdjacent ltInt d (lo+(((hi-lo)/4)*2)) ((medianAdjacent ltInt d (lo+(((hi-lo)/4)*1)) 0).2)).2)).1) ((medianAdjacent ltInt d (lo+(((hi-lo)/4)*3)) ((medianAdjacent ltInt d (lo+(((hi-lo)/4)*2)) ((medianAdjacent ltInt d (lo+(((hi-lo)/4)*1)) 0).2)).2)).2)).1:Nat):Int)) (V:=I6 2) Tryz.results175 rfl rfl,?_⟩
    refine ⟨?_,hs.take 0⟩
    rw [QiY (X:=Sort.median ltInt d (medianAdjacent ltInt d (lo+((hi-lo)/4)*1) (0)).1 (medianAdjacent ltInt d (lo+((hi-lo)/4)*2) ((medianAdjacent ltInt d (lo+((hi-lo)/4)*1) (0)).2)).1 (medianAdjacent ltInt d (lo+((hi-lo)/4)*3) ((medianAdjacent ltInt d (lo+((hi-lo)/4)*2) ((medianAdjacent ltInt d (lo+((hi-lo)/4)*1) (0)).2)).2)).1 (medianAdjacent ltInt d (lo+((hi-lo)/4)*3) ((medianAdjacent ltInt d (lo+((hi-lo)/4)*2) ((medianAdjacent ltInt d (lo+((hi-lo)/4)*1) (0)).2)).2)).2) (h:=.decreasing) ((if_pos (by omega)).trans (if_pos (by omega))) ((if_neg (by omega)).trans (if_pos (by omega)))];rfl
   replace c10:=QQ2 c10
   refine Qag (Qab (Qaa (Qac (V:=I6 (((Sort.median ltInt d ((medianAdjacent ltInt d (lo+(((hi-lo)/4)*1)) 0).1) ((medianAdjacent ltInt d (lo+(((hi-lo)/4)*2)) ((medianAdjacent ltInt d (lo+(((hi-lo)/4)*1)) 0).2)).1) ((medianAdjacent ltInt d (lo+(((hi-lo)/4)*3)) ((medianAdjacent ltInt d (lo+(((hi-lo)/4)*2)) ((medianAdjacent ltInt d (lo+(((hi-lo)/4)*1)) 0).2)).2)).1) ((medianAdjacent ltInt d (lo+(((hi-lo)/4)*3)) ((medianAdjacent ltInt d (lo+(((hi-lo)/4)*2)) ((medianAdjacent ltInt d (lo+(((hi-lo)/4)*1)) 0).2)).2)).2)).1:Nat):Int)) rfl (Qaa (Qad (V:=I6 (((Sort.median ltInt d ((medianAdjacent ltInt d (lo+(((hi-lo)/4)*1)) 0).1) ((medianAdjacent ltInt d (lo+(((hi-lo)/4)*2)) ((medianAdjacent ltInt d (lo+(((hi-lo)/4)*1)) 0).2)).1) ((medianAdjacent ltInt d (lo+(((hi-lo)/4)*3)) ((medianAdjacent ltInt d (lo+(((hi-lo)/4)*2)) ((medianAdjacent ltInt d (lo+(((hi-lo)/4)*1)) 0).2)).2)).1) ((medianAdjacent ltInt d (lo+(((hi-lo)/4)*3)) ((medianAdjacent ltInt d (lo+(((hi-lo)/4)*2)) ((medianAdjacent ltInt d (lo+(((hi-lo)/4)*1)) 0).2)).2)).2)).1:Nat):Int)) rfl (Qaa (Qad (V:=I6 0) rfl (Qae (Qaw ?_)))))))))
   refine ⟨_,QbI (U:=I6 (((Sort.median ltInt d ((medianAdjacent ltInt d (lo+(((hi-lo)/4)*1)) 0).1) ((medianAdjacent ltInt d (lo+(((hi-lo)/4)*2)) ((medianAdjacent ltInt d (lo+(((hi-lo)/4)*1)) 0).2)).1) ((medianAdjacent ltInt d (lo+(((hi-lo)/4)*3)) ((medianAdjacent ltInt d (lo+(((hi-lo)/4)*2)) ((medianAdjacent ltInt d (lo+(((hi-lo)/4)*1)) 0).2)).2)).1) ((medianAdjacent ltInt d (lo+(((hi-lo)/4)*3)) ((medianAdjacent ltInt d (lo+(((hi-lo)/4)*2)) ((medianAdjacent ltInt d (lo+(((hi-lo)/4)*1)) 0).2)).2)).2)).1:Nat):Int)) (V:=I6 0) Tryz.results175 rfl rfl,?_⟩
   refine ⟨?_,hs.take 0⟩
   rw [QiY (X:=Sort.median ltInt d (medianAdjacent ltInt d (lo+((hi-lo)/4)*1) (0)).1 (medianAdjacent ltInt d (lo+((hi-lo)/4)*2) ((medianAdjacent ltInt d (lo+((hi-lo)/4)*1) (0)).2)).1 (medianAdjacent ltInt d (lo+((hi-lo)/4)*3) ((medianAdjacent ltInt d (lo+((hi-lo)/4)*2) ((medianAdjacent ltInt d (lo+((hi-lo)/4)*1) (0)).2)).2)).1 (medianAdjacent ltInt d (lo+((hi-lo)/4)*3) ((medianAdjacent ltInt d (lo+((hi-lo)/4)*2) ((medianAdjacent ltInt d (lo+((hi-lo)/4)*1) (0)).2)).2)).2) (h:=.unknown) ((if_pos (by omega)).trans (if_pos (by omega))) ((if_neg (by omega)).trans (if_neg (by omega)))];rfl
  replace c4:=QQ2 c4
  refine Qao (Qab (Qaa (Qac (V:=.slice a N c) rfl (Qaa (Qac (V:=I6 ((lo+(((hi-lo)/4)*1):Nat):Int)) rfl (Qaa (Qac (V:=I6 ((lo+(((hi-lo)/4)*2):Nat):Int)) rfl (Qaa (Qac (V:=I6 ((lo+(((hi-lo)/4)*3):Nat):Int)) rfl (Qaa (Qc1 (vs:=[.slice a N c,I6 ((lo+(((hi-lo)/4)*1):Nat):Int),I6 ((lo+(((hi-lo)/4)*2):Nat):Int),I6 ((lo+(((hi-lo)/4)*3):Nat):Int),Pq b1 0]) (V:=fun _:Unit=>I6 (((Sort.median ltInt d (lo+(((hi-lo)/4)*1)) (lo+(((hi-lo)/4)*2)) (lo+(((hi-lo)/4)*3)) 0).1:Nat):Int)) (R:=blk b1 [I6 (0:Int)] 3) (R':=fun _=>blk b1 [I6 (((Sort.median ltInt d (lo+(((hi-lo)/4)*1)) (lo+(((hi-lo)/4)*2)) (lo+(((hi-lo)/4)*3)) 0).2:Nat):Int)] 3) (Lo:=fun _=>[]) (F:=fun _ _=>True) Ql8 rfl rfl hs 0 rfl (fun S hS hlt hSM=>Qnv _ S a N c d hsz hN b1 0 (by omega) (Rd.own' hr hs) (Nat.lt_of_lt_of_le hb hs.size) (fun h=>hSM _ h hb) hS hlt (lo+(((hi-lo)/4)*1)) (lo+(((hi-lo)/4)*2)) (lo+(((hi-lo)/4)*3)) (by omega) (by omega) (by omega)) fun _ w11 hs _=>(Qaa (Qad (V:=I6 (((Sort.median ltInt d (lo+(((hi-lo)/4)*1)) (lo+(((hi-lo)/4)*2)) (lo+(((hi-lo)/4)*3)) 0).1:Nat):Int)) rfl (Qae (Qag (Qab (Qaa (QaQ (V:=I6 (((Sort.median ltInt d (lo+(((hi-lo)/4)*1)) (lo+(((hi-lo)/4)*2)) (lo+(((hi-lo)/4)*3)) 0).2:Nat):Int)) Qrz hs 0 rfl rfl rfl (Qae (Qan (Qag (Qab (Qaa (QaZ rfl rfl (Qaa (Qad (V:=.bool (decide ((((Sort.median ltInt d (lo+(((hi-lo)/4)*1)) (lo+(((hi-lo)/4)*2)) (lo+(((hi-lo)/4)*3)) 0).2:Nat):Int)=0))) rfl (Qae (Qam (t:=decide ((((Sort.median ltInt d (lo+(((hi-lo)/4)*1)) (lo+(((hi-lo)/4)*2)) (lo+(((hi-lo)/4)*3)) 0).2:Nat):Int)=0)) rfl (fun c12=>?_) (fun c12=>?_)))))))))))))))))))))))))))))
  ·
   replace c12:=QQ1 c12
   refine Qag (Qab (Qaa (Qac (V:=I6 (((Sort.median ltInt d (lo+(((hi-lo)/4)*1)) (lo+(((hi-lo)/4)*2)) (lo+(((hi-lo)/4)*3)) 0).1:Nat):Int)) rfl (Qaa (Qad (V:=I6 (((Sort.median ltInt d (lo+(((hi-lo)/4)*1)) (lo+(((hi-lo)/4)*2)) (lo+(((hi-lo)/4)*3)) 0).1:Nat):Int)) rfl (Qaa (Qad (V:=I6 1) rfl (Qae (Qaw ?_)))))))))
   refine ⟨_,QbI (U:=I6 (((Sort.median ltInt d (lo+(((hi-lo)/4)*1)) (lo+(((hi-lo)/4)*2)) (lo+(((hi-lo)/4)*3)) 0).1:Nat):Int)) (V:=I6 1) Tryz.results175 rfl rfl,?_⟩
   refine ⟨?_,hs.take 0⟩
   rw [QiY (X:=Sort.median ltInt d (lo+((hi-lo)/4)*1) (lo+((hi-lo)/4)*2) (lo+((hi-lo)/4)*3) 0) (h:=.increasing) ((if_pos (by omega)).trans (if_neg (by omega))) (if_pos (by omega))];rfl
  replace c12:=QQ2 c12
  refine Qag (Qab (Qaa (QaZ rfl rfl (Qaa (Qad (V:=.bool (decide ((((Sort.median ltInt d (lo+(((hi-lo)/4)*1)) (lo+(((hi-lo)/4)*2)) (lo+(((hi-lo)/4)*3)) 0).2:Nat):Int)=12))) rfl (Qae (Qam (t:=decide ((((Sort.median ltInt d (lo+(((hi-lo)/4)*1)) (lo+(((hi-lo)/4)*2)) (lo+(((hi-lo)/4)*3)) 0).2:Nat):Int)=12)) rfl (fun c13=>?_) (fun c13=>?_))))))))
  ·
   replace c13:=QQ1 c13
   refine Qag (Qab (Qaa (Qac (V:=I6 (((Sort.median ltInt d (lo+(((hi-lo)/4)*1)) (lo+(((hi-lo)/4)*2)) (lo+(((hi-lo)/4)*3)) 0).1:Nat):Int)) rfl (Qaa (Qad (V:=I6 (((Sort.median ltInt d (lo+(((hi-lo)/4)*1)) (lo+(((hi-lo)/4)*2)) (lo+(((hi-lo)/4)*3)) 0).1:Nat):Int)) rfl (Qaa (Qad (V:=I6 2) rfl (Qae (Qaw ?_)))))))))
   refine ⟨_,QbI (U:=I6 (((Sort.median ltInt d (lo+(((hi-lo)/4)*1)) (lo+(((hi-lo)/4)*2)) (lo+(((hi-lo)/4)*3)) 0).1:Nat):Int)) (V:=I6 2) Tryz.results175 rfl rfl,?_⟩
   refine ⟨?_,hs.take 0⟩
   rw [QiY (X:=Sort.median ltInt d (lo+((hi-lo)/4)*1) (lo+((hi-lo)/4)*2) (lo+((hi-lo)/4)*3) 0) (h:=.decreasing) ((if_pos (by omega)).trans (if_neg (by omega))) ((if_neg (by omega)).trans (if_pos (by omega)))];rfl
  replace c13:=QQ2 c13
  refine Qag (Qab (Qaa (Qac (V:=I6 (((Sort.median ltInt d (lo+(((hi-lo)/4)*1)) (lo+(((hi-lo)/4)*2)) (lo+(((hi-lo)/4)*3)) 0).1:Nat):Int)) rfl (Qaa (Qad (V:=I6 (((Sort.median ltInt d (lo+(((hi-lo)/4)*1)) (lo+(((hi-lo)/4)*2)) (lo+(((hi-lo)/4)*3)) 0).1:Nat):Int)) rfl (Qaa (Qad (V:=I6 0) rfl (Qae (Qaw ?_)))))))))
  refine ⟨_,QbI (U:=I6 (((Sort.median ltInt d (lo+(((hi-lo)/4)*1)) (lo+(((hi-lo)/4)*2)) (lo+(((hi-lo)/4)*3)) 0).1:Nat):Int)) (V:=I6 0) Tryz.results175 rfl rfl,?_⟩
  refine ⟨?_,hs.take 0⟩
  rw [QiY (X:=Sort.median ltInt d (lo+((hi-lo)/4)*1) (lo+((hi-lo)/4)*2) (lo+((hi-lo)/4)*3) 0) (h:=.unknown) ((if_pos (by omega)).trans (if_neg (by omega))) ((if_neg (by omega)).trans (if_neg (by omega)))];rfl
 replace c3:=QQ2 c3
 refine Qao (Qag (Qab (Qaa (QaQ (V:=I6 0) Qrz hs 0 rfl rfl rfl (Qae (Qan (Qag (Qab (Qaa (QaZ rfl rfl (Qaa (Qad (V:=.bool (decide ((0:Int)=0))) rfl (Qae (Qam (t:=decide ((0:Int)=0)) rfl (fun c14=>?_) (fun c14=>?_)))))))))))))))
 ·
  replace c14:=QQ1 c14
  refine Qag (Qab (Qaa (Qac (V:=I6 ((lo+(((hi-lo)/4)*2):Nat):Int)) rfl (Qaa (Qad (V:=I6 ((lo+(((hi-lo)/4)*2):Nat):Int)) rfl (Qaa (Qad (V:=I6 1) rfl (Qae (Qaw ?_)))))))))
  refine ⟨_,QbI (U:=I6 ((lo+(((hi-lo)/4)*2):Nat):Int)) (V:=I6 1) Tryz.results175 rfl rfl,?_⟩
  refine ⟨?_,hs.take 0⟩
  rw [QiY (X:=(lo+((hi-lo)/4)*2,0)) (h:=.increasing) (if_neg (by omega)) (if_pos rfl)];rfl
 replace c14:=QQ2 c14
 refine Qag (Qab (Qaa (QaZ rfl rfl (Qaa (Qad (V:=.bool (decide ((0:Int)=12))) rfl (Qae (Qam (t:=decide ((0:Int)=12)) rfl (fun c15=>?_) (fun c15=>?_))))))))
 ·
  replace c15:=QQ1 c15
  refine Qag (Qab (Qaa (Qac (V:=I6 ((lo+(((hi-lo)/4)*2):Nat):Int)) rfl (Qaa (Qad (V:=I6 ((lo+(((hi-lo)/4)*2):Nat):Int)) rfl (Qaa (Qad (V:=I6 2) rfl (Qae (Qaw ?_)))))))))
  refine ⟨_,QbI (U:=I6 ((lo+(((hi-lo)/4)*2):Nat):Int)) (V:=I6 2) Tryz.results175 rfl rfl,?_⟩
  exfalso;omega
 replace c15:=QQ2 c15
 refine Qag (Qab (Qaa (Qac (V:=I6 ((lo+(((hi-lo)/4)*2):Nat):Int)) rfl (Qaa (Qad (V:=I6 ((lo+(((hi-lo)/4)*2):Nat):Int)) rfl (Qaa (Qad (V:=I6 0) rfl (Qae (Qaw ?_)))))))))
 refine ⟨_,QbI (U:=I6 ((lo+(((hi-lo)/4)*2):Nat):Int)) (V:=I6 0) Tryz.results175 rfl rfl,?_⟩
 exfalso;omega
end Tt
end Go.Proofs
namespace Go.Proofs
open Go Go.Vx Go.RowKit
open Go.Sort (ltInt medianAdjacent order2 partition)
namespace Tt
section
variable {lo hi i s:Nat} {d:Array Int}
theorem Qtq (h:(i:Int)<(hi:Int)) (h2:¬d[i]!<d[i-1]!):Sort.scanSorted ltInt d hi i=Sort.scanSorted ltInt d hi (i+1):=by
 rw [Sort.scanSorted,if_pos]
 simp only [Bool.and_eq_true,decide_eq_true_eq,Bool.not_eq_true',ltInt,decide_eq_false_iff_not];exact ⟨by omega,h2⟩
theorem QvB (h:(decide ((i:Int)<(hi:Int))&&!decide (d[i]!<d[i-1]!))=false):Sort.scanSorted ltInt d hi i=i:=by
 rw [Sort.scanSorted,if_neg]
 intro h2
 simp only [Bool.and_eq_true,decide_eq_true_eq,Bool.not_eq_true',ltInt,decide_eq_false_iff_not] at h2
 simp only [Bool.and_eq_false_iff,decide_eq_false_iff_not,Bool.not_eq_false',decide_eq_true_eq] at h
 rcases h with h|h
 ·exact h (by omega)
 exact h2.2 h
theorem QtV (h:1<=(i:Int)) (h2:d[i]!<d[i-1]!):Sort.shiftDown ltInt i d=Sort.shiftDown ltInt (i-1) (Sort.swp d i (i-1)):=by
 obtain ⟨j,rfl⟩:∃ j,i=j+1:=⟨i-1,by omega⟩
 rw [Nat.add_sub_cancel] at *
 rw [Sort.shiftDown,if_neg (by simp [ltInt,h2])]
theorem Qvs (h2:¬d[i]!<d[i-1]!):Sort.shiftDown ltInt i d=d:=by
 cases i with
 | zero=>rfl
 | succ j=>rw [Nat.add_sub_cancel] at h2;rw [Sort.shiftDown,if_pos (by simpa [ltInt] using h2)]
theorem Qwe (h:¬1<=(i:Int)):Sort.shiftDown ltInt i d=d:=by
 have:i=0:=by omega
 subst this;rfl
theorem QtA (h:(i:Int)<(hi:Int)) (h2:d[i]!<d[i-1]!):Sort.shiftUp ltInt hi i d=Sort.shiftUp ltInt hi (i+1) (Sort.swp d i (i-1)):=by
 rw [Sort.shiftUp,if_pos (by omega),if_neg (by simp [ltInt,h2])]
theorem Qvj (h:(i:Int)<(hi:Int)) (h2:¬d[i]!<d[i-1]!):Sort.shiftUp ltInt hi i d=d:=by
 rw [Sort.shiftUp,if_pos (by omega),if_pos (by simpa [ltInt] using h2)]
theorem Qwi (h:¬(i:Int)<(hi:Int)):Sort.shiftUp ltInt hi i d=d:=by rw [Sort.shiftUp,if_neg (by omega)]
def dnI (lo i:Nat) (d:Array Int):Array Int:=if i-lo ≥ 2 then Sort.shiftDown ltInt (i-1) d else d
def upI (hi i:Nat) (d:Array Int):Array Int:=if hi-i ≥ 2 then Sort.shiftUp ltInt hi (i+1) d else d
theorem Qjv {q i2:Nat} (hq:q<5) (h2:i2=Sort.scanSorted ltInt d hi i):Sort.partialIns ltInt lo hi (5-q) i d=if i2=hi then (d,true) else if hi-lo<50 then (d,false) else Sort.partialIns ltInt lo hi (5-(q+1)) i2 (upI hi i2 (dnI lo i2 (Sort.swp d i2 (i2-1)))):=by
 obtain ⟨s,hs⟩:∃ s,5-q=s+1:=⟨5-q-1,by omega⟩
 rw [hs,show 5-(q+1)=s by omega,h2]
 rfl
end
theorem QrH (w:World) (S:Nat->Prop) (a:Option Addr) (N c:Nat) (d:Array Int) (hsz:d.size=N) (hN:N<=2305843009213693951) (lo hi:Nat) (h1:lo<hi) (h2:hi<=N) (hR:(row (.slice a N c) (d.toList.map (ic .u16)) 32 1).holds w S) (hlt:∀ x,S x->x<w.heap.size):Calls Tryz.prog 177 #[.slice a N c,.int .i64 (lo:Int),.int .i64 (hi:Int)] w (fun e w'=>∃ _u:Unit,e = .returned (.bool (Sort.partialInsertionSort ltInt d lo hi).2)/\Own w S w' [row (.slice a N c) (((Sort.partialInsertionSort ltInt d lo hi).1).toList.map (ic .u16)) 32 1]/\(Sort.partialInsertionSort ltInt d lo hi).1.size=N):=by
 refine Qai (n:=133) Tryz.func177 rfl Tryz.ntmps177 rfl ?_
 have hs:=Own.lent hR hlt
 refine Qag (Qab (Qaa (Qad (V:=.bool false) rfl (Qae (Qag (Qab (Qaa (Qac (V:=I6 (lo:Int)) rfl (Qaa (QaF (a:=(lo:Int)) (b:=1) (c:=((lo+1:Nat):Int)) rfl rfl (Qak (by omega) (by omega)) (Qaa (Qad (V:=I6 ((lo+1:Nat):Int)) rfl (Qae (Qag (Qag (Qab (Qaa (Qad (V:=I6 0) rfl (Qae (Qan (QaD (fun J μ J' w'=>∃ (Jo:Env) (q:Nat) (i:Nat) (d1:Array Int),J'=upd (upd (mix ([6,7,8,9,10]++sq 13 120) Jo J) 8 (I6 (q:Int))) 7 (I6 (i:Int))/\(q<=5)/\(lo+1<=i)/\(i<=hi)/\(d1.size=N)/\(Sort.partialIns ltInt lo hi (5-q) i d1=Sort.partialInsertionSort ltInt d lo hi)/\μ=5-q/\Own w S w' [row (.slice a N c) (d1.toList.map (ic .u16)) 32 1]) ?_ ?_)))))))))))))))))))))
 ·exact ⟨_,_,0,lo+1,d,Qal (Qal (Qap (ds:=([6,7,8,9,10]++sq 13 120)) (Agr.refl _ _)) rfl) rfl,(by omega),(by omega),(by omega),hsz,rfl,rfl,hs⟩
 rintro μ J' w1 ⟨Jo,q,i,d1,rfl,hq,hi0,hi1,hz1,hev,rfl,hs⟩
 refine Qag (Qag (Qab (Qaa (Qac (V:=I6 (q:Int)) rfl (Qaa (Qa2 rfl rfl (Qae (Qam (t:=decide ((q:Int)<5)) rfl (fun c2=>?_) (fun c2=>?_)))))))))
 ·
  replace c2:=QQ1 c2
  refine Qao (Qag (Qan (Qag (Qan (QaD (fun J μ J' w'=>∃ (Jo:Env) (i2:Nat),J'=upd (mix ([7]++sq 17 18) Jo J) 7 (I6 (i2:Int))/\(i<=i2)/\(i2<=hi)/\(Sort.scanSorted ltInt d1 hi i2=Sort.scanSorted ltInt d1 hi i)/\μ=hi-i2/\Own w S w' [row (.slice a N c) (d1.toList.map (ic .u16)) 32 1]) ?_ ?_)))))
  ·exact ⟨_,_,i,Qal (Qap (ds:=([7]++sq 17 18)) (Agr.refl _ _)) rfl,(Nat.le_refl _),hi1,rfl,rfl,hs⟩
  rintro μ J' w3 ⟨Jo,i2,rfl,hi2a,hi2b,hsc,rfl,hs⟩
  refine Qag (Qag (QaH HM [some 17,some 18,some 19,some 20,some 21,some 22,some 23,some 24,some 25,some 26,some 27,some 28,some 29,some 30,some 31,some 32] [] [0,0,3,7,15,15,63,127,15,15,527,1807,3855,8191,16383,32767] [pv (I6 (i2:Int)),pv (I6 (hi:Int)),pv (.bool (decide ((i2:Int)<(hi:Int)))),pv (.bool (decide ((i2:Int)<(hi:Int)))),pg ((decide ((i2:Int)<(hi:Int))) == true) (.slice a N c),pg ((decide ((i2:Int)<(hi:Int))) == true) (I6 (i2:Int)),pg ((decide ((i2:Int)<(hi:Int))) == true) (.pointer (some ⟨bkS (.slice a N c),ofS (.slice a N c)+(i2:Int).toNat*1,none⟩)),pg ((decide ((i2:Int)<(hi:Int))) == true) (I7 (d1[i2]!)),pg ((decide ((i2:Int)<(hi:Int))) == true) (.slice a N c),pg ((decide ((i2:Int)<(hi:Int))) == true) (I6 (i2:Int)),pg ((decide ((i2:Int)<(hi:Int))) == true) (I6 ((i2-1:Nat):Int)),pg ((decide ((i2:Int)<(hi:Int))) == true) (.pointer (some ⟨bkS (.slice a N c),ofS (.slice a N c)+((i2-1:Nat):Int).toNat*1,none⟩)),pg ((decide ((i2:Int)<(hi:Int))) == true) (I7 (d1[i2-1]!)),pg ((decide ((i2:Int)<(hi:Int))) == true) (.bool (decide (d1[i2]!<d1[i2-1]!))),pg ((decide ((i2:Int)<(hi:Int))) == true) (.bool (!decide (d1[i2]!<d1[i2-1]!))),pv (.bool ((decide ((i2:Int)<(hi:Int)))&&(!decide (d1[i2]!<d1[i2-1]!))))] (fun _ _=>_) [15] (by kernel_rfl) hs ⟨?_,?_,?_,?_,?_,?_,?_,?_,?_,?_,?_,?_,?_,?_,?_,?_,trivial⟩ ?_))
  ·exact oa [] fun D J w hs=>Qac (V:=.int .i64 (i2:Int)) rfl (Zz hs)
  ·exact oa [] fun D J w hs=>Qac (V:=.int .i64 (hi:Int)) rfl (Zz hs)
  ·exact oa [0,1] fun D J w hs=>Qa2 rfl rfl (Zz hs)
  ·exact oa [2] fun D J w hs=>Qac (V:=.bool (decide ((i2:Int)<(hi:Int)))) rfl (Zz hs)
  ·refine og [3] fun D J w hG hs=>?_
   have hgd:=QQ1 (eq_of_beq hG)
   exact Qac (V:=.slice a N c) rfl (Zz hs)
  ·refine og [3] fun D J w hG hs=>?_
   have hgd:=QQ1 (eq_of_beq hG)
   exact Qac (V:=.int .i64 (i2:Int)) rfl (Zz hs)
  ·refine oy [3,4,5] [4,5] fun D J w hG hs=>?_
   have hgd:=QQ1 (eq_of_beq hG)
   exact Qax QaN Qar.1 (hs.rd 0 rfl) rfl rfl (by omega) (by simp only [QQ6,QQ9,QQ5,Go.Sort.size_swp];omega) (Zz hs)
  ·refine oy [3,6] [6] fun D J w hG hs=>?_
   have hgd:=QQ1 (eq_of_beq hG)
   exact QaW (j:=0) (V:=.int .u16 (d1[i2]!)) i2 Qar (hs.rd 0 rfl) (Qbo (by omega)) rfl rfl (by omega) (Zz hs)
  ·refine og [3] fun D J w hG hs=>?_
   have hgd:=QQ1 (eq_of_beq hG)
   exact Qac (V:=.slice a N c) rfl (Zz hs)
  ·refine og [3] fun D J w hG hs=>?_
   have hgd:=QQ1 (eq_of_beq hG)
   exact Qac (V:=.int .i64 (i2:Int)) rfl (Zz hs)
  ·refine oy [3,9] [9] fun D J w hG hs=>?_
   have hgd:=QQ1 (eq_of_beq hG)
   exact Qa5 (a:=(i2:Int)) (b:=1) (c:=((i2-1:Nat):Int)) rfl rfl (Qak (by omega) (by omega)) (Zz hs)
  ·refine oy [3,8,10] [8,10] fun D J w hG hs=>?_
   have hgd:=QQ1 (eq_of_beq hG)
   exact Qax QaN Qar.1 (hs.rd 0 rfl) rfl rfl (by omega) (by simp only [QQ6,QQ9,QQ5,Go.Sort.size_swp];omega) (Zz hs)
  ·refine oy [3,11] [11] fun D J w hG hs=>?_
   have hgd:=QQ1 (eq_of_beq hG)
   exact QaW (j:=0) (V:=.int .u16 (d1[i2-1]!)) (i2-1) Qar (hs.rd 0 rfl) (Qbo (by omega)) rfl rfl (by omega) (Zz hs)
  ·refine oy [3,7,12] [7,12] fun D J w hG hs=>?_
   have hgd:=QQ1 (eq_of_beq hG)
   exact Qat (vs:=[.int .u16 (d1[i2]!),.int .u16 (d1[i2-1]!)]) (V:=.bool (decide (d1[i2]!<d1[i2-1]!))) Qdc rfl rfl (Qcr _ (d1[i2]!) (d1[i2-1]!)) hs fun _ hs=>Zz hs
  ·refine oy [3,13] [13] fun D J w hG hs=>?_
   have hgd:=QQ1 (eq_of_beq hG)
   exact Qbz rfl (Zz hs)
  ·exact oa [3,14] fun D J w hs=>Qbn (h':=!decide (d1[i2]!<d1[i2-1]!)) rfl rfl rfl (Zz hs)
  rintro J1 w5 J2 hJ hs
  replace hJ:J2=upd (mix (sq 17 16) J1 _) 32 (.bool ((decide ((i2:Int)<(hi:Int)))&&(!decide (d1[i2]!<d1[i2-1]!)))):=hJ
  subst hJ
  refine Qam (t:=(decide ((i2:Int)<(hi:Int)))&&(!decide (d1[i2]!<d1[i2-1]!))) rfl (fun c6=>?_) (fun c6=>?_)
  ·
   have c6r:=Qcy c6
   replace c6:=Qb3 c6
   replace c6:=QQ1 c6
   replace c6r:=Qby c6r
   replace c6r:=QQ2 c6r
   refine Qao (Qan (Qab (Qaa (Qac (V:=I6 (i2:Int)) rfl (Qaa (QaF (a:=(i2:Int)) (b:=1) (c:=((i2+1:Nat):Int)) rfl rfl (Qak (by omega) (by omega)) (Qaa (Qad (V:=I6 ((i2+1:Nat):Int)) rfl (Qae ?_)))))))))
   refine ⟨_,?_,_,i2+1,Qal (Qap (ds:=([7]++sq 17 18)) (by repeat (first|exact Agr.refl _ _|refine Agr.upd ?_ rfl|refine Agr.mix ?_ rfl))) rfl,(by omega),(by omega),(by rw [← hsc,Qtq c6 c6r]),rfl,hs.take 1⟩
   omega
  refine QaJ (Qag (Qag ?_))
  have hi2e:i2=Sort.scanSorted ltInt d1 hi i:=by rw [← hsc,QvB c6]
  refine Qab (Qaa (Qac (V:=I6 (i2:Int)) rfl (Qaa (Qac (V:=I6 (hi:Int)) rfl (Qaa (QaZ rfl rfl (Qae (Qam (t:=decide ((i2:Int)=(hi:Int))) rfl (fun c7=>?_) (fun c7=>?_)))))))))
  ·
   replace c7:=QQ1 c7
   refine Qag (Qab (Qaa (Qad (V:=.bool true) rfl (Qae (Qaw ?_)))))
   refine ⟨_,Qaq (V:=.bool true) Tryz.results177 rfl,?_⟩
   have hX:Sort.partialInsertionSort ltInt d lo hi=(d1,true):=by rw [← hev,Qjv (q:=q) (by omega) hi2e,if_pos (by omega)]
   rw [hX]
   exact ⟨(),rfl,hs.take 1,hz1⟩
  replace c7:=QQ2 c7
  refine Qao (Qag (Qag (Qab (Qaa (Qac (V:=I6 (hi:Int)) rfl (Qaa (Qac (V:=I6 (lo:Int)) rfl (Qaa (Qa5 (a:=(hi:Int)) (b:=(lo:Int)) (c:=((hi-lo:Nat):Int)) rfl rfl (Qak (by omega) (by omega)) (Qaa (Qa2 rfl rfl (Qae (Qam (t:=decide (((hi-lo:Nat):Int)<50)) rfl (fun c8=>?_) (fun c8=>?_))))))))))))))
  ·
   replace c8:=QQ1 c8
   refine Qag (Qab (Qaa (Qad (V:=.bool false) rfl (Qae (Qaw ?_)))))
   refine ⟨_,Qaq (V:=.bool false) Tryz.results177 rfl,?_⟩
   have hX:Sort.partialInsertionSort ltInt d lo hi=(d1,false):=by rw [← hev,Qjv (q:=q) (by omega) hi2e,if_neg (by omega),if_pos (by omega)]
   rw [hX]
   exact ⟨(),rfl,hs.take 1,hz1⟩
  replace c8:=QQ2 c8
  refine Qao (Qag (QaH HM [some 42,some 43,some 44,some 45,some 46,some 47,some 48,some 49,some 50,some 51,some 52,some 53,some 54,some 55,some 56,none,some 57,none] [] [0,0,0,0,8,0,0,64,224,480,0,0,3072,7168,16355,32739,65535,131071] [pv (.slice a N c),pv (I6 (i2:Int)),pv (.slice a N c),pv (I6 (i2:Int)),pv (I6 ((i2-1:Nat):Int)),pv (.slice a N c),pv (I6 (i2:Int)),pv (I6 ((i2-1:Nat):Int)),pv (.pointer (some ⟨bkS (.slice a N c),ofS (.slice a N c)+((i2-1:Nat):Int).toNat*1,none⟩)),pv (I7 (d1[i2-1]!)),pv (.slice a N c),pv (I6 (i2:Int)),pv (.pointer (some ⟨bkS (.slice a N c),ofS (.slice a N c)+(i2:Int).toNat*1,none⟩)),pv (I7 (d1[i2]!)),pv (.pointer (some ⟨bkS (.slice a N c),ofS (.slice a N c)+(i2:Int).toNat*1,none⟩)),pn,pv (.pointer (some ⟨bkS (.slice a N c),ofS (.slice a N c)+((i2-1:Nat):Int).toNat*1,none⟩)),pn] (fun D J=>[cond (D 17) (row (.slice a N c) ((((d1.setIfInBounds i2 (d1[i2-1]!)).setIfInBounds (i2-1) (d1[i2]!)).toList).map (ic .u16)) 32 1) (cond (D 15) (row (.slice a N c) (((d1.setIfInBounds i2 (d1[i2-1]!)).toList).map (ic .u16)) 32 1) (row (.slice a N c) (d1.toList.map (ic .u16)) 32 1))]) [] (by kernel_rfl) hs ⟨?_,?_,?_,?_,?_,?_,?_,?_,?_,?_,?_,?_,?_,?_,?_,?_,?_,?_,trivial⟩ ?_))
  ·exact oa [] fun D J w hs=>Qac (V:=.slice a N c) rfl (Zz hs)
  ·exact oa [] fun D J w hs=>Qac (V:=.int .i64 (i2:Int)) rfl (Zz hs)
  ·exact oa [] fun D J w hs=>Qac (V:=.slice a N c) rfl (Zz hs)
  ·exact oa [] fun D J w hs=>Qac (V:=.int .i64 (i2:Int)) rfl (Zz hs)
  ·exact oa [3] fun D J w hs=>Qa5 (a:=(i2:Int)) (b:=1) (c:=((i2-1:Nat):Int)) rfl rfl (Qak (by omega) (by omega)) (Zz hs)
  ·exact oa [] fun D J w hs=>Qac (V:=.slice a N c) rfl (Zz hs)
  ·exact oa [] fun D J w hs=>Qac (V:=.int .i64 (i2:Int)) rfl (Zz hs)
  ·exact oa [6] fun D J w hs=>Qa5 (a:=(i2:Int)) (b:=1) (c:=((i2-1:Nat):Int)) rfl rfl (Qak (by omega) (by omega)) (Zz hs)
  ·exact ob [5,7] [15,17] rfl rfl fun D J w hs=>Qax QaN Qar.1 (hs.rd 0 rfl) rfl rfl (by omega) (by simp only [QQ6,QQ9,QQ5,Go.Sort.size_swp];omega) (Zz hs)
  ·exact ob [8] [15,17] rfl rfl fun D J w hs=>QaW (j:=0) (V:=I7 (d1[i2-1]!)) (i2-1) Qar (hs.rd 0 rfl) (Qbo (by omega)) rfl rfl (by omega) (Zz hs)
  ·exact oa [] fun D J w hs=>Qac (V:=.slice a N c) rfl (Zz hs)
  ·exact oa [] fun D J w hs=>Qac (V:=.int .i64 (i2:Int)) rfl (Zz hs)
  ·exact ob [10,11] [15,17] rfl rfl fun D J w hs=>Qax QaN Qar.1 (hs.rd 0 rfl) rfl rfl (by omega) (by simp only [QQ6,QQ9,QQ5,Go.Sort.size_swp];omega) (Zz hs)
  ·exact ob [12] [15,17] rfl rfl fun D J w hs=>QaW (j:=0) (V:=I7 (d1[i2]!)) i2 Qar (hs.rd 0 rfl) (Qbo (by omega)) rfl rfl (by omega) (Zz hs)
  ·exact ob [0,1] [15,17] rfl rfl fun D J w hs=>Qax QaN Qar.1 (hs.rd 0 rfl) rfl rfl (by omega) (by simp only [QQ6,QQ9,QQ5,Go.Sort.size_swp];omega) (Zz hs)
  ·exact ob [9,14] [17] rfl rfl fun D J w hs=>Qch (z:=d1[i2-1]!) i2 Qar hs 0 rfl rfl (by omega) (by first|omega|(simp only [QQ5,Go.Sort.size_swp];omega)) rfl rfl rfl fun _ hs=>⟨trivial,hs⟩
  ·exact ob [2,4,15] [17] rfl rfl fun D J w hs=>Qax QaN Qar.1 (hs.rd 0 rfl) rfl rfl (by omega) (by simp only [QQ6,QQ9,QQ5,Go.Sort.size_swp];omega) (Zz hs)
  ·exact oa [13,15,16] fun D J w hs=>Qch (z:=d1[i2]!) (i2-1) Qar hs 0 rfl rfl (by omega) (by first|omega|(simp only [QQ5,Go.Sort.size_swp];omega)) rfl rfl rfl fun _ hs=>⟨trivial,hs⟩
  rintro J1 w11 J2 hJ hs
  replace hJ:J2=mix (sq 42 16) J1 _:=hJ
  replace hs:Own w S w11 [row (.slice a N c) ((((d1.setIfInBounds i2 (d1[i2-1]!)).setIfInBounds (i2-1) (d1[i2]!)).toList).map (ic .u16)) 32 1]:=hs
  subst hJ
  refine Qag (Qag (Qab (Qaa (Qac (V:=I6 (i2:Int)) rfl (Qaa (Qac (V:=I6 (lo:Int)) rfl (Qaa (Qa5 (a:=(i2:Int)) (b:=(lo:Int)) (c:=((i2-lo:Nat):Int)) rfl rfl (Qak (by omega) (by omega)) (Qaa (QcZ rfl rfl (Qae (QfE (fun J J' w'=>∃ (Jo:Env) (d3:Array Int),J'=mix ([9]++sq 62 33) Jo J/\(d3=dnI lo i2 (Sort.swp d1 i2 (i2-1)))/\(d3.size=N)/\Own w S w' [row (.slice a N c) (d3.toList.map (ic .u16)) 32 1]) ?_ ?_))))))))))))
  ·
   refine Qam (t:=decide (2<=((i2-lo:Nat):Int))) rfl (fun c12=>?_) (fun c12=>?_)
   ·
    replace c12:=QQ1 c12
    refine Qag (Qab (Qaa (Qac (V:=I6 (i2:Int)) rfl (Qaa (Qa5 (a:=(i2:Int)) (b:=1) (c:=((i2-1:Nat):Int)) rfl rfl (Qak (by omega) (by omega)) (Qaa (Qad (V:=I6 ((i2-1:Nat):Int)) rfl (Qae (Qan (QaD (fun J μ J' w'=>∃ (Jo:Env) (j:Nat) (d4:Array Int),J'=upd (mix ([9]++sq 64 31) Jo J) 9 (I6 (j:Int))/\(j<hi)/\(d4.size=N)/\(Sort.shiftDown ltInt j d4=Sort.shiftDown ltInt (i2-1) (Sort.swp d1 i2 (i2-1)))/\μ=2*j/\Own w S w' [row (.slice a N c) (d4.toList.map (ic .u16)) 32 1]) ?_ ?_))))))))))
    ·exact ⟨_,_,i2-1,((d1.setIfInBounds i2 (d1[i2-1]!)).setIfInBounds (i2-1) (d1[i2]!)),Qal (Qap (ds:=([9]++sq 64 31)) (Agr.refl _ _)) rfl,(by omega),(by simp only [QQ5];exact hz1),rfl,rfl,hs⟩
    rintro μ J' w13 ⟨Jo,j,d4,rfl,hj,hz4,hdn,rfl,hs⟩
    refine Qag (Qag (Qab (Qaa (Qac (V:=I6 (j:Int)) rfl (Qaa (QcZ rfl rfl (Qae (Qam (t:=decide (1<=(j:Int))) rfl (fun c14=>?_) (fun c14=>?_)))))))))
    ·
     replace c14:=QQ1 c14
     refine Qao (Qag (Qan (Qag (Qag (QaH HM [some 68,some 69,some 70,some 71,some 72,some 73,some 74,some 75,some 76,some 77,some 78] [] [0,0,3,7,0,0,32,112,240,511,1023] [pv (.slice a N c),pv (I6 (j:Int)),pv (.pointer (some ⟨bkS (.slice a N c),ofS (.slice a N c)+(j:Int).toNat*1,none⟩)),pv (I7 (d4[j]!)),pv (.slice a N c),pv (I6 (j:Int)),pv (I6 ((j-1:Nat):Int)),pv (.pointer (some ⟨bkS (.slice a N c),ofS (.slice a N c)+((j-1:Nat):Int).toNat*1,none⟩)),pv (I7 (d4[j-1]!)),pv (.bool (decide (d4[j]!<d4[j-1]!))),pv (.bool (!decide (d4[j]!<d4[j-1]!)))] (fun _ _=>_) [10] (by kernel_rfl) hs ⟨?_,?_,?_,?_,?_,?_,?_,?_,?_,?_,?_,trivial⟩ ?_)))))
     ·exact oa [] fun D J w hs=>Qac (V:=.slice a N c) rfl (Zz hs)
     ·exact oa [] fun D J w hs=>Qac (V:=.int .i64 (j:Int)) rfl (Zz hs)
     ·exact oa [0,1] fun D J w hs=>Qax QaN Qar.1 (hs.rd 0 rfl) rfl rfl (by omega) (by simp only [QQ6,QQ9,QQ5,Go.Sort.size_swp];omega) (Zz hs)
     ·exact oa [2] fun D J w hs=>QaW (j:=0) (V:=.int .u16 (d4[j]!)) j Qar (hs.rd 0 rfl) (Qbo (by omega)) rfl rfl (by omega) (Zz hs)
     ·exact oa [] fun D J w hs=>Qac (V:=.slice a N c) rfl (Zz hs)
     ·exact oa [] fun D J w hs=>Qac (V:=.int .i64 (j:Int)) rfl (Zz hs)
     ·exact oa [5] fun D J w hs=>Qa5 (a:=(j:Int)) (b:=1) (c:=((j-1:Nat):Int)) rfl rfl (Qak (by omega) (by omega)) (Zz hs)
     ·exact oa [4,6] fun D J w hs=>Qax QaN Qar.1 (hs.rd 0 rfl) rfl rfl (by omega) (by simp only [QQ6,QQ9,QQ5,Go.Sort.size_swp];omega) (Zz hs)
     ·exact oa [7] fun D J w hs=>QaW (j:=0) (V:=.int .u16 (d4[j-1]!)) (j-1) Qar (hs.rd 0 rfl) (Qbo (by omega)) rfl rfl (by omega) (Zz hs)
     ·exact oa [3,8] fun D J w hs=>Qat (vs:=[.int .u16 (d4[j]!),.int .u16 (d4[j-1]!)]) (V:=.bool (decide (d4[j]!<d4[j-1]!))) Qdc rfl rfl (Qcr _ (d4[j]!) (d4[j-1]!)) hs fun _ hs=>Zz hs
     ·exact oa [9] fun D J w hs=>Qbz rfl (Zz hs)
     rintro J1 w16 J2 hJ hs
     replace hJ:J2=upd (mix (sq 68 11) J1 _) 78 (.bool (!decide (d4[j]!<d4[j-1]!))):=hJ
     subst hJ
     refine Qam (t:=!decide (d4[j]!<d4[j-1]!)) rfl (fun c17=>?_) (fun c17=>?_)
     ·
      replace c17:=Qby c17
      replace c17:=QQ2 c17
      refine QaJ ?_
      exact ⟨_,d4,Qap (ds:=([9]++sq 62 33)) (by repeat (first|exact Agr.refl _ _|refine Agr.upd ?_ rfl|refine Agr.mix ?_ rfl)),(by unfold dnI;rw [if_pos (by omega),← hdn,Qvs c17]),hz4,hs.take 1⟩
     replace c17:=Qbu c17
     replace c17:=QQ1 c17
     refine Qao (QaH HM [some 79,some 80,some 81,some 82,some 83,some 84,some 85,some 86,some 87,some 88,some 89,some 90,some 91,some 92,some 93,none,some 94,none] [] [0,0,0,0,8,0,0,64,224,480,0,0,3072,7168,16355,32739,65535,131071] [pv (.slice a N c),pv (I6 (j:Int)),pv (.slice a N c),pv (I6 (j:Int)),pv (I6 ((j-1:Nat):Int)),pv (.slice a N c),pv (I6 (j:Int)),pv (I6 ((j-1:Nat):Int)),pv (.pointer (some ⟨bkS (.slice a N c),ofS (.slice a N c)+((j-1:Nat):Int).toNat*1,none⟩)),pv (I7 (d4[j-1]!)),pv (.slice a N c),pv (I6 (j:Int)),pv (.pointer (some ⟨bkS (.slice a N c),ofS (.slice a N c)+(j:Int).toNat*1,none⟩)),pv (I7 (d4[j]!)),pv (.pointer (some ⟨bkS (.slice a N c),ofS (.slice a N c)+(j:Int).toNat*1,none⟩)),pn,pv (.pointer (some ⟨bkS (.slice a N c),ofS (.slice a N c)+((j-1:Nat):Int).toNat*1,none⟩)),pn] (fun D J=>[cond (D 17) (row (.slice a N c) ((((d4.setIfInBounds j (d4[j-1]!)).setIfInBounds (j-1) (d4[j]!)).toList).map (ic .u16)) 32 1) (cond (D 15) (row (.slice a N c) (((d4.setIfInBounds j (d4[j-1]!)).toList).map (ic .u16)) 32 1) (row (.slice a N c) (d4.toList.map (ic .u16)) 32 1))]) [] (by kernel_rfl) hs ⟨?_,?_,?_,?_,?_,?_,?_,?_,?_,?_,?_,?_,?_,?_,?_,?_,?_,?_,trivial⟩ ?_)
     ·exact oa [] fun D J w hs=>Qac (V:=.slice a N c) rfl (Zz hs)
     ·exact oa [] fun D J w hs=>Qac (V:=.int .i64 (j:Int)) rfl (Zz hs)
     ·exact oa [] fun D J w hs=>Qac (V:=.slice a N c) rfl (Zz hs)
     ·exact oa [] fun D J w hs=>Qac (V:=.int .i64 (j:Int)) rfl (Zz hs)
     ·exact oa [3] fun D J w hs=>Qa5 (a:=(j:Int)) (b:=1) (c:=((j-1:Nat):Int)) rfl rfl (Qak (by omega) (by omega)) (Zz hs)
     ·exact oa [] fun D J w hs=>Qac (V:=.slice a N c) rfl (Zz hs)
     ·exact oa [] fun D J w hs=>Qac (V:=.int .i64 (j:Int)) rfl (Zz hs)
     ·exact oa [6] fun D J w hs=>Qa5 (a:=(j:Int)) (b:=1) (c:=((j-1:Nat):Int)) rfl rfl (Qak (by omega) (by omega)) (Zz hs)
     ·exact ob [5,7] [15,17] rfl rfl fun D J w hs=>Qax QaN Qar.1 (hs.rd 0 rfl) rfl rfl (by omega) (by simp only [QQ6,QQ9,QQ5,Go.Sort.size_swp];omega) (Zz hs)
     ·exact ob [8] [15,17] rfl rfl fun D J w hs=>QaW (j:=0) (V:=I7 (d4[j-1]!)) (j-1) Qar (hs.rd 0 rfl) (Qbo (by omega)) rfl rfl (by omega) (Zz hs)
     ·exact oa [] fun D J w hs=>Qac (V:=.slice a N c) rfl (Zz hs)
     ·exact oa [] fun D J w hs=>Qac (V:=.int .i64 (j:Int)) rfl (Zz hs)
     ·exact ob [10,11] [15,17] rfl rfl fun D J w hs=>Qax QaN Qar.1 (hs.rd 0 rfl) rfl rfl (by omega) (by simp only [QQ6,QQ9,QQ5,Go.Sort.size_swp];omega) (Zz hs)
     ·exact ob [12] [15,17] rfl rfl fun D J w hs=>QaW (j:=0) (V:=I7 (d4[j]!)) j Qar (hs.rd 0 rfl) (Qbo (by omega)) rfl rfl (by omega) (Zz hs)
     ·exact ob [0,1] [15,17] rfl rfl fun D J w hs=>Qax QaN Qar.1 (hs.rd 0 rfl) rfl rfl (by omega) (by simp only [QQ6,QQ9,QQ5,Go.Sort.size_swp];omega) (Zz hs)
     ·exact ob [9,14] [17] rfl rfl fun D J w hs=>Qch (z:=d4[j-1]!) j Qar hs 0 rfl rfl (by omega) (by first|omega|(simp only [QQ5,Go.Sort.size_swp];omega)) rfl rfl rfl fun _ hs=>⟨trivial,hs⟩
     ·exact ob [2,4,15] [17] rfl rfl fun D J w hs=>Qax QaN Qar.1 (hs.rd 0 rfl) rfl rfl (by omega) (by simp only [QQ6,QQ9,QQ5,Go.Sort.size_swp];omega) (Zz hs)
     ·exact oa [13,15,16] fun D J w hs=>Qch (z:=d4[j]!) (j-1) Qar hs 0 rfl rfl (by omega) (by first|omega|(simp only [QQ5,Go.Sort.size_swp];omega)) rfl rfl rfl fun _ hs=>⟨trivial,hs⟩
     rintro J1 w20 J2 hJ hs
     replace hJ:J2=mix (sq 79 16) J1 _:=hJ
     replace hs:Own w S w20 [row (.slice a N c) ((((d4.setIfInBounds j (d4[j-1]!)).setIfInBounds (j-1) (d4[j]!)).toList).map (ic .u16)) 32 1]:=hs
     subst hJ
     refine Qab (Qaa (Qac (V:=I6 (j:Int)) rfl (Qaa (Qa5 (a:=(j:Int)) (b:=1) (c:=((j-1:Nat):Int)) rfl rfl (Qak (by omega) (by omega)) (Qaa (Qad (V:=I6 ((j-1:Nat):Int)) rfl (Qae ?_)))))))
     refine ⟨_,?_,_,j-1,((d4.setIfInBounds j (d4[j-1]!)).setIfInBounds (j-1) (d4[j]!)),Qal (Qap (ds:=([9]++sq 64 31)) (by repeat (first|exact Agr.refl _ _|refine Agr.upd ?_ rfl|refine Agr.mix ?_ rfl))) rfl,(by omega),(by simp only [QQ5];exact hz4),(by rw [← hdn,QtV c14 c17];rfl),rfl,hs.take 1⟩
     omega
    replace c14:=QQ2 c14
    refine QaJ ?_
    exact ⟨_,d4,Qap (ds:=([9]++sq 62 33)) (by repeat (first|exact Agr.refl _ _|refine Agr.upd ?_ rfl|refine Agr.mix ?_ rfl)),(by unfold dnI;rw [if_pos (by omega),← hdn,Qwe c14]),hz4,hs.take 1⟩
   replace c12:=QQ2 c12
   refine Qao ?_
   exact ⟨_,((d1.setIfInBounds i2 (d1[i2-1]!)).setIfInBounds (i2-1) (d1[i2]!)),Qap (ds:=([9]++sq 62 33)) (by repeat (first|exact Agr.refl _ _|refine Agr.upd ?_ rfl|refine Agr.mix ?_ rfl)),(by unfold dnI;rw [if_neg (by omega)];rfl),(by simp only [QQ5];exact hz1),hs.take 1⟩
  rintro J' w21 ⟨Jo,d3,rfl,hd3,hz3,hs⟩
  refine Qag (Qab (Qaa (Qac (V:=I6 (hi:Int)) rfl (Qaa (Qac (V:=I6 (i2:Int)) rfl (Qaa (Qa5 (a:=(hi:Int)) (b:=(i2:Int)) (c:=((hi-i2:Nat):Int)) rfl rfl (Qak (by omega) (by omega)) (Qaa (QcZ rfl rfl (Qae (QfE (fun J J' w'=>∃ (Jo:Env) (d5:Array Int),J'=mix ([10]++sq 99 34) Jo J/\(d5=upI hi i2 d3)/\(d5.size=N)/\Own w S w' [row (.slice a N c) (d5.toList.map (ic .u16)) 32 1]) ?_ ?_)))))))))))
  ·
   refine Qam (t:=decide (2<=((hi-i2:Nat):Int))) rfl (fun c22=>?_) (fun c22=>?_)
   ·
    replace c22:=QQ1 c22
    refine Qag (Qab (Qaa (Qac (V:=I6 (i2:Int)) rfl (Qaa (QaF (a:=(i2:Int)) (b:=1) (c:=((i2+1:Nat):Int)) rfl rfl (Qak (by omega) (by omega)) (Qaa (Qad (V:=I6 ((i2+1:Nat):Int)) rfl (Qae (Qan (QaD (fun J μ J' w'=>∃ (Jo:Env) (p:Nat) (d6:Array Int),J'=upd (mix ([10]++sq 101 32) Jo J) 10 (I6 (p:Int))/\(i2<p/\p<=hi)/\(d6.size=N)/\(Sort.shiftUp ltInt hi p d6=Sort.shiftUp ltInt hi (i2+1) d3)/\μ=hi-p/\Own w S w' [row (.slice a N c) (d6.toList.map (ic .u16)) 32 1]) ?_ ?_))))))))))
    ·exact ⟨_,_,i2+1,d3,Qal (Qap (ds:=([10]++sq 101 32)) (Agr.refl _ _)) rfl,(by omega),hz3,rfl,rfl,hs⟩
    rintro μ J' w23 ⟨Jo,p,d6,rfl,hp,hz6,hup,rfl,hs⟩
    refine Qag (Qag (Qab (Qaa (Qac (V:=I6 (p:Int)) rfl (Qaa (Qac (V:=I6 (hi:Int)) rfl (Qaa (Qa2 rfl rfl (Qae (Qam (t:=decide ((p:Int)<(hi:Int))) rfl (fun c24=>?_) (fun c24=>?_)))))))))))
    ·
     replace c24:=QQ1 c24
     refine Qao (Qag (Qan (Qag (Qag (QaH HM [some 106,some 107,some 108,some 109,some 110,some 111,some 112,some 113,some 114,some 115,some 116] [] [0,0,3,7,0,0,32,112,240,511,1023] [pv (.slice a N c),pv (I6 (p:Int)),pv (.pointer (some ⟨bkS (.slice a N c),ofS (.slice a N c)+(p:Int).toNat*1,none⟩)),pv (I7 (d6[p]!)),pv (.slice a N c),pv (I6 (p:Int)),pv (I6 ((p-1:Nat):Int)),pv (.pointer (some ⟨bkS (.slice a N c),ofS (.slice a N c)+((p-1:Nat):Int).toNat*1,none⟩)),pv (I7 (d6[p-1]!)),pv (.bool (decide (d6[p]!<d6[p-1]!))),pv (.bool (!decide (d6[p]!<d6[p-1]!)))] (fun _ _=>_) [10] (by kernel_rfl) hs ⟨?_,?_,?_,?_,?_,?_,?_,?_,?_,?_,?_,trivial⟩ ?_)))))
     ·exact oa [] fun D J w hs=>Qac (V:=.slice a N c) rfl (Zz hs)
     ·exact oa [] fun D J w hs=>Qac (V:=.int .i64 (p:Int)) rfl (Zz hs)
     ·exact oa [0,1] fun D J w hs=>Qax QaN Qar.1 (hs.rd 0 rfl) rfl rfl (by omega) (by simp only [QQ6,QQ9,QQ5,Go.Sort.size_swp];omega) (Zz hs)
     ·exact oa [2] fun D J w hs=>QaW (j:=0) (V:=.int .u16 (d6[p]!)) p Qar (hs.rd 0 rfl) (Qbo (by omega)) rfl rfl (by omega) (Zz hs)
     ·exact oa [] fun D J w hs=>Qac (V:=.slice a N c) rfl (Zz hs)
     ·exact oa [] fun D J w hs=>Qac (V:=.int .i64 (p:Int)) rfl (Zz hs)
     ·exact oa [5] fun D J w hs=>Qa5 (a:=(p:Int)) (b:=1) (c:=((p-1:Nat):Int)) rfl rfl (Qak (by omega) (by omega)) (Zz hs)
     ·exact oa [4,6] fun D J w hs=>Qax QaN Qar.1 (hs.rd 0 rfl) rfl rfl (by omega) (by simp only [QQ6,QQ9,QQ5,Go.Sort.size_swp];omega) (Zz hs)
     ·exact oa [7] fun D J w hs=>QaW (j:=0) (V:=.int .u16 (d6[p-1]!)) (p-1) Qar (hs.rd 0 rfl) (Qbo (by omega)) rfl rfl (by omega) (Zz hs)
     ·exact oa [3,8] fun D J w hs=>Qat (vs:=[.int .u16 (d6[p]!),.int .u16 (d6[p-1]!)]) (V:=.bool (decide (d6[p]!<d6[p-1]!))) Qdc rfl rfl (Qcr _ (d6[p]!) (d6[p-1]!)) hs fun _ hs=>Zz hs
     ·exact oa [9] fun D J w hs=>Qbz rfl (Zz hs)
     rintro J1 w26 J2 hJ hs
     replace hJ:J2=upd (mix (sq 106 11) J1 _) 116 (.bool (!decide (d6[p]!<d6[p-1]!))):=hJ
     subst hJ
     refine Qam (t:=!decide (d6[p]!<d6[p-1]!)) rfl (fun c27=>?_) (fun c27=>?_)
     ·
      replace c27:=Qby c27
      replace c27:=QQ2 c27
      refine QaJ ?_
      exact ⟨_,d6,Qap (ds:=([10]++sq 99 34)) (by repeat (first|exact Agr.refl _ _|refine Agr.upd ?_ rfl|refine Agr.mix ?_ rfl)),(by unfold upI;rw [if_pos (by omega),← hup,Qvj c24 c27]),hz6,hs.take 1⟩
     replace c27:=Qbu c27
     replace c27:=QQ1 c27
     refine Qao (QaH HM [some 117,some 118,some 119,some 120,some 121,some 122,some 123,some 124,some 125,some 126,some 127,some 128,some 129,some 130,some 131,none,some 132,none] [] [0,0,0,0,8,0,0,64,224,480,0,0,3072,7168,16355,32739,65535,131071] [pv (.slice a N c),pv (I6 (p:Int)),pv (.slice a N c),pv (I6 (p:Int)),pv (I6 ((p-1:Nat):Int)),pv (.slice a N c),pv (I6 (p:Int)),pv (I6 ((p-1:Nat):Int)),pv (.pointer (some ⟨bkS (.slice a N c),ofS (.slice a N c)+((p-1:Nat):Int).toNat*1,none⟩)),pv (I7 (d6[p-1]!)),pv (.slice a N c),pv (I6 (p:Int)),pv (.pointer (some ⟨bkS (.slice a N c),ofS (.slice a N c)+(p:Int).toNat*1,none⟩)),pv (I7 (d6[p]!)),pv (.pointer (some ⟨bkS (.slice a N c),ofS (.slice a N c)+(p:Int).toNat*1,none⟩)),pn,pv (.pointer (some ⟨bkS (.slice a N c),ofS (.slice a N c)+((p-1:Nat):Int).toNat*1,none⟩)),pn] (fun D J=>[cond (D 17) (row (.slice a N c) ((((d6.setIfInBounds p (d6[p-1]!)).setIfInBounds (p-1) (d6[p]!)).toList).map (ic .u16)) 32 1) (cond (D 15) (row (.slice a N c) (((d6.setIfInBounds p (d6[p-1]!)).toList).map (ic .u16)) 32 1) (row (.slice a N c) (d6.toList.map (ic .u16)) 32 1))]) [] (by kernel_rfl) hs ⟨?_,?_,?_,?_,?_,?_,?_,?_,?_,?_,?_,?_,?_,?_,?_,?_,?_,?_,trivial⟩ ?_)
     ·exact oa [] fun D J w hs=>Qac (V:=.slice a N c) rfl (Zz hs)
     ·exact oa [] fun D J w hs=>Qac (V:=.int .i64 (p:Int)) rfl (Zz hs)
     ·exact oa [] fun D J w hs=>Qac (V:=.slice a N c) rfl (Zz hs)
     ·exact oa [] fun D J w hs=>Qac (V:=.int .i64 (p:Int)) rfl (Zz hs)
     ·exact oa [3] fun D J w hs=>Qa5 (a:=(p:Int)) (b:=1) (c:=((p-1:Nat):Int)) rfl rfl (Qak (by omega) (by omega)) (Zz hs)
     ·exact oa [] fun D J w hs=>Qac (V:=.slice a N c) rfl (Zz hs)
     ·exact oa [] fun D J w hs=>Qac (V:=.int .i64 (p:Int)) rfl (Zz hs)
     ·exact oa [6] fun D J w hs=>Qa5 (a:=(p:Int)) (b:=1) (c:=((p-1:Nat):Int)) rfl rfl (Qak (by omega) (by omega)) (Zz hs)
     ·exact ob [5,7] [15,17] rfl rfl fun D J w hs=>Qax QaN Qar.1 (hs.rd 0 rfl) rfl rfl (by omega) (by simp only [QQ6,QQ9,QQ5,Go.Sort.size_swp];omega) (Zz hs)
     ·exact ob [8] [15,17] rfl rfl fun D J w hs=>QaW (j:=0) (V:=I7 (d6[p-1]!)) (p-1) Qar (hs.rd 0 rfl) (Qbo (by omega)) rfl rfl (by omega) (Zz hs)
     ·exact oa [] fun D J w hs=>Qac (V:=.slice a N c) rfl (Zz hs)
     ·exact oa [] fun D J w hs=>Qac (V:=.int .i64 (p:Int)) rfl (Zz hs)
     ·exact ob [10,11] [15,17] rfl rfl fun D J w hs=>Qax QaN Qar.1 (hs.rd 0 rfl) rfl rfl (by omega) (by simp only [QQ6,QQ9,QQ5,Go.Sort.size_swp];omega) (Zz hs)
     ·exact ob [12] [15,17] rfl rfl fun D J w hs=>QaW (j:=0) (V:=I7 (d6[p]!)) p Qar (hs.rd 0 rfl) (Qbo (by omega)) rfl rfl (by omega) (Zz hs)
     ·exact ob [0,1] [15,17] rfl rfl fun D J w hs=>Qax QaN Qar.1 (hs.rd 0 rfl) rfl rfl (by omega) (by simp only [QQ6,QQ9,QQ5,Go.Sort.size_swp];omega) (Zz hs)
     ·exact ob [9,14] [17] rfl rfl fun D J w hs=>Qch (z:=d6[p-1]!) p Qar hs 0 rfl rfl (by omega) (by first|omega|(simp only [QQ5,Go.Sort.size_swp];omega)) rfl rfl rfl fun _ hs=>⟨trivial,hs⟩
     ·exact ob [2,4,15] [17] rfl rfl fun D J w hs=>Qax QaN Qar.1 (hs.rd 0 rfl) rfl rfl (by omega) (by simp only [QQ6,QQ9,QQ5,Go.Sort.size_swp];omega) (Zz hs)
     ·exact oa [13,15,16] fun D J w hs=>Qch (z:=d6[p]!) (p-1) Qar hs 0 rfl rfl (by omega) (by first|omega|(simp only [QQ5,Go.Sort.size_swp];omega)) rfl rfl rfl fun _ hs=>⟨trivial,hs⟩
     rintro J1 w30 J2 hJ hs
     replace hJ:J2=mix (sq 117 16) J1 _:=hJ
     replace hs:Own w S w30 [row (.slice a N c) ((((d6.setIfInBounds p (d6[p-1]!)).setIfInBounds (p-1) (d6[p]!)).toList).map (ic .u16)) 32 1]:=hs
     subst hJ
     refine Qab (Qaa (Qac (V:=I6 (p:Int)) rfl (Qaa (QaF (a:=(p:Int)) (b:=1) (c:=((p+1:Nat):Int)) rfl rfl (Qak (by omega) (by omega)) (Qaa (Qad (V:=I6 ((p+1:Nat):Int)) rfl (Qae ?_)))))))
     refine ⟨_,?_,_,p+1,((d6.setIfInBounds p (d6[p-1]!)).setIfInBounds (p-1) (d6[p]!)),Qal (Qap (ds:=([10]++sq 101 32)) (by repeat (first|exact Agr.refl _ _|refine Agr.upd ?_ rfl|refine Agr.mix ?_ rfl))) rfl,(by omega),(by simp only [QQ5];exact hz6),(by rw [← hup,QtA c24 c27];rfl),rfl,hs.take 1⟩
     omega
    replace c24:=QQ2 c24
    refine QaJ ?_
    exact ⟨_,d6,Qap (ds:=([10]++sq 99 34)) (by repeat (first|exact Agr.refl _ _|refine Agr.upd ?_ rfl|refine Agr.mix ?_ rfl)),(by unfold upI;rw [if_pos (by omega),← hup,Qwi c24]),hz6,hs.take 1⟩
   replace c22:=QQ2 c22
   refine Qao ?_
   exact ⟨_,d3,Qap (ds:=([10]++sq 99 34)) (by repeat (first|exact Agr.refl _ _|refine Agr.upd ?_ rfl|refine Agr.mix ?_ rfl)),(by unfold upI;rw [if_neg (by omega)]),hz3,hs.take 1⟩
  rintro J' w31 ⟨Jo,d5,rfl,hd5,hz5,hs⟩
  refine Qab (Qaa (Qac (V:=I6 (q:Int)) rfl (Qaa (QaF (a:=(q:Int)) (b:=1) (c:=((q+1:Nat):Int)) rfl rfl (Qak (by omega) (by omega)) (Qaa (Qad (V:=I6 ((q+1:Nat):Int)) rfl (Qae ?_)))))))
  refine ⟨_,?_,_,q+1,i2,d5,Qal (Qal (Qap (ds:=([6,7,8,9,10]++sq 13 120)) (by repeat (first|exact Agr.refl _ _|refine Agr.upd ?_ rfl|refine Agr.mix ?_ rfl))) rfl) rfl,(by omega),(by omega),(by omega),hz5,(by rw [← hev,Qjv (q:=q) (by omega) hi2e,if_neg (by omega),if_neg (by omega),hd5,hd3]),rfl,hs.take 1⟩
  omega
 replace c2:=QQ2 c2
 refine QaJ (Qag (Qab (Qaa (Qad (V:=.bool false) rfl (Qae (Qaw ?_))))))
 refine ⟨_,Qaq (V:=.bool false) Tryz.results177 rfl,?_⟩
 have hq5:q=5:=by omega
 subst hq5
 have hX:Sort.partialInsertionSort ltInt d lo hi=(d1,false):=hev.symm
 rw [hX]
 exact ⟨(),rfl,hs.take 1,hz1⟩
end Tt
end Go.Proofs
namespace Go.Proofs
open Go Go.Vx Go.RowKit
open Go.Sort (ltInt medianAdjacent order2 partition)
namespace Tt
section
variable {p:Int->Bool} {b:Bool} {i j:Nat} {d:Array Int}
theorem QlO (hb:b=p d[i]!) (h:(i:Int)<=(j:Int)) (h2:b=true):Sort.scanUp p d j i=Sort.scanUp p d j (i+1):=by
 rw [Sort.scanUp,if_pos]
 rw [← hb,h2,Bool.and_true];exact QQ3 (by omega)
theorem QrT (hb:b=p d[i]!) (h:(decide ((i:Int)<=(j:Int))&&b)=false):Sort.scanUp p d j i=i:=by
 rw [Sort.scanUp,if_neg]
 rw [← hb]
 intro h2
 rw [Bool.and_eq_true,decide_eq_true_iff] at h2
 rw [h2.2,Bool.and_true,decide_eq_false_iff_not] at h
 exact h (by omega)
theorem QnF (h0:1<=j) (hb:b=p d[j]!) (h:(i:Int)<=(j:Int)) (h2:b=true):Sort.scanDown p d i j=Sort.scanDown p d i (j-1):=by
 obtain ⟨k,rfl⟩:∃ k,j=k+1:=⟨j-1,by omega⟩
 rw [Sort.scanDown,if_pos]
 ·rfl
 rw [← hb,h2,Bool.and_true];exact QQ3 (by omega)
theorem Qr1 (hb:b=p d[j]!) (h:(decide ((i:Int)<=(j:Int))&&b)=false):Sort.scanDown p d i j=j:=by
 cases j with
 | zero=>rfl
 | succ k =>
  rw [Sort.scanDown,if_neg]
  rw [← hb]
  intro h2
  rw [Bool.and_eq_true,decide_eq_true_iff] at h2
  rw [h2.2,Bool.and_true,decide_eq_false_iff_not] at h
  exact h (by omega)
theorem QrK {lo i2 j2:Nat} (hi:i2=Sort.scanUp (fun x=>!ltInt d[lo]! x) d j i) (hj:j2=Sort.scanDown (fun x=>ltInt d[lo]! x) d i2 j) (h:(j2:Int)<(i2:Int)):Sort.partEqLoop ltInt lo i j d=(i2,d):=by
 rw [Sort.partEqLoop_eq,← hi,← hj,if_pos (by omega)]
theorem QvQ {lo i2 j2:Nat} (hi:i2=Sort.scanUp (fun x=>!ltInt d[lo]! x) d j i) (hj:j2=Sort.scanDown (fun x=>ltInt d[lo]! x) d i2 j) (h:¬(j2:Int)<(i2:Int)):Sort.partEqLoop ltInt lo i j d=Sort.partEqLoop ltInt lo (i2+1) (j2-1) (Sort.swp d i2 j2):=by
 rw [Sort.partEqLoop_eq,← hi,← hj,if_neg (by omega)]
theorem Qsd {lo i2 j2:Nat} (hi:i2=Sort.scanUp (fun x=>ltInt x d[lo]!) d j i) (hj:j2=Sort.scanDown (fun x=>!ltInt x d[lo]!) d i2 j) (h:(j2:Int)<(i2:Int)):Sort.partLoop ltInt lo i j d=(j2,d):=by
 rw [Sort.partLoop_eq,← hi,← hj,if_pos (by omega)]
theorem QvF {lo i2 j2:Nat} (hi:i2=Sort.scanUp (fun x=>ltInt x d[lo]!) d j i) (hj:j2=Sort.scanDown (fun x=>!ltInt x d[lo]!) d i2 j) (h:¬(j2:Int)<(i2:Int)):Sort.partLoop ltInt lo i j d=Sort.partLoop ltInt lo (i2+1) (j2-1) (Sort.swp d i2 j2):=by
 rw [Sort.partLoop_eq,← hi,← hj,if_neg (by omega)]
theorem Qsl {lo hi pvx i2 j2:Nat} {D:Array Int} (hD:D=Sort.swp d lo pvx) (h1:i2=Sort.scanUp (fun x=>ltInt x D[lo]!) D (hi-1) (lo+1)) (h2:j2=Sort.scanDown (fun x=>!ltInt x D[lo]!) D i2 (hi-1)) (h:(j2:Int)<(i2:Int)):partition ltInt d lo hi pvx=(j2,true,Sort.swp D j2 lo):=by
 subst hD;unfold partition;dsimp only;rw [← h1,← h2,if_pos (by omega)]
theorem QvE {lo hi pvx i2 j2:Nat} {D:Array Int} (hD:D=Sort.swp d lo pvx) (h1:i2=Sort.scanUp (fun x=>ltInt x D[lo]!) D (hi-1) (lo+1)) (h2:j2=Sort.scanDown (fun x=>!ltInt x D[lo]!) D i2 (hi-1)) (h:¬(j2:Int)<(i2:Int)):partition ltInt d lo hi pvx=((Sort.partLoop ltInt lo (i2+1) (j2-1) (Sort.swp D i2 j2)).1,false,Sort.swp (Sort.partLoop ltInt lo (i2+1) (j2-1) (Sort.swp D i2 j2)).2 (Sort.partLoop ltInt lo (i2+1) (j2-1) (Sort.swp D i2 j2)).1 lo):=by
 subst hD;unfold partition;dsimp only;rw [← h1,← h2,if_neg (by omega)]
end
theorem Qv1 (w:World) (S:Nat->Prop) (a:Option Addr) (N c:Nat) (d:Array Int) (hsz:d.size=N) (hN:N<=2305843009213693951) (lo hi pvx:Nat) (h1:lo<=pvx) (h2:pvx<hi) (h3:hi<=N) (hR:(row (.slice a N c) (d.toList.map (ic .u16)) 32 1).holds w S) (hlt:∀ x,S x->x<w.heap.size):Calls Tryz.prog 179 #[.slice a N c,.int .i64 (lo:Int),.int .i64 (hi:Int),.int .i64 (pvx:Int)] w (fun e w'=>∃ _u:Unit,e = .returned (.int .i64 (((Sort.partitionEqual ltInt d lo hi pvx).1:Nat):Int))/\Own w S w' [row (.slice a N c) (((Sort.partitionEqual ltInt d lo hi pvx).2).toList.map (ic .u16)) 32 1]/\(Sort.partitionEqual ltInt d lo hi pvx).2.size=N):=by
 refine Qai (n:=84) Tryz.func179 rfl Tryz.ntmps179 rfl ?_
 have hs:=Own.lent hR hlt
 refine Qag (Qab (Qaa (Qad (V:=I6 0) rfl (Qae (Qag (QaH HM [some 11,some 12,some 13,some 14,some 15,some 16,some 17,some 18,some 19,some 20,some 21,some 22,some 23,none,some 24,none] [] [0,0,0,0,0,0,48,112,0,0,768,1792,4083,8179,16383,32767] [pv (.slice a N c),pv (I6 (lo:Int)),pv (.slice a N c),pv (I6 (pvx:Int)),pv (.slice a N c),pv (I6 (pvx:Int)),pv (.pointer (some ⟨bkS (.slice a N c),ofS (.slice a N c)+(pvx:Int).toNat*1,none⟩)),pv (I7 (d[pvx]!)),pv (.slice a N c),pv (I6 (lo:Int)),pv (.pointer (some ⟨bkS (.slice a N c),ofS (.slice a N c)+(lo:Int).toNat*1,none⟩)),pv (I7 (d[lo]!)),pv (.pointer (some ⟨bkS (.slice a N c),ofS (.slice a N c)+(lo:Int).toNat*1,none⟩)),pn,pv (.pointer (some ⟨bkS (.slice a N c),ofS (.slice a N c)+(pvx:Int).toNat*1,none⟩)),pn] (fun D J=>[cond (D 15) (row (.slice a N c) ((((d.setIfInBounds lo (d[pvx]!)).setIfInBounds pvx (d[lo]!)).toList).map (ic .u16)) 32 1) (cond (D 13) (row (.slice a N c) (((d.setIfInBounds lo (d[pvx]!)).toList).map (ic .u16)) 32 1) (row (.slice a N c) (d.toList.map (ic .u16)) 32 1))]) [] (by kernel_rfl) hs ⟨?_,?_,?_,?_,?_,?_,?_,?_,?_,?_,?_,?_,?_,?_,?_,?_,trivial⟩ ?_))))))
 ·exact oa [] fun D J w hs=>Qac (V:=.slice a N c) rfl (Zz hs)
 ·exact oa [] fun D J w hs=>Qac (V:=.int .i64 (lo:Int)) rfl (Zz hs)
 ·exact oa [] fun D J w hs=>Qac (V:=.slice a N c) rfl (Zz hs)
 ·exact oa [] fun D J w hs=>Qac (V:=.int .i64 (pvx:Int)) rfl (Zz hs)
 ·exact oa [] fun D J w hs=>Qac (V:=.slice a N c) rfl (Zz hs)
 ·exact oa [] fun D J w hs=>Qac (V:=.int .i64 (pvx:Int)) rfl (Zz hs)
 ·exact ob [4,5] [13,15] rfl rfl fun D J w hs=>Qax QaN Qar.1 (hs.rd 0 rfl) rfl rfl (by omega) (by simp only [QQ6,QQ9,QQ5,Go.Sort.size_swp];omega) (Zz hs)
 ·exact ob [6] [13,15] rfl rfl fun D J w hs=>QaW (j:=0) (V:=I7 (d[pvx]!)) pvx Qar (hs.rd 0 rfl) (Qbo (by omega)) rfl rfl (by omega) (Zz hs)
 ·exact oa [] fun D J w hs=>Qac (V:=.slice a N c) rfl (Zz hs)
 ·exact oa [] fun D J w hs=>Qac (V:=.int .i64 (lo:Int)) rfl (Zz hs)
 ·exact ob [8,9] [13,15] rfl rfl fun D J w hs=>Qax QaN Qar.1 (hs.rd 0 rfl) rfl rfl (by omega) (by simp only [QQ6,QQ9,QQ5,Go.Sort.size_swp];omega) (Zz hs)
 ·exact ob [10] [13,15] rfl rfl fun D J w hs=>QaW (j:=0) (V:=I7 (d[lo]!)) lo Qar (hs.rd 0 rfl) (Qbo (by omega)) rfl rfl (by omega) (Zz hs)
 ·exact ob [0,1] [13,15] rfl rfl fun D J w hs=>Qax QaN Qar.1 (hs.rd 0 rfl) rfl rfl (by omega) (by simp only [QQ6,QQ9,QQ5,Go.Sort.size_swp];omega) (Zz hs)
 ·exact ob [7,12] [15] rfl rfl fun D J w hs=>Qch (z:=d[pvx]!) lo Qar hs 0 rfl rfl (by omega) (by first|omega|(simp only [QQ5,Go.Sort.size_swp];omega)) rfl rfl rfl fun _ hs=>⟨trivial,hs⟩
 ·exact ob [2,3,13] [15] rfl rfl fun D J w hs=>Qax QaN Qar.1 (hs.rd 0 rfl) rfl rfl (by omega) (by simp only [QQ6,QQ9,QQ5,Go.Sort.size_swp];omega) (Zz hs)
 ·exact oa [11,13,14] fun D J w hs=>Qch (z:=d[lo]!) pvx Qar hs 0 rfl rfl (by omega) (by first|omega|(simp only [QQ5,Go.Sort.size_swp];omega)) rfl rfl rfl fun _ hs=>⟨trivial,hs⟩
 rintro J1 w3 J2 hJ hs
 replace hJ:J2=mix (sq 11 14) J1 _:=hJ
 replace hs:Own w S w3 [row (.slice a N c) ((((d.setIfInBounds lo (d[pvx]!)).setIfInBounds pvx (d[lo]!)).toList).map (ic .u16)) 32 1]:=hs
 subst hJ
 refine Qag (Qab (Qaa (Qac (V:=I6 (lo:Int)) rfl (Qaa (QaF (a:=(lo:Int)) (b:=1) (c:=((lo+1:Nat):Int)) rfl rfl (Qak (by omega) (by omega)) (Qaa (Qac (V:=I6 (hi:Int)) rfl (Qaa (Qa5 (a:=(hi:Int)) (b:=1) (c:=((hi-1:Nat):Int)) rfl rfl (Qak (by omega) (by omega)) (Qaa (Qad (V:=I6 ((lo+1:Nat):Int)) rfl (Qaa (Qad (V:=I6 ((hi-1:Nat):Int)) rfl (Qae (Qag (Qan (QaD (fun J μ J' w'=>∃ (Jo:Env) (i:Nat) (j:Nat) (d1:Array Int),J'=upd (upd (mix ([9,10]++sq 29 54) Jo J) 9 (I6 (i:Int))) 10 (I6 (j:Int))/\(lo+1<=i)/\(i<=hi+1)/\(j<hi)/\(d1.size=N)/\(Sort.partEqLoop ltInt lo i j d1=Sort.partitionEqual ltInt d lo hi pvx)/\μ=j+1-i/\Own w S w' [row (.slice a N c) (d1.toList.map (ic .u16)) 32 1]) ?_ ?_)))))))))))))))))
 ·exact ⟨_,_,lo+1,hi-1,(Sort.swp d lo pvx),Qal (Qal (Qap (ds:=([9,10]++sq 29 54)) (Agr.refl _ _)) rfl) rfl,(Nat.le_refl _),(by omega),(by omega),(by rw [Go.Sort.size_swp];exact hsz),rfl,rfl,hs⟩
 rintro μ J' w4 ⟨Jo,i,j,d1,rfl,hi0,hi1,hj,hz1,hev,rfl,hs⟩
 refine Qan (Qag (Qan (QaD (fun J μ J' w'=>∃ (Jo:Env) (i2:Nat),J'=upd (mix ([9]++sq 29 17) Jo J) 9 (I6 (i2:Int))/\(i<=i2)/\(i2<=hi+1)/\(Sort.scanUp (fun x=>!ltInt d1[lo]! x) d1 (j) i2=Sort.scanUp (fun x=>!ltInt d1[lo]! x) d1 (j) (i))/\μ=j+1-i2/\Own w S w' [row (.slice a N c) (d1.toList.map (ic .u16)) 32 1]) ?_ ?_)))
 ·exact ⟨_,_,i,Qal (Qap (ds:=([9]++sq 29 17)) (Agr.refl _ _)) rfl,(Nat.le_refl _),(by omega),rfl,rfl,hs⟩
 rintro μ J' w5 ⟨Jo,i2,rfl,hi2a,hi2b,hsu,rfl,hs⟩
 refine Qag (Qag (QaH HM [some 29,some 30,some 31,some 32,some 33,some 34,some 35,some 36,some 37,some 38,some 39,some 40,some 41,some 42,some 43] [] [0,0,3,7,15,15,63,127,15,15,783,1807,4095,8191,16383] [pv (I6 (i2:Int)),pv (I6 (j:Int)),pv (.bool (decide ((i2:Int)<=(j:Int)))),pv (.bool (decide ((i2:Int)<=(j:Int)))),pg ((decide ((i2:Int)<=(j:Int))) == true) (.slice a N c),pg ((decide ((i2:Int)<=(j:Int))) == true) (I6 (lo:Int)),pg ((decide ((i2:Int)<=(j:Int))) == true) (.pointer (some ⟨bkS (.slice a N c),ofS (.slice a N c)+(lo:Int).toNat*1,none⟩)),pg ((decide ((i2:Int)<=(j:Int))) == true) (I7 (d1[lo]!)),pg ((decide ((i2:Int)<=(j:Int))) == true) (.slice a N c),pg ((decide ((i2:Int)<=(j:Int))) == true) (I6 (i2:Int)),pg ((decide ((i2:Int)<=(j:Int))) == true) (.pointer (some ⟨bkS (.slice a N c),ofS (.slice a N c)+(i2:Int).toNat*1,none⟩)),pg ((decide ((i2:Int)<=(j:Int))) == true) (I7 (d1[i2]!)),pg ((decide ((i2:Int)<=(j:Int))) == true) (.bool (decide (d1[lo]!<d1[i2]!))),pg ((decide ((i2:Int)<=(j:Int))) == true) (.bool (!decide (d1[lo]!<d1[i2]!))),pv (.bool ((decide ((i2:Int)<=(j:Int)))&&(!decide (d1[lo]!<d1[i2]!))))] (fun _ _=>_) [14] (by kernel_rfl) hs ⟨?_,?_,?_,?_,?_,?_,?_,?_,?_,?_,?_,?_,?_,?_,?_,trivial⟩ ?_))
 ·exact oa [] fun D J w hs=>Qac (V:=.int .i64 (i2:Int)) rfl (Zz hs)
 ·exact oa [] fun D J w hs=>Qac (V:=.int .i64 (j:Int)) rfl (Zz hs)
 ·exact oa [0,1] fun D J w hs=>QdZ rfl rfl (Zz hs)
 ·exact oa [2] fun D J w hs=>Qac (V:=.bool (decide ((i2:Int)<=(j:Int)))) rfl (Zz hs)
 ·refine og [3] fun D J w hG hs=>?_
  have hgd:=QQ1 (eq_of_beq hG)
  exact Qac (V:=.slice a N c) rfl (Zz hs)
 ·refine og [3] fun D J w hG hs=>?_
  have hgd:=QQ1 (eq_of_beq hG)
  exact Qac (V:=.int .i64 (lo:Int)) rfl (Zz hs)
 ·refine oy [3,4,5] [4,5] fun D J w hG hs=>?_
  have hgd:=QQ1 (eq_of_beq hG)
  exact Qax QaN Qar.1 (hs.rd 0 rfl) rfl rfl (by omega) (by simp only [QQ6,QQ9,QQ5,Go.Sort.size_swp];omega) (Zz hs)
 ·refine oy [3,6] [6] fun D J w hG hs=>?_
  have hgd:=QQ1 (eq_of_beq hG)
  exact QaW (j:=0) (V:=.int .u16 (d1[lo]!)) lo Qar (hs.rd 0 rfl) (Qbo (by omega)) rfl rfl (by omega) (Zz hs)
 ·refine og [3] fun D J w hG hs=>?_
  have hgd:=QQ1 (eq_of_beq hG)
  exact Qac (V:=.slice a N c) rfl (Zz hs)
 ·refine og [3] fun D J w hG hs=>?_
  have hgd:=QQ1 (eq_of_beq hG)
  exact Qac (V:=.int .i64 (i2:Int)) rfl (Zz hs)
 ·refine oy [3,8,9] [8,9] fun D J w hG hs=>?_
  have hgd:=QQ1 (eq_of_beq hG)
  exact Qax QaN Qar.1 (hs.rd 0 rfl) rfl rfl (by omega) (by simp only [QQ6,QQ9,QQ5,Go.Sort.size_swp];omega) (Zz hs)
 ·refine oy [3,10] [10] fun D J w hG hs=>?_
  have hgd:=QQ1 (eq_of_beq hG)
  exact QaW (j:=0) (V:=.int .u16 (d1[i2]!)) i2 Qar (hs.rd 0 rfl) (Qbo (by omega)) rfl rfl (by omega) (Zz hs)
 ·refine oy [3,7,11] [7,11] fun D J w hG hs=>?_
  have hgd:=QQ1 (eq_of_beq hG)
  exact Qat (vs:=[.int .u16 (d1[lo]!),.int .u16 (d1[i2]!)]) (V:=.bool (decide (d1[lo]!<d1[i2]!))) Qdc rfl rfl (Qcr _ (d1[lo]!) (d1[i2]!)) hs fun _ hs=>Zz hs
 ·refine oy [3,12] [12] fun D J w hG hs=>?_
  have hgd:=QQ1 (eq_of_beq hG)
  exact Qbz rfl (Zz hs)
 ·exact oa [3,13] fun D J w hs=>Qbn (h':=!decide (d1[lo]!<d1[i2]!)) rfl rfl rfl (Zz hs)
 rintro J1 w7 J2 hJ hs
 replace hJ:J2=upd (mix (sq 29 15) J1 _) 43 (.bool ((decide ((i2:Int)<=(j:Int)))&&(!decide (d1[lo]!<d1[i2]!)))):=hJ
 subst hJ
 refine Qam (t:=(decide ((i2:Int)<=(j:Int)))&&(!decide (d1[lo]!<d1[i2]!))) rfl (fun c8=>?_) (fun c8=>?_)
 ·
  have c8r:=Qcy c8
  replace c8:=Qb3 c8
  replace c8:=QQ1 c8
  replace c8r:=Qby c8r
  replace c8r:=QQ2 c8r
  refine Qao (Qan (Qab (Qaa (Qac (V:=I6 (i2:Int)) rfl (Qaa (QaF (a:=(i2:Int)) (b:=1) (c:=((i2+1:Nat):Int)) rfl rfl (Qak (by omega) (by omega)) (Qaa (Qad (V:=I6 ((i2+1:Nat):Int)) rfl (Qae ?_)))))))))
  refine ⟨_,?_,_,i2+1,Qal (Qap (ds:=([9]++sq 29 17)) (by repeat (first|exact Agr.refl _ _|refine Agr.upd ?_ rfl|refine Agr.mix ?_ rfl))) rfl,(by omega),(by omega),(by rw [← hsu,QlO (p:=fun x=>!ltInt d1[lo]! x) (b:=!decide (d1[lo]!<d1[i2]!)) rfl c8 (by rw [QQ4 c8r];rfl)]),rfl,hs.take 1⟩
  omega
 refine QaJ (Qag (Qan ?_))
 have hi2:i2=Sort.scanUp (fun x=>!ltInt d1[lo]! x) d1 j i:=by rw [← hsu,QrT (p:=fun x=>!ltInt d1[lo]! x) (b:=!decide (d1[lo]!<d1[i2]!)) rfl c8]
 refine QaD (fun J μ J' w'=>∃ (Jo:Env) (j2:Nat),J'=upd (mix ([10]++sq 46 16) Jo J) 10 (I6 (j2:Int))/\(j2<=j)/\(Sort.scanDown (fun x=>ltInt d1[lo]! x) d1 i2 j2=Sort.scanDown (fun x=>ltInt d1[lo]! x) d1 i2 (j))/\μ=2*j2/\Own w S w' [row (.slice a N c) (d1.toList.map (ic .u16)) 32 1]) ?_ ?_
 ·exact ⟨_,_,j,Qal (Qap (ds:=([10]++sq 46 16)) (Agr.refl _ _)) rfl,(Nat.le_refl _),rfl,rfl,hs⟩
 rintro μ J' w9 ⟨Jo,j2,rfl,hj2b,hsd,rfl,hs⟩
 refine Qag (Qag (QaH HM [some 46,some 47,some 48,some 49,some 50,some 51,some 52,some 53,some 54,some 55,some 56,some 57,some 58,some 59] [] [0,0,3,7,15,15,63,127,15,15,783,1807,4095,8191] [pv (I6 (i2:Int)),pv (I6 (j2:Int)),pv (.bool (decide ((i2:Int)<=(j2:Int)))),pv (.bool (decide ((i2:Int)<=(j2:Int)))),pg ((decide ((i2:Int)<=(j2:Int))) == true) (.slice a N c),pg ((decide ((i2:Int)<=(j2:Int))) == true) (I6 (lo:Int)),pg ((decide ((i2:Int)<=(j2:Int))) == true) (.pointer (some ⟨bkS (.slice a N c),ofS (.slice a N c)+(lo:Int).toNat*1,none⟩)),pg ((decide ((i2:Int)<=(j2:Int))) == true) (I7 (d1[lo]!)),pg ((decide ((i2:Int)<=(j2:Int))) == true) (.slice a N c),pg ((decide ((i2:Int)<=(j2:Int))) == true) (I6 (j2:Int)),pg ((decide ((i2:Int)<=(j2:Int))) == true) (.pointer (some ⟨bkS (.slice a N c),ofS (.slice a N c)+(j2:Int).toNat*1,none⟩)),pg ((decide ((i2:Int)<=(j2:Int))) == true) (I7 (d1[j2]!)),pg ((decide ((i2:Int)<=(j2:Int))) == true) (.bool (decide (d1[lo]!<d1[j2]!))),pv (.bool ((decide ((i2:Int)<=(j2:Int)))&&(decide (d1[lo]!<d1[j2]!))))] (fun _ _=>_) [13] (by kernel_rfl) hs ⟨?_,?_,?_,?_,?_,?_,?_,?_,?_,?_,?_,?_,?_,?_,trivial⟩ ?_))
 ·exact oa [] fun D J w hs=>Qac (V:=.int .i64 (i2:Int)) rfl (Zz hs)
 ·exact oa [] fun D J w hs=>Qac (V:=.int .i64 (j2:Int)) rfl (Zz hs)
 ·exact oa [0,1] fun D J w hs=>QdZ rfl rfl (Zz hs)
 ·exact oa [2] fun D J w hs=>Qac (V:=.bool (decide ((i2:Int)<=(j2:Int)))) rfl (Zz hs)
 ·refine og [3] fun D J w hG hs=>?_
  have hgd:=QQ1 (eq_of_beq hG)
  exact Qac (V:=.slice a N c) rfl (Zz hs)
 ·refine og [3] fun D J w hG hs=>?_
  have hgd:=QQ1 (eq_of_beq hG)
  exact Qac (V:=.int .i64 (lo:Int)) rfl (Zz hs)
 ·refine oy [3,4,5] [4,5] fun D J w hG hs=>?_
  have hgd:=QQ1 (eq_of_beq hG)
  exact Qax QaN Qar.1 (hs.rd 0 rfl) rfl rfl (by omega) (by simp only [QQ6,QQ9,QQ5,Go.Sort.size_swp];omega) (Zz hs)
 ·refine oy [3,6] [6] fun D J w hG hs=>?_
  have hgd:=QQ1 (eq_of_beq hG)
  exact QaW (j:=0) (V:=.int .u16 (d1[lo]!)) lo Qar (hs.rd 0 rfl) (Qbo (by omega)) rfl rfl (by omega) (Zz hs)
 ·refine og [3] fun D J w hG hs=>?_
  have hgd:=QQ1 (eq_of_beq hG)
  exact Qac (V:=.slice a N c) rfl (Zz hs)
 ·refine og [3] fun D J w hG hs=>?_
  have hgd:=QQ1 (eq_of_beq hG)
  exact Qac (V:=.int .i64 (j2:Int)) rfl (Zz hs)
 ·refine oy [3,8,9] [8,9] fun D J w hG hs=>?_
  have hgd:=QQ1 (eq_of_beq hG)
  exact Qax QaN Qar.1 (hs.rd 0 rfl) rfl rfl (by omega) (by simp only [QQ6,QQ9,QQ5,Go.Sort.size_swp];omega) (Zz hs)
 ·refine oy [3,10] [10] fun D J w hG hs=>?_
  have hgd:=QQ1 (eq_of_beq hG)
  exact QaW (j:=0) (V:=.int .u16 (d1[j2]!)) j2 Qar (hs.rd 0 rfl) (Qbo (by omega)) rfl rfl (by omega) (Zz hs)
 ·refine oy [3,7,11] [7,11] fun D J w hG hs=>?_
  have hgd:=QQ1 (eq_of_beq hG)
  exact Qat (vs:=[.int .u16 (d1[lo]!),.int .u16 (d1[j2]!)]) (V:=.bool (decide (d1[lo]!<d1[j2]!))) Qdc rfl rfl (Qcr _ (d1[lo]!) (d1[j2]!)) hs fun _ hs=>Zz hs
 ·exact oa [3,12] fun D J w hs=>Qbn (h':=decide (d1[lo]!<d1[j2]!)) rfl rfl rfl (Zz hs)
 rintro J1 w11 J2 hJ hs
 replace hJ:J2=upd (mix (sq 46 14) J1 _) 59 (.bool ((decide ((i2:Int)<=(j2:Int)))&&(decide (d1[lo]!<d1[j2]!)))):=hJ
 subst hJ
 refine Qam (t:=(decide ((i2:Int)<=(j2:Int)))&&(decide (d1[lo]!<d1[j2]!))) rfl (fun c12=>?_) (fun c12=>?_)
 ·
  have c12r:=Qcy c12
  replace c12:=Qb3 c12
  replace c12:=QQ1 c12
  replace c12r:=QQ1 c12r
  refine Qao (Qan (Qab (Qaa (Qac (V:=I6 (j2:Int)) rfl (Qaa (Qa5 (a:=(j2:Int)) (b:=1) (c:=((j2-1:Nat):Int)) rfl rfl (Qak (by omega) (by omega)) (Qaa (Qad (V:=I6 ((j2-1:Nat):Int)) rfl (Qae ?_)))))))))
  refine ⟨_,?_,_,j2-1,Qal (Qap (ds:=([10]++sq 46 16)) (by repeat (first|exact Agr.refl _ _|refine Agr.upd ?_ rfl|refine Agr.mix ?_ rfl))) rfl,(by omega),(by rw [← hsd,QnF (p:=fun x=>ltInt d1[lo]! x) (b:=decide (d1[lo]!<d1[j2]!)) (by omega) rfl c12 (QQ3 c12r)]),rfl,hs.take 1⟩
  omega
 refine QaJ (Qag (Qag ?_))
 have hj2:j2=Sort.scanDown (fun x=>ltInt d1[lo]! x) d1 i2 j:=by rw [← hsd,Qr1 (p:=fun x=>ltInt d1[lo]! x) (b:=decide (d1[lo]!<d1[j2]!)) rfl c12]
 refine Qab (Qaa (Qac (V:=I6 (i2:Int)) rfl (Qaa (Qac (V:=I6 (j2:Int)) rfl (Qaa (Qb2 rfl rfl (Qae (Qam (t:=decide ((j2:Int)<(i2:Int))) rfl (fun c13=>?_) (fun c13=>?_)))))))))
 ·
  replace c13:=QQ1 c13
  refine QaJ (Qag (Qab (Qaa (Qac (V:=I6 (i2:Int)) rfl (Qaa (Qad (V:=I6 (i2:Int)) rfl (Qae (Qaw ?_))))))))
  refine ⟨_,Qaq (V:=I6 (i2:Int)) Tryz.results179 rfl,?_⟩
  have hX:Sort.partitionEqual ltInt d lo hi pvx=(i2,d1):=by rw [← hev,QrK hi2 hj2 c13]
  rw [hX]
  exact ⟨(),rfl,hs.take 1,hz1⟩
 replace c13:=QQ2 c13
 refine Qao (Qag (QaH HM [some 65,some 66,some 67,some 68,some 69,some 70,some 71,some 72,some 73,some 74,some 75,some 76,some 77,none,some 78,none] [] [0,0,0,0,0,0,48,112,0,0,768,1792,4083,8179,16383,32767] [pv (.slice a N c),pv (I6 (i2:Int)),pv (.slice a N c),pv (I6 (j2:Int)),pv (.slice a N c),pv (I6 (j2:Int)),pv (.pointer (some ⟨bkS (.slice a N c),ofS (.slice a N c)+(j2:Int).toNat*1,none⟩)),pv (I7 (d1[j2]!)),pv (.slice a N c),pv (I6 (i2:Int)),pv (.pointer (some ⟨bkS (.slice a N c),ofS (.slice a N c)+(i2:Int).toNat*1,none⟩)),pv (I7 (d1[i2]!)),pv (.pointer (some ⟨bkS (.slice a N c),ofS (.slice a N c)+(i2:Int).toNat*1,none⟩)),pn,pv (.pointer (some ⟨bkS (.slice a N c),ofS (.slice a N c)+(j2:Int).toNat*1,none⟩)),pn] (fun D J=>[cond (D 15) (row (.slice a N c) ((((d1.setIfInBounds i2 (d1[j2]!)).setIfInBounds j2 (d1[i2]!)).toList).map (ic .u16)) 32 1) (cond (D 13) (row (.slice a N c) (((d1.setIfInBounds i2 (d1[j2]!)).toList).map (ic .u16)) 32 1) (row (.slice a N c) (d1.toList.map (ic .u16)) 32 1))]) [] (by kernel_rfl) hs ⟨?_,?_,?_,?_,?_,?_,?_,?_,?_,?_,?_,?_,?_,?_,?_,?_,trivial⟩ ?_))
 ·exact oa [] fun D J w hs=>Qac (V:=.slice a N c) rfl (Zz hs)
 ·exact oa [] fun D J w hs=>Qac (V:=.int .i64 (i2:Int)) rfl (Zz hs)
 ·exact oa [] fun D J w hs=>Qac (V:=.slice a N c) rfl (Zz hs)
 ·exact oa [] fun D J w hs=>Qac (V:=.int .i64 (j2:Int)) rfl (Zz hs)
 ·exact oa [] fun D J w hs=>Qac (V:=.slice a N c) rfl (Zz hs)
 ·exact oa [] fun D J w hs=>Qac (V:=.int .i64 (j2:Int)) rfl (Zz hs)
 ·exact ob [4,5] [13,15] rfl rfl fun D J w hs=>Qax QaN Qar.1 (hs.rd 0 rfl) rfl rfl (by omega) (by simp only [QQ6,QQ9,QQ5,Go.Sort.size_swp];omega) (Zz hs)
 ·exact ob [6] [13,15] rfl rfl fun D J w hs=>QaW (j:=0) (V:=I7 (d1[j2]!)) j2 Qar (hs.rd 0 rfl) (Qbo (by omega)) rfl rfl (by omega) (Zz hs)
 ·exact oa [] fun D J w hs=>Qac (V:=.slice a N c) rfl (Zz hs)
 ·exact oa [] fun D J w hs=>Qac (V:=.int .i64 (i2:Int)) rfl (Zz hs)
 ·exact ob [8,9] [13,15] rfl rfl fun D J w hs=>Qax QaN Qar.1 (hs.rd 0 rfl) rfl rfl (by omega) (by simp only [QQ6,QQ9,QQ5,Go.Sort.size_swp];omega) (Zz hs)
 ·exact ob [10] [13,15] rfl rfl fun D J w hs=>QaW (j:=0) (V:=I7 (d1[i2]!)) i2 Qar (hs.rd 0 rfl) (Qbo (by omega)) rfl rfl (by omega) (Zz hs)
 ·exact ob [0,1] [13,15] rfl rfl fun D J w hs=>Qax QaN Qar.1 (hs.rd 0 rfl) rfl rfl (by omega) (by simp only [QQ6,QQ9,QQ5,Go.Sort.size_swp];omega) (Zz hs)
 ·exact ob [7,12] [15] rfl rfl fun D J w hs=>Qch (z:=d1[j2]!) i2 Qar hs 0 rfl rfl (by omega) (by first|omega|(simp only [QQ5,Go.Sort.size_swp];omega)) rfl rfl rfl fun _ hs=>⟨trivial,hs⟩
 ·exact ob [2,3,13] [15] rfl rfl fun D J w hs=>Qax QaN Qar.1 (hs.rd 0 rfl) rfl rfl (by omega) (by simp only [QQ6,QQ9,QQ5,Go.Sort.size_swp];omega) (Zz hs)
 ·exact oa [11,13,14] fun D J w hs=>Qch (z:=d1[i2]!) j2 Qar hs 0 rfl rfl (by omega) (by first|omega|(simp only [QQ5,Go.Sort.size_swp];omega)) rfl rfl rfl fun _ hs=>⟨trivial,hs⟩
 rintro J1 w16 J2 hJ hs
 replace hJ:J2=mix (sq 65 14) J1 _:=hJ
 replace hs:Own w S w16 [row (.slice a N c) ((((d1.setIfInBounds i2 (d1[j2]!)).setIfInBounds j2 (d1[i2]!)).toList).map (ic .u16)) 32 1]:=hs
 subst hJ
 refine Qag (Qab (Qaa (Qac (V:=I6 (i2:Int)) rfl (Qaa (QaF (a:=(i2:Int)) (b:=1) (c:=((i2+1:Nat):Int)) rfl rfl (Qak (by omega) (by omega)) (Qaa (Qad (V:=I6 ((i2+1:Nat):Int)) rfl (Qae (Qab (Qaa (Qac (V:=I6 (j2:Int)) rfl (Qaa (Qa5 (a:=(j2:Int)) (b:=1) (c:=((j2-1:Nat):Int)) rfl rfl (Qak (by omega) (by omega)) (Qaa (Qad (V:=I6 ((j2-1:Nat):Int)) rfl (Qae ?_))))))))))))))))
 refine ⟨_,?_,_,i2+1,j2-1,((d1.setIfInBounds i2 (d1[j2]!)).setIfInBounds j2 (d1[i2]!)),Qal (Qal (Qap (ds:=([9,10]++sq 29 54)) (by repeat (first|exact Agr.refl _ _|refine Agr.upd ?_ rfl|refine Agr.mix ?_ rfl))) rfl) rfl,(by omega),(by omega),(by omega),(by simp only [QQ5];exact hz1),(by rw [← hev,QvQ hi2 hj2 c13];rfl),rfl,hs.take 1⟩
 omega
end Tt
end Go.Proofs
namespace Go.Proofs
open Go Go.Vx Go.RowKit
open Go.Sort (ltInt medianAdjacent order2 partition)
namespace Tt
theorem QvS (w:World) (S:Nat->Prop) (a:Option Addr) (N c:Nat) (d:Array Int) (hsz:d.size=N) (hN:N<=2305843009213693951) (lo hi pvx:Nat) (h1:lo<=pvx) (h2:pvx<hi) (h3:hi<=N) (hR:(row (.slice a N c) (d.toList.map (ic .u16)) 32 1).holds w S) (hlt:∀ x,S x->x<w.heap.size):Calls Tryz.prog 180 #[.slice a N c,.int .i64 (lo:Int),.int .i64 (hi:Int),.int .i64 (pvx:Int)] w (fun e w'=>∃ _u:Unit,e = .returned (.tuple #[.int .i64 (((partition ltInt d lo hi pvx).1:Nat):Int),.bool (partition ltInt d lo hi pvx).2.1])/\Own w S w' [row (.slice a N c) (((partition ltInt d lo hi pvx).2.2).toList.map (ic .u16)) 32 1]/\(partition ltInt d lo hi pvx).2.2.size=N):=by
 refine Qai (n:=168) Tryz.func180 rfl Tryz.ntmps180 rfl ?_
 have hs:=Own.lent hR hlt
 refine Qag (Qab (Qaa (Qad (V:=I6 0) rfl (Qaa (Qad (V:=.bool false) rfl (Qae (Qag (QaH HM [some 12,some 13,some 14,some 15,some 16,some 17,some 18,some 19,some 20,some 21,some 22,some 23,some 24,none,some 25,none] [] [0,0,0,0,0,0,48,112,0,0,768,1792,4083,8179,16383,32767] [pv (.slice a N c),pv (I6 (lo:Int)),pv (.slice a N c),pv (I6 (pvx:Int)),pv (.slice a N c),pv (I6 (pvx:Int)),pv (.pointer (some ⟨bkS (.slice a N c),ofS (.slice a N c)+(pvx:Int).toNat*1,none⟩)),pv (I7 (d[pvx]!)),pv (.slice a N c),pv (I6 (lo:Int)),pv (.pointer (some ⟨bkS (.slice a N c),ofS (.slice a N c)+(lo:Int).toNat*1,none⟩)),pv (I7 (d[lo]!)),pv (.pointer (some ⟨bkS (.slice a N c),ofS (.slice a N c)+(lo:Int).toNat*1,none⟩)),pn,pv (.pointer (some ⟨bkS (.slice a N c),ofS (.slice a N c)+(pvx:Int).toNat*1,none⟩)),pn] (fun D J=>[cond (D 15) (row (.slice a N c) ((((d.setIfInBounds lo (d[pvx]!)).setIfInBounds pvx (d[lo]!)).toList).map (ic .u16)) 32 1) (cond (D 13) (row (.slice a N c) (((d.setIfInBounds lo (d[pvx]!)).toList).map (ic .u16)) 32 1) (row (.slice a N c) (d.toList.map (ic .u16)) 32 1))]) [] (by kernel_rfl) hs ⟨?_,?_,?_,?_,?_,?_,?_,?_,?_,?_,?_,?_,?_,?_,?_,?_,trivial⟩ ?_))))))))
 ·exact oa [] fun D J w hs=>Qac (V:=.slice a N c) rfl (Zz hs)
 ·exact oa [] fun D J w hs=>Qac (V:=.int .i64 (lo:Int)) rfl (Zz hs)
 ·exact oa [] fun D J w hs=>Qac (V:=.slice a N c) rfl (Zz hs)
 ·exact oa [] fun D J w hs=>Qac (V:=.int .i64 (pvx:Int)) rfl (Zz hs)
 ·exact oa [] fun D J w hs=>Qac (V:=.slice a N c) rfl (Zz hs)
 ·exact oa [] fun D J w hs=>Qac (V:=.int .i64 (pvx:Int)) rfl (Zz hs)
 ·exact ob [4,5] [13,15] rfl rfl fun D J w hs=>Qax QaN Qar.1 (hs.rd 0 rfl) rfl rfl (by omega) (by simp only [QQ6,QQ9,QQ5,Go.Sort.size_swp];omega) (Zz hs)
 ·exact ob [6] [13,15] rfl rfl fun D J w hs=>QaW (j:=0) (V:=I7 (d[pvx]!)) pvx Qar (hs.rd 0 rfl) (Qbo (by omega)) rfl rfl (by omega) (Zz hs)
 ·exact oa [] fun D J w hs=>Qac (V:=.slice a N c) rfl (Zz hs)
 ·exact oa [] fun D J w hs=>Qac (V:=.int .i64 (lo:Int)) rfl (Zz hs)
 ·exact ob [8,9] [13,15] rfl rfl fun D J w hs=>Qax QaN Qar.1 (hs.rd 0 rfl) rfl rfl (by omega) (by simp only [QQ6,QQ9,QQ5,Go.Sort.size_swp];omega) (Zz hs)
 ·exact ob [10] [13,15] rfl rfl fun D J w hs=>QaW (j:=0) (V:=I7 (d[lo]!)) lo Qar (hs.rd 0 rfl) (Qbo (by omega)) rfl rfl (by omega) (Zz hs)
 ·exact ob [0,1] [13,15] rfl rfl fun D J w hs=>Qax QaN Qar.1 (hs.rd 0 rfl) rfl rfl (by omega) (by simp only [QQ6,QQ9,QQ5,Go.Sort.size_swp];omega) (Zz hs)
 ·exact ob [7,12] [15] rfl rfl fun D J w hs=>Qch (z:=d[pvx]!) lo Qar hs 0 rfl rfl (by omega) (by first|omega|(simp only [QQ5,Go.Sort.size_swp];omega)) rfl rfl rfl fun _ hs=>⟨trivial,hs⟩
 ·exact ob [2,3,13] [15] rfl rfl fun D J w hs=>Qax QaN Qar.1 (hs.rd 0 rfl) rfl rfl (by omega) (by simp only [QQ6,QQ9,QQ5,Go.Sort.size_swp];omega) (Zz hs)
 ·exact oa [11,13,14] fun D J w hs=>Qch (z:=d[lo]!) pvx Qar hs 0 rfl rfl (by omega) (by first|omega|(simp only [QQ5,Go.Sort.size_swp];omega)) rfl rfl rfl fun _ hs=>⟨trivial,hs⟩
 rintro J1 w3 J2 hJ hs
 replace hJ:J2=mix (sq 12 14) J1 _:=hJ
 replace hs:Own w S w3 [row (.slice a N c) ((((d.setIfInBounds lo (d[pvx]!)).setIfInBounds pvx (d[lo]!)).toList).map (ic .u16)) 32 1]:=hs
 subst hJ
 refine Qag (Qab (Qaa (Qac (V:=I6 (lo:Int)) rfl (Qaa (QaF (a:=(lo:Int)) (b:=1) (c:=((lo+1:Nat):Int)) rfl rfl (Qak (by omega) (by omega)) (Qaa (Qac (V:=I6 (hi:Int)) rfl (Qaa (Qa5 (a:=(hi:Int)) (b:=1) (c:=((hi-1:Nat):Int)) rfl rfl (Qak (by omega) (by omega)) (Qaa (Qad (V:=I6 ((lo+1:Nat):Int)) rfl (Qaa (Qad (V:=I6 ((hi-1:Nat):Int)) rfl (Qae (Qag (Qan ?_))))))))))))))))
 obtain ⟨dd,hdd⟩:∃ dd,dd=(Sort.swp d lo pvx):=⟨_,rfl⟩
 replace hs:=hs.conv 0 rfl (R':=row (.slice a N c) (dd.toList.map (ic .u16)) 32 1) (fun S h=>by rw [hdd];exact h)
 have hzd:dd.size=N:=by rw [hdd,Go.Sort.size_swp];exact hsz
 refine QaD (fun J μ J' w'=>∃ (Jo:Env) (i2:Nat),J'=upd (mix ([10]++sq 30 16) Jo J) 10 (I6 (i2:Int))/\((lo+1)<=i2)/\(i2<=hi+1)/\(Sort.scanUp (fun x=>ltInt x dd[lo]!) dd (hi-1) i2=Sort.scanUp (fun x=>ltInt x dd[lo]!) dd (hi-1) ((lo+1)))/\μ=(hi-1)+1-i2/\Own w S w' [row (.slice a N c) (dd.toList.map (ic .u16)) 32 1]) ?_ ?_
 ·exact ⟨_,_,(lo+1),Qal (Qap (ds:=([10]++sq 30 16)) (Agr.refl _ _)) rfl,(Nat.le_refl _),(by omega),rfl,rfl,hs⟩
 rintro μ J' w4 ⟨Jo,i2,rfl,hi2a,hi2b,hsu,rfl,hs⟩
 refine Qag (Qag (QaH HM [some 30,some 31,some 32,some 33,some 34,some 35,some 36,some 37,some 38,some 39,some 40,some 41,some 42,some 43] [] [0,0,3,7,15,15,63,127,15,15,783,1807,4095,8191] [pv (I6 (i2:Int)),pv (I6 ((hi-1:Nat):Int)),pv (.bool (decide ((i2:Int)<=((hi-1:Nat):Int)))),pv (.bool (decide ((i2:Int)<=((hi-1:Nat):Int)))),pg ((decide ((i2:Int)<=((hi-1:Nat):Int))) == true) (.slice a N c),pg ((decide ((i2:Int)<=((hi-1:Nat):Int))) == true) (I6 (i2:Int)),pg ((decide ((i2:Int)<=((hi-1:Nat):Int))) == true) (.pointer (some ⟨bkS (.slice a N c),ofS (.slice a N c)+(i2:Int).toNat*1,none⟩)),pg ((decide ((i2:Int)<=((hi-1:Nat):Int))) == true) (I7 (dd[i2]!)),pg ((decide ((i2:Int)<=((hi-1:Nat):Int))) == true) (.slice a N c),pg ((decide ((i2:Int)<=((hi-1:Nat):Int))) == true) (I6 (lo:Int)),pg ((decide ((i2:Int)<=((hi-1:Nat):Int))) == true) (.pointer (some ⟨bkS (.slice a N c),ofS (.slice a N c)+(lo:Int).toNat*1,none⟩)),pg ((decide ((i2:Int)<=((hi-1:Nat):Int))) == true) (I7 (dd[lo]!)),pg ((decide ((i2:Int)<=((hi-1:Nat):Int))) == true) (.bool (decide (dd[i2]!<dd[lo]!))),pv (.bool ((decide ((i2:Int)<=((hi-1:Nat):Int)))&&(decide (dd[i2]!<dd[lo]!))))] (fun _ _=>_) [13] (by kernel_rfl) hs ⟨?_,?_,?_,?_,?_,?_,?_,?_,?_,?_,?_,?_,?_,?_,trivial⟩ ?_))
 ·exact oa [] fun D J w hs=>Qac (V:=.int .i64 (i2:Int)) rfl (Zz hs)
 ·exact oa [] fun D J w hs=>Qac (V:=.int .i64 ((hi-1:Nat):Int)) rfl (Zz hs)
 ·exact oa [0,1] fun D J w hs=>QdZ rfl rfl (Zz hs)
 ·exact oa [2] fun D J w hs=>Qac (V:=.bool (decide ((i2:Int)<=((hi-1:Nat):Int)))) rfl (Zz hs)
 ·refine og [3] fun D J w hG hs=>?_
  have hgd:=QQ1 (eq_of_beq hG)
  exact Qac (V:=.slice a N c) rfl (Zz hs)
 ·refine og [3] fun D J w hG hs=>?_
  have hgd:=QQ1 (eq_of_beq hG)
  exact Qac (V:=.int .i64 (i2:Int)) rfl (Zz hs)
 ·refine oy [3,4,5] [4,5] fun D J w hG hs=>?_
  have hgd:=QQ1 (eq_of_beq hG)
  exact Qax QaN Qar.1 (hs.rd 0 rfl) rfl rfl (by omega) (by simp only [QQ6,QQ9,QQ5,Go.Sort.size_swp];omega) (Zz hs)
 ·refine oy [3,6] [6] fun D J w hG hs=>?_
  have hgd:=QQ1 (eq_of_beq hG)
  exact QaW (j:=0) (V:=.int .u16 (dd[i2]!)) i2 Qar (hs.rd 0 rfl) (Qbo (by omega)) rfl rfl (by omega) (Zz hs)
 ·refine og [3] fun D J w hG hs=>?_
  have hgd:=QQ1 (eq_of_beq hG)
  exact Qac (V:=.slice a N c) rfl (Zz hs)
 ·refine og [3] fun D J w hG hs=>?_
  have hgd:=QQ1 (eq_of_beq hG)
  exact Qac (V:=.int .i64 (lo:Int)) rfl (Zz hs)
 ·refine oy [3,8,9] [8,9] fun D J w hG hs=>?_
  have hgd:=QQ1 (eq_of_beq hG)
  exact Qax QaN Qar.1 (hs.rd 0 rfl) rfl rfl (by omega) (by simp only [QQ6,QQ9,QQ5,Go.Sort.size_swp];omega) (Zz hs)
 ·refine oy [3,10] [10] fun D J w hG hs=>?_
  have hgd:=QQ1 (eq_of_beq hG)
  exact QaW (j:=0) (V:=.int .u16 (dd[lo]!)) lo Qar (hs.rd 0 rfl) (Qbo (by omega)) rfl rfl (by omega) (Zz hs)
 ·refine oy [3,7,11] [7,11] fun D J w hG hs=>?_
  have hgd:=QQ1 (eq_of_beq hG)
  exact Qat (vs:=[.int .u16 (dd[i2]!),.int .u16 (dd[lo]!)]) (V:=.bool (decide (dd[i2]!<dd[lo]!))) Qdc rfl rfl (Qcr _ (dd[i2]!) (dd[lo]!)) hs fun _ hs=>Zz hs
 ·exact oa [3,12] fun D J w hs=>Qbn (h':=decide (dd[i2]!<dd[lo]!)) rfl rfl rfl (Zz hs)
 rintro J1 w6 J2 hJ hs
 replace hJ:J2=upd (mix (sq 30 14) J1 _) 43 (.bool ((decide ((i2:Int)<=((hi-1:Nat):Int)))&&(decide (dd[i2]!<dd[lo]!)))):=hJ
 subst hJ
 refine Qam (t:=(decide ((i2:Int)<=((hi-1:Nat):Int)))&&(decide (dd[i2]!<dd[lo]!))) rfl (fun c7=>?_) (fun c7=>?_)
 ·
  have c7r:=Qcy c7
  replace c7:=Qb3 c7
  replace c7:=QQ1 c7
  replace c7r:=QQ1 c7r
  refine Qao (Qan (Qab (Qaa (Qac (V:=I6 (i2:Int)) rfl (Qaa (QaF (a:=(i2:Int)) (b:=1) (c:=((i2+1:Nat):Int)) rfl rfl (Qak (by omega) (by omega)) (Qaa (Qad (V:=I6 ((i2+1:Nat):Int)) rfl (Qae ?_)))))))))
  refine ⟨_,?_,_,i2+1,Qal (Qap (ds:=([10]++sq 30 16)) (by repeat (first|exact Agr.refl _ _|refine Agr.upd ?_ rfl|refine Agr.mix ?_ rfl))) rfl,(by omega),(by omega),(by rw [← hsu,QlO (p:=fun x=>ltInt x dd[lo]!) (b:=decide (dd[i2]!<dd[lo]!)) rfl c7 (QQ3 c7r)]),rfl,hs.take 1⟩
  omega
 refine QaJ (Qag (Qan ?_))
 have hi2:i2=Sort.scanUp (fun x=>ltInt x dd[lo]!) dd (hi-1) (lo+1):=by rw [← hsu,QrT (p:=fun x=>ltInt x dd[lo]!) (b:=decide (dd[i2]!<dd[lo]!)) rfl c7]
 refine QaD (fun J μ J' w'=>∃ (Jo:Env) (j2:Nat),J'=upd (mix ([11]++sq 46 17) Jo J) 11 (I6 (j2:Int))/\(j2<=(hi-1))/\(Sort.scanDown (fun x=>!ltInt x dd[lo]!) dd i2 j2=Sort.scanDown (fun x=>!ltInt x dd[lo]!) dd i2 ((hi-1)))/\(lo<=j2)/\μ=2*j2/\Own w S w' [row (.slice a N c) (dd.toList.map (ic .u16)) 32 1]) ?_ ?_
 ·exact ⟨_,_,(hi-1),Qal (Qap (ds:=([11]++sq 46 17)) (Agr.refl _ _)) rfl,(Nat.le_refl _),rfl,(by omega),rfl,hs⟩
 rintro μ J' w8 ⟨Jo,j2,rfl,hj2b,hsd,hlowj2,rfl,hs⟩
 refine Qag (Qag (QaH HM [some 46,some 47,some 48,some 49,some 50,some 51,some 52,some 53,some 54,some 55,some 56,some 57,some 58,some 59,some 60] [] [0,0,3,7,15,15,63,127,15,15,783,1807,4095,8191,16383] [pv (I6 (i2:Int)),pv (I6 (j2:Int)),pv (.bool (decide ((i2:Int)<=(j2:Int)))),pv (.bool (decide ((i2:Int)<=(j2:Int)))),pg ((decide ((i2:Int)<=(j2:Int))) == true) (.slice a N c),pg ((decide ((i2:Int)<=(j2:Int))) == true) (I6 (j2:Int)),pg ((decide ((i2:Int)<=(j2:Int))) == true) (.pointer (some ⟨bkS (.slice a N c),ofS (.slice a N c)+(j2:Int).toNat*1,none⟩)),pg ((decide ((i2:Int)<=(j2:Int))) == true) (I7 (dd[j2]!)),pg ((decide ((i2:Int)<=(j2:Int))) == true) (.slice a N c),pg ((decide ((i2:Int)<=(j2:Int))) == true) (I6 (lo:Int)),pg ((decide ((i2:Int)<=(j2:Int))) == true) (.pointer (some ⟨bkS (.slice a N c),ofS (.slice a N c)+(lo:Int).toNat*1,none⟩)),pg ((decide ((i2:Int)<=(j2:Int))) == true) (I7 (dd[lo]!)),pg ((decide ((i2:Int)<=(j2:Int))) == true) (.bool (decide (dd[j2]!<dd[lo]!))),pg ((decide ((i2:Int)<=(j2:Int))) == true) (.bool (!decide (dd[j2]!<dd[lo]!))),pv (.bool ((decide ((i2:Int)<=(j2:Int)))&&(!decide (dd[j2]!<dd[lo]!))))] (fun _ _=>_) [14] (by kernel_rfl) hs ⟨?_,?_,?_,?_,?_,?_,?_,?_,?_,?_,?_,?_,?_,?_,?_,trivial⟩ ?_))
 ·exact oa [] fun D J w hs=>Qac (V:=.int .i64 (i2:Int)) rfl (Zz hs)
 ·exact oa [] fun D J w hs=>Qac (V:=.int .i64 (j2:Int)) rfl (Zz hs)
 ·exact oa [0,1] fun D J w hs=>QdZ rfl rfl (Zz hs)
 ·exact oa [2] fun D J w hs=>Qac (V:=.bool (decide ((i2:Int)<=(j2:Int)))) rfl (Zz hs)
 ·refine og [3] fun D J w hG hs=>?_
  have hgd:=QQ1 (eq_of_beq hG)
  exact Qac (V:=.slice a N c) rfl (Zz hs)
 ·refine og [3] fun D J w hG hs=>?_
  have hgd:=QQ1 (eq_of_beq hG)
  exact Qac (V:=.int .i64 (j2:Int)) rfl (Zz hs)
 ·refine oy [3,4,5] [4,5] fun D J w hG hs=>?_
  have hgd:=QQ1 (eq_of_beq hG)
  exact Qax QaN Qar.1 (hs.rd 0 rfl) rfl rfl (by omega) (by simp only [QQ6,QQ9,QQ5,Go.Sort.size_swp];omega) (Zz hs)
 ·refine oy [3,6] [6] fun D J w hG hs=>?_
  have hgd:=QQ1 (eq_of_beq hG)
  exact QaW (j:=0) (V:=.int .u16 (dd[j2]!)) j2 Qar (hs.rd 0 rfl) (Qbo (by omega)) rfl rfl (by omega) (Zz hs)
 ·refine og [3] fun D J w hG hs=>?_
  have hgd:=QQ1 (eq_of_beq hG)
  exact Qac (V:=.slice a N c) rfl (Zz hs)
 ·refine og [3] fun D J w hG hs=>?_
  have hgd:=QQ1 (eq_of_beq hG)
  exact Qac (V:=.int .i64 (lo:Int)) rfl (Zz hs)
 ·refine oy [3,8,9] [8,9] fun D J w hG hs=>?_
  have hgd:=QQ1 (eq_of_beq hG)
  exact Qax QaN Qar.1 (hs.rd 0 rfl) rfl rfl (by omega) (by simp only [QQ6,QQ9,QQ5,Go.Sort.size_swp];omega) (Zz hs)
 ·refine oy [3,10] [10] fun D J w hG hs=>?_
  have hgd:=QQ1 (eq_of_beq hG)
  exact QaW (j:=0) (V:=.int .u16 (dd[lo]!)) lo Qar (hs.rd 0 rfl) (Qbo (by omega)) rfl rfl (by omega) (Zz hs)
 ·refine oy [3,7,11] [7,11] fun D J w hG hs=>?_
  have hgd:=QQ1 (eq_of_beq hG)
  exact Qat (vs:=[.int .u16 (dd[j2]!),.int .u16 (dd[lo]!)]) (V:=.bool (decide (dd[j2]!<dd[lo]!))) Qdc rfl rfl (Qcr _ (dd[j2]!) (dd[lo]!)) hs fun _ hs=>Zz hs
 ·refine oy [3,12] [12] fun D J w hG hs=>?_
  have hgd:=QQ1 (eq_of_beq hG)
  exact Qbz rfl (Zz hs)
 ·exact oa [3,13] fun D J w hs=>Qbn (h':=!decide (dd[j2]!<dd[lo]!)) rfl rfl rfl (Zz hs)
 rintro J1 w10 J2 hJ hs
 replace hJ:J2=upd (mix (sq 46 15) J1 _) 60 (.bool ((decide ((i2:Int)<=(j2:Int)))&&(!decide (dd[j2]!<dd[lo]!)))):=hJ
 subst hJ
 refine Qam (t:=(decide ((i2:Int)<=(j2:Int)))&&(!decide (dd[j2]!<dd[lo]!))) rfl (fun c11=>?_) (fun c11=>?_)
 ·
  have c11r:=Qcy c11
  replace c11:=Qb3 c11
  replace c11:=QQ1 c11
  replace c11r:=Qby c11r
  replace c11r:=QQ2 c11r
  refine Qao (Qan (Qab (Qaa (Qac (V:=I6 (j2:Int)) rfl (Qaa (Qa5 (a:=(j2:Int)) (b:=1) (c:=((j2-1:Nat):Int)) rfl rfl (Qak (by omega) (by omega)) (Qaa (Qad (V:=I6 ((j2-1:Nat):Int)) rfl (Qae ?_)))))))))
  refine ⟨_,?_,_,j2-1,Qal (Qap (ds:=([11]++sq 46 17)) (by repeat (first|exact Agr.refl _ _|refine Agr.upd ?_ rfl|refine Agr.mix ?_ rfl))) rfl,(by omega),(by rw [← hsd,QnF (p:=fun x=>!ltInt x dd[lo]!) (b:=!decide (dd[j2]!<dd[lo]!)) (by omega) rfl c11 (by rw [QQ4 c11r];rfl)]),(by omega),rfl,hs.take 1⟩
  omega
 refine QaJ (Qag (Qag ?_))
 have hj2:j2=Sort.scanDown (fun x=>!ltInt x dd[lo]!) dd i2 (hi-1):=by rw [← hsd,Qr1 (p:=fun x=>!ltInt x dd[lo]!) (b:=!decide (dd[j2]!<dd[lo]!)) rfl c11]
 refine Qab (Qaa (Qac (V:=I6 (i2:Int)) rfl (Qaa (Qac (V:=I6 (j2:Int)) rfl (Qaa (Qb2 rfl rfl (Qae (Qam (t:=decide ((j2:Int)<(i2:Int))) rfl (fun c12=>?_) (fun c12=>?_)))))))))
 ·
  replace c12:=QQ1 c12
  refine Qag (QaH HM [some 66,some 67,some 68,some 69,some 70,some 71,some 72,some 73,some 74,some 75,some 76,some 77,some 78,none,some 79,none] [] [0,0,0,0,0,0,48,112,0,0,768,1792,4083,8179,16383,32767] [pv (.slice a N c),pv (I6 (j2:Int)),pv (.slice a N c),pv (I6 (lo:Int)),pv (.slice a N c),pv (I6 (lo:Int)),pv (.pointer (some ⟨bkS (.slice a N c),ofS (.slice a N c)+(lo:Int).toNat*1,none⟩)),pv (I7 (dd[lo]!)),pv (.slice a N c),pv (I6 (j2:Int)),pv (.pointer (some ⟨bkS (.slice a N c),ofS (.slice a N c)+(j2:Int).toNat*1,none⟩)),pv (I7 (dd[j2]!)),pv (.pointer (some ⟨bkS (.slice a N c),ofS (.slice a N c)+(j2:Int).toNat*1,none⟩)),pn,pv (.pointer (some ⟨bkS (.slice a N c),ofS (.slice a N c)+(lo:Int).toNat*1,none⟩)),pn] (fun D J=>[cond (D 15) (row (.slice a N c) ((((dd.setIfInBounds j2 (dd[lo]!)).setIfInBounds lo (dd[j2]!)).toList).map (ic .u16)) 32 1) (cond (D 13) (row (.slice a N c) (((dd.setIfInBounds j2 (dd[lo]!)).toList).map (ic .u16)) 32 1) (row (.slice a N c) (dd.toList.map (ic .u16)) 32 1))]) [] (by kernel_rfl) hs ⟨?_,?_,?_,?_,?_,?_,?_,?_,?_,?_,?_,?_,?_,?_,?_,?_,trivial⟩ ?_)
  ·exact oa [] fun D J w hs=>Qac (V:=.slice a N c) rfl (Zz hs)
  ·exact oa [] fun D J w hs=>Qac (V:=.int .i64 (j2:Int)) rfl (Zz hs)
  ·exact oa [] fun D J w hs=>Qac (V:=.slice a N c) rfl (Zz hs)
  ·exact oa [] fun D J w hs=>Qac (V:=.int .i64 (lo:Int)) rfl (Zz hs)
  ·exact oa [] fun D J w hs=>Qac (V:=.slice a N c) rfl (Zz hs)
  ·exact oa [] fun D J w hs=>Qac (V:=.int .i64 (lo:Int)) rfl (Zz hs)
  ·exact ob [4,5] [13,15] rfl rfl fun D J w hs=>Qax QaN Qar.1 (hs.rd 0 rfl) rfl rfl (by omega) (by simp only [QQ6,QQ9,QQ5,Go.Sort.size_swp];omega) (Zz hs)
  ·exact ob [6] [13,15] rfl rfl fun D J w hs=>QaW (j:=0) (V:=I7 (dd[lo]!)) lo Qar (hs.rd 0 rfl) (Qbo (by omega)) rfl rfl (by omega) (Zz hs)
  ·exact oa [] fun D J w hs=>Qac (V:=.slice a N c) rfl (Zz hs)
  ·exact oa [] fun D J w hs=>Qac (V:=.int .i64 (j2:Int)) rfl (Zz hs)
  ·exact ob [8,9] [13,15] rfl rfl fun D J w hs=>Qax QaN Qar.1 (hs.rd 0 rfl) rfl rfl (by omega) (by simp only [QQ6,QQ9,QQ5,Go.Sort.size_swp];omega) (Zz hs)
  ·exact ob [10] [13,15] rfl rfl fun D J w hs=>QaW (j:=0) (V:=I7 (dd[j2]!)) j2 Qar (hs.rd 0 rfl) (Qbo (by omega)) rfl rfl (by omega) (Zz hs)
  ·exact ob [0,1] [13,15] rfl rfl fun D J w hs=>Qax QaN Qar.1 (hs.rd 0 rfl) rfl rfl (by omega) (by simp only [QQ6,QQ9,QQ5,Go.Sort.size_swp];omega) (Zz hs)
  ·exact ob [7,12] [15] rfl rfl fun D J w hs=>Qch (z:=dd[lo]!) j2 Qar hs 0 rfl rfl (by omega) (by first|omega|(simp only [QQ5,Go.Sort.size_swp];omega)) rfl rfl rfl fun _ hs=>⟨trivial,hs⟩
  ·exact ob [2,3,13] [15] rfl rfl fun D J w hs=>Qax QaN Qar.1 (hs.rd 0 rfl) rfl rfl (by omega) (by simp only [QQ6,QQ9,QQ5,Go.Sort.size_swp];omega) (Zz hs)
  ·exact oa [11,13,14] fun D J w hs=>Qch (z:=dd[j2]!) lo Qar hs 0 rfl rfl (by omega) (by first|omega|(simp only [QQ5,Go.Sort.size_swp];omega)) rfl rfl rfl fun _ hs=>⟨trivial,hs⟩
  rintro J1 w15 J2 hJ hs
  replace hJ:J2=mix (sq 66 14) J1 _:=hJ
  replace hs:Own w S w15 [row (.slice a N c) ((((dd.setIfInBounds j2 (dd[lo]!)).setIfInBounds lo (dd[j2]!)).toList).map (ic .u16)) 32 1]:=hs
  subst hJ
  refine Qag (Qab (Qaa (Qac (V:=I6 (j2:Int)) rfl (Qaa (Qad (V:=I6 (j2:Int)) rfl (Qaa (Qad (V:=.bool true) rfl (Qae (Qaw ?_)))))))))
  refine ⟨_,QbI (U:=I6 (j2:Int)) (V:=.bool true) Tryz.results180 rfl rfl,?_⟩
  have hX:partition ltInt d lo hi pvx=(j2,true,Sort.swp dd j2 lo):=Qsl hdd hi2 hj2 c12
  rw [hX]
  exact ⟨(),rfl,hs.take 1,by first|(rw [Go.Sort.size_swp];assumption)|assumption⟩
 replace c12:=QQ2 c12
 refine Qao (Qag (QaH HM [some 81,some 82,some 83,some 84,some 85,some 86,some 87,some 88,some 89,some 90,some 91,some 92,some 93,none,some 94,none] [] [0,0,0,0,0,0,48,112,0,0,768,1792,4083,8179,16383,32767] [pv (.slice a N c),pv (I6 (i2:Int)),pv (.slice a N c),pv (I6 (j2:Int)),pv (.slice a N c),pv (I6 (j2:Int)),pv (.pointer (some ⟨bkS (.slice a N c),ofS (.slice a N c)+(j2:Int).toNat*1,none⟩)),pv (I7 (dd[j2]!)),pv (.slice a N c),pv (I6 (i2:Int)),pv (.pointer (some ⟨bkS (.slice a N c),ofS (.slice a N c)+(i2:Int).toNat*1,none⟩)),pv (I7 (dd[i2]!)),pv (.pointer (some ⟨bkS (.slice a N c),ofS (.slice a N c)+(i2:Int).toNat*1,none⟩)),pn,pv (.pointer (some ⟨bkS (.slice a N c),ofS (.slice a N c)+(j2:Int).toNat*1,none⟩)),pn] (fun D J=>[cond (D 15) (row (.slice a N c) ((((dd.setIfInBounds i2 (dd[j2]!)).setIfInBounds j2 (dd[i2]!)).toList).map (ic .u16)) 32 1) (cond (D 13) (row (.slice a N c) (((dd.setIfInBounds i2 (dd[j2]!)).toList).map (ic .u16)) 32 1) (row (.slice a N c) (dd.toList.map (ic .u16)) 32 1))]) [] (by kernel_rfl) hs ⟨?_,?_,?_,?_,?_,?_,?_,?_,?_,?_,?_,?_,?_,?_,?_,?_,trivial⟩ ?_))
 ·exact oa [] fun D J w hs=>Qac (V:=.slice a N c) rfl (Zz hs)
 ·exact oa [] fun D J w hs=>Qac (V:=.int .i64 (i2:Int)) rfl (Zz hs)
 ·exact oa [] fun D J w hs=>Qac (V:=.slice a N c) rfl (Zz hs)
 ·exact oa [] fun D J w hs=>Qac (V:=.int .i64 (j2:Int)) rfl (Zz hs)
 ·exact oa [] fun D J w hs=>Qac (V:=.slice a N c) rfl (Zz hs)
 ·exact oa [] fun D J w hs=>Qac (V:=.int .i64 (j2:Int)) rfl (Zz hs)
 ·exact ob [4,5] [13,15] rfl rfl fun D J w hs=>Qax QaN Qar.1 (hs.rd 0 rfl) rfl rfl (by omega) (by simp only [QQ6,QQ9,QQ5,Go.Sort.size_swp];omega) (Zz hs)
 ·exact ob [6] [13,15] rfl rfl fun D J w hs=>QaW (j:=0) (V:=I7 (dd[j2]!)) j2 Qar (hs.rd 0 rfl) (Qbo (by omega)) rfl rfl (by omega) (Zz hs)
 ·exact oa [] fun D J w hs=>Qac (V:=.slice a N c) rfl (Zz hs)
 ·exact oa [] fun D J w hs=>Qac (V:=.int .i64 (i2:Int)) rfl (Zz hs)
 ·exact ob [8,9] [13,15] rfl rfl fun D J w hs=>Qax QaN Qar.1 (hs.rd 0 rfl) rfl rfl (by omega) (by simp only [QQ6,QQ9,QQ5,Go.Sort.size_swp];omega) (Zz hs)
 ·exact ob [10] [13,15] rfl rfl fun D J w hs=>QaW (j:=0) (V:=I7 (dd[i2]!)) i2 Qar (hs.rd 0 rfl) (Qbo (by omega)) rfl rfl (by omega) (Zz hs)
 ·exact ob [0,1] [13,15] rfl rfl fun D J w hs=>Qax QaN Qar.1 (hs.rd 0 rfl) rfl rfl (by omega) (by simp only [QQ6,QQ9,QQ5,Go.Sort.size_swp];omega) (Zz hs)
 ·exact ob [7,12] [15] rfl rfl fun D J w hs=>Qch (z:=dd[j2]!) i2 Qar hs 0 rfl rfl (by omega) (by first|omega|(simp only [QQ5,Go.Sort.size_swp];omega)) rfl rfl rfl fun _ hs=>⟨trivial,hs⟩
 ·exact ob [2,3,13] [15] rfl rfl fun D J w hs=>Qax QaN Qar.1 (hs.rd 0 rfl) rfl rfl (by omega) (by simp only [QQ6,QQ9,QQ5,Go.Sort.size_swp];omega) (Zz hs)
 ·exact oa [11,13,14] fun D J w hs=>Qch (z:=dd[i2]!) j2 Qar hs 0 rfl rfl (by omega) (by first|omega|(simp only [QQ5,Go.Sort.size_swp];omega)) rfl rfl rfl fun _ hs=>⟨trivial,hs⟩
 rintro J1 w18 J2 hJ hs
 replace hJ:J2=mix (sq 81 14) J1 _:=hJ
 replace hs:Own w S w18 [row (.slice a N c) ((((dd.setIfInBounds i2 (dd[j2]!)).setIfInBounds j2 (dd[i2]!)).toList).map (ic .u16)) 32 1]:=hs
 subst hJ
 refine Qag (Qab (Qaa (Qac (V:=I6 (i2:Int)) rfl (Qaa (QaF (a:=(i2:Int)) (b:=1) (c:=((i2+1:Nat):Int)) rfl rfl (Qak (by omega) (by omega)) (Qaa (Qad (V:=I6 ((i2+1:Nat):Int)) rfl (Qae (Qag (Qab (Qaa (Qac (V:=I6 (j2:Int)) rfl (Qaa (Qa5 (a:=(j2:Int)) (b:=1) (c:=((j2-1:Nat):Int)) rfl rfl (Qak (by omega) (by omega)) (Qaa (Qad (V:=I6 ((j2-1:Nat):Int)) rfl (Qae (Qag (Qan ?_)))))))))))))))))))
 have hpt:=QvE hdd hi2 hj2 c12
 refine QaD (fun J μ J' w'=>∃ (Jo:Env) (i:Nat) (j:Nat) (d1:Array Int),J'=upd (upd (mix ([10,11]++sq 99 54) Jo J) 10 (I6 (i:Int))) 11 (I6 (j:Int))/\(lo+1<=i)/\(i<=hi+1)/\(j<hi/\lo<=j)/\(d1.size=N)/\(Sort.partLoop ltInt lo i j d1=Sort.partLoop ltInt lo (i2+1) (j2-1) (Sort.swp dd i2 j2))/\μ=j+1-i/\Own w S w' [row (.slice a N c) (d1.toList.map (ic .u16)) 32 1]) ?_ ?_
 ·exact ⟨_,_,i2+1,j2-1,((dd.setIfInBounds i2 (dd[j2]!)).setIfInBounds j2 (dd[i2]!)),Qal (Qal (Qap (ds:=([10,11]++sq 99 54)) (Agr.refl _ _)) rfl) rfl,(by omega),(by omega),(by omega),(by simp only [QQ5];exact hzd),rfl,rfl,hs⟩
 rintro μ J' w19 ⟨Jo,i,j,d1,rfl,hi0,hi1,hj,hz1,hev,rfl,hs⟩
 refine Qan (Qag (Qan (QaD (fun J μ J' w'=>∃ (Jo:Env) (i4:Nat),J'=upd (mix ([10]++sq 99 16) Jo J) 10 (I6 (i4:Int))/\(i<=i4)/\(i4<=hi+1)/\(Sort.scanUp (fun x=>ltInt x d1[lo]!) d1 (j) i4=Sort.scanUp (fun x=>ltInt x d1[lo]!) d1 (j) (i))/\μ=j+1-i4/\Own w S w' [row (.slice a N c) (d1.toList.map (ic .u16)) 32 1]) ?_ ?_)))
 ·exact ⟨_,_,i,Qal (Qap (ds:=([10]++sq 99 16)) (Agr.refl _ _)) rfl,(Nat.le_refl _),(by omega),rfl,rfl,hs⟩
 rintro μ J' w20 ⟨Jo,i4,rfl,hi4a,hi4b,hsu4,rfl,hs⟩
 refine Qag (Qag (QaH HM [some 99,some 100,some 101,some 102,some 103,some 104,some 105,some 106,some 107,some 108,some 109,some 110,some 111,some 112] [] [0,0,3,7,15,15,63,127,15,15,783,1807,4095,8191] [pv (I6 (i4:Int)),pv (I6 (j:Int)),pv (.bool (decide ((i4:Int)<=(j:Int)))),pv (.bool (decide ((i4:Int)<=(j:Int)))),pg ((decide ((i4:Int)<=(j:Int))) == true) (.slice a N c),pg ((decide ((i4:Int)<=(j:Int))) == true) (I6 (i4:Int)),pg ((decide ((i4:Int)<=(j:Int))) == true) (.pointer (some ⟨bkS (.slice a N c),ofS (.slice a N c)+(i4:Int).toNat*1,none⟩)),pg ((decide ((i4:Int)<=(j:Int))) == true) (I7 (d1[i4]!)),pg ((decide ((i4:Int)<=(j:Int))) == true) (.slice a N c),pg ((decide ((i4:Int)<=(j:Int))) == true) (I6 (lo:Int)),pg ((decide ((i4:Int)<=(j:Int))) == true) (.pointer (some ⟨bkS (.slice a N c),ofS (.slice a N c)+(lo:Int).toNat*1,none⟩)),pg ((decide ((i4:Int)<=(j:Int))) == true) (I7 (d1[lo]!)),pg ((decide ((i4:Int)<=(j:Int))) == true) (.bool (decide (d1[i4]!<d1[lo]!))),pv (.bool ((decide ((i4:Int)<=(j:Int)))&&(decide (d1[i4]!<d1[lo]!))))] (fun _ _=>_) [13] (by kernel_rfl) hs ⟨?_,?_,?_,?_,?_,?_,?_,?_,?_,?_,?_,?_,?_,?_,trivial⟩ ?_))
 ·exact oa [] fun D J w hs=>Qac (V:=.int .i64 (i4:Int)) rfl (Zz hs)
 ·exact oa [] fun D J w hs=>Qac (V:=.int .i64 (j:Int)) rfl (Zz hs)
 ·exact oa [0,1] fun D J w hs=>QdZ rfl rfl (Zz hs)
 ·exact oa [2] fun D J w hs=>Qac (V:=.bool (decide ((i4:Int)<=(j:Int)))) rfl (Zz hs)
 ·refine og [3] fun D J w hG hs=>?_
  have hgd:=QQ1 (eq_of_beq hG)
  exact Qac (V:=.slice a N c) rfl (Zz hs)
 ·refine og [3] fun D J w hG hs=>?_
  have hgd:=QQ1 (eq_of_beq hG)
  exact Qac (V:=.int .i64 (i4:Int)) rfl (Zz hs)
 ·refine oy [3,4,5] [4,5] fun D J w hG hs=>?_
  have hgd:=QQ1 (eq_of_beq hG)
  exact Qax QaN Qar.1 (hs.rd 0 rfl) rfl rfl (by omega) (by simp only [QQ6,QQ9,QQ5,Go.Sort.size_swp];omega) (Zz hs)
 ·refine oy [3,6] [6] fun D J w hG hs=>?_
  have hgd:=QQ1 (eq_of_beq hG)
  exact QaW (j:=0) (V:=.int .u16 (d1[i4]!)) i4 Qar (hs.rd 0 rfl) (Qbo (by omega)) rfl rfl (by omega) (Zz hs)
 ·refine og [3] fun D J w hG hs=>?_
  have hgd:=QQ1 (eq_of_beq hG)
  exact Qac (V:=.slice a N c) rfl (Zz hs)
 ·refine og [3] fun D J w hG hs=>?_
  have hgd:=QQ1 (eq_of_beq hG)
  exact Qac (V:=.int .i64 (lo:Int)) rfl (Zz hs)
 ·refine oy [3,8,9] [8,9] fun D J w hG hs=>?_
  have hgd:=QQ1 (eq_of_beq hG)
  exact Qax QaN Qar.1 (hs.rd 0 rfl) rfl rfl (by omega) (by simp only [QQ6,QQ9,QQ5,Go.Sort.size_swp];omega) (Zz hs)
 ·refine oy [3,10] [10] fun D J w hG hs=>?_
  have hgd:=QQ1 (eq_of_beq hG)
  exact QaW (j:=0) (V:=.int .u16 (d1[lo]!)) lo Qar (hs.rd 0 rfl) (Qbo (by omega)) rfl rfl (by omega) (Zz hs)
 ·refine oy [3,7,11] [7,11] fun D J w hG hs=>?_
  have hgd:=QQ1 (eq_of_beq hG)
  exact Qat (vs:=[.int .u16 (d1[i4]!),.int .u16 (d1[lo]!)]) (V:=.bool (decide (d1[i4]!<d1[lo]!))) Qdc rfl rfl (Qcr _ (d1[i4]!) (d1[lo]!)) hs fun _ hs=>Zz hs
 ·exact oa [3,12] fun D J w hs=>Qbn (h':=decide (d1[i4]!<d1[lo]!)) rfl rfl rfl (Zz hs)
 rintro J1 w22 J2 hJ hs
 replace hJ:J2=upd (mix (sq 99 14) J1 _) 112 (.bool ((decide ((i4:Int)<=(j:Int)))&&(decide (d1[i4]!<d1[lo]!)))):=hJ
 subst hJ
 refine Qam (t:=(decide ((i4:Int)<=(j:Int)))&&(decide (d1[i4]!<d1[lo]!))) rfl (fun c23=>?_) (fun c23=>?_)
 ·
  have c23r:=Qcy c23
  replace c23:=Qb3 c23
  replace c23:=QQ1 c23
  replace c23r:=QQ1 c23r
  refine Qao (Qan (Qab (Qaa (Qac (V:=I6 (i4:Int)) rfl (Qaa (QaF (a:=(i4:Int)) (b:=1) (c:=((i4+1:Nat):Int)) rfl rfl (Qak (by omega) (by omega)) (Qaa (Qad (V:=I6 ((i4+1:Nat):Int)) rfl (Qae ?_)))))))))
  refine ⟨_,?_,_,i4+1,Qal (Qap (ds:=([10]++sq 99 16)) (by repeat (first|exact Agr.refl _ _|refine Agr.upd ?_ rfl|refine Agr.mix ?_ rfl))) rfl,(by omega),(by omega),(by rw [← hsu4,QlO (p:=fun x=>ltInt x d1[lo]!) (b:=decide (d1[i4]!<d1[lo]!)) rfl c23 (QQ3 c23r)]),rfl,hs.take 1⟩
  omega
 refine QaJ (Qag (Qan ?_))
 have hi4:i4=Sort.scanUp (fun x=>ltInt x d1[lo]!) d1 j i:=by rw [← hsu4,QrT (p:=fun x=>ltInt x d1[lo]!) (b:=decide (d1[i4]!<d1[lo]!)) rfl c23]
 refine QaD (fun J μ J' w'=>∃ (Jo:Env) (j4:Nat),J'=upd (mix ([11]++sq 115 17) Jo J) 11 (I6 (j4:Int))/\(j4<=j)/\(Sort.scanDown (fun x=>!ltInt x d1[lo]!) d1 i4 j4=Sort.scanDown (fun x=>!ltInt x d1[lo]!) d1 i4 (j))/\(lo<=j4)/\μ=2*j4/\Own w S w' [row (.slice a N c) (d1.toList.map (ic .u16)) 32 1]) ?_ ?_
 ·exact ⟨_,_,j,Qal (Qap (ds:=([11]++sq 115 17)) (Agr.refl _ _)) rfl,(Nat.le_refl _),rfl,(by omega),rfl,hs⟩
 rintro μ J' w24 ⟨Jo,j4,rfl,hj4b,hsd4,hlowj4,rfl,hs⟩
 refine Qag (Qag (QaH HM [some 115,some 116,some 117,some 118,some 119,some 120,some 121,some 122,some 123,some 124,some 125,some 126,some 127,some 128,some 129] [] [0,0,3,7,15,15,63,127,15,15,783,1807,4095,8191,16383] [pv (I6 (i4:Int)),pv (I6 (j4:Int)),pv (.bool (decide ((i4:Int)<=(j4:Int)))),pv (.bool (decide ((i4:Int)<=(j4:Int)))),pg ((decide ((i4:Int)<=(j4:Int))) == true) (.slice a N c),pg ((decide ((i4:Int)<=(j4:Int))) == true) (I6 (j4:Int)),pg ((decide ((i4:Int)<=(j4:Int))) == true) (.pointer (some ⟨bkS (.slice a N c),ofS (.slice a N c)+(j4:Int).toNat*1,none⟩)),pg ((decide ((i4:Int)<=(j4:Int))) == true) (I7 (d1[j4]!)),pg ((decide ((i4:Int)<=(j4:Int))) == true) (.slice a N c),pg ((decide ((i4:Int)<=(j4:Int))) == true) (I6 (lo:Int)),pg ((decide ((i4:Int)<=(j4:Int))) == true) (.pointer (some ⟨bkS (.slice a N c),ofS (.slice a N c)+(lo:Int).toNat*1,none⟩)),pg ((decide ((i4:Int)<=(j4:Int))) == true) (I7 (d1[lo]!)),pg ((decide ((i4:Int)<=(j4:Int))) == true) (.bool (decide (d1[j4]!<d1[lo]!))),pg ((decide ((i4:Int)<=(j4:Int))) == true) (.bool (!decide (d1[j4]!<d1[lo]!))),pv (.bool ((decide ((i4:Int)<=(j4:Int)))&&(!decide (d1[j4]!<d1[lo]!))))] (fun _ _=>_) [14] (by kernel_rfl) hs ⟨?_,?_,?_,?_,?_,?_,?_,?_,?_,?_,?_,?_,?_,?_,?_,trivial⟩ ?_))
 ·exact oa [] fun D J w hs=>Qac (V:=.int .i64 (i4:Int)) rfl (Zz hs)
 ·exact oa [] fun D J w hs=>Qac (V:=.int .i64 (j4:Int)) rfl (Zz hs)
 ·exact oa [0,1] fun D J w hs=>QdZ rfl rfl (Zz hs)
 ·exact oa [2] fun D J w hs=>Qac (V:=.bool (decide ((i4:Int)<=(j4:Int)))) rfl (Zz hs)
 ·refine og [3] fun D J w hG hs=>?_
  have hgd:=QQ1 (eq_of_beq hG)
  exact Qac (V:=.slice a N c) rfl (Zz hs)
 ·refine og [3] fun D J w hG hs=>?_
  have hgd:=QQ1 (eq_of_beq hG)
  exact Qac (V:=.int .i64 (j4:Int)) rfl (Zz hs)
 ·refine oy [3,4,5] [4,5] fun D J w hG hs=>?_
  have hgd:=QQ1 (eq_of_beq hG)
  exact Qax QaN Qar.1 (hs.rd 0 rfl) rfl rfl (by omega) (by simp only [QQ6,QQ9,QQ5,Go.Sort.size_swp];omega) (Zz hs)
 ·refine oy [3,6] [6] fun D J w hG hs=>?_
  have hgd:=QQ1 (eq_of_beq hG)
  exact QaW (j:=0) (V:=.int .u16 (d1[j4]!)) j4 Qar (hs.rd 0 rfl) (Qbo (by omega)) rfl rfl (by omega) (Zz hs)
 ·refine og [3] fun D J w hG hs=>?_
  have hgd:=QQ1 (eq_of_beq hG)
  exact Qac (V:=.slice a N c) rfl (Zz hs)
 ·refine og [3] fun D J w hG hs=>?_
  have hgd:=QQ1 (eq_of_beq hG)
  exact Qac (V:=.int .i64 (lo:Int)) rfl (Zz hs)
 ·refine oy [3,8,9] [8,9] fun D J w hG hs=>?_
  have hgd:=QQ1 (eq_of_beq hG)
  exact Qax QaN Qar.1 (hs.rd 0 rfl) rfl rfl (by omega) (by simp only [QQ6,QQ9,QQ5,Go.Sort.size_swp];omega) (Zz hs)
 ·refine oy [3,10] [10] fun D J w hG hs=>?_
  have hgd:=QQ1 (eq_of_beq hG)
  exact QaW (j:=0) (V:=.int .u16 (d1[lo]!)) lo Qar (hs.rd 0 rfl) (Qbo (by omega)) rfl rfl (by omega) (Zz hs)
 ·refine oy [3,7,11] [7,11] fun D J w hG hs=>?_
  have hgd:=QQ1 (eq_of_beq hG)
  exact Qat (vs:=[.int .u16 (d1[j4]!),.int .u16 (d1[lo]!)]) (V:=.bool (decide (d1[j4]!<d1[lo]!))) Qdc rfl rfl (Qcr _ (d1[j4]!) (d1[lo]!)) hs fun _ hs=>Zz hs
 ·refine oy [3,12] [12] fun D J w hG hs=>?_
  have hgd:=QQ1 (eq_of_beq hG)
  exact Qbz rfl (Zz hs)
 ·exact oa [3,13] fun D J w hs=>Qbn (h':=!decide (d1[j4]!<d1[lo]!)) rfl rfl rfl (Zz hs)
 rintro J1 w26 J2 hJ hs
 replace hJ:J2=upd (mix (sq 115 15) J1 _) 129 (.bool ((decide ((i4:Int)<=(j4:Int)))&&(!decide (d1[j4]!<d1[lo]!)))):=hJ
 subst hJ
 refine Qam (t:=(decide ((i4:Int)<=(j4:Int)))&&(!decide (d1[j4]!<d1[lo]!))) rfl (fun c27=>?_) (fun c27=>?_)
 ·
  have c27r:=Qcy c27
  replace c27:=Qb3 c27
  replace c27:=QQ1 c27
  replace c27r:=Qby c27r
  replace c27r:=QQ2 c27r
  refine Qao (Qan (Qab (Qaa (Qac (V:=I6 (j4:Int)) rfl (Qaa (Qa5 (a:=(j4:Int)) (b:=1) (c:=((j4-1:Nat):Int)) rfl rfl (Qak (by omega) (by omega)) (Qaa (Qad (V:=I6 ((j4-1:Nat):Int)) rfl (Qae ?_)))))))))
  refine ⟨_,?_,_,j4-1,Qal (Qap (ds:=([11]++sq 115 17)) (by repeat (first|exact Agr.refl _ _|refine Agr.upd ?_ rfl|refine Agr.mix ?_ rfl))) rfl,(by omega),(by rw [← hsd4,QnF (p:=fun x=>!ltInt x d1[lo]!) (b:=!decide (d1[j4]!<d1[lo]!)) (by omega) rfl c27 (by rw [QQ4 c27r];rfl)]),(by omega),rfl,hs.take 1⟩
  omega
 refine QaJ (Qag (Qag ?_))
 have hj4:j4=Sort.scanDown (fun x=>!ltInt x d1[lo]!) d1 i4 j:=by rw [← hsd4,Qr1 (p:=fun x=>!ltInt x d1[lo]!) (b:=!decide (d1[j4]!<d1[lo]!)) rfl c27]
 refine Qab (Qaa (Qac (V:=I6 (i4:Int)) rfl (Qaa (Qac (V:=I6 (j4:Int)) rfl (Qaa (Qb2 rfl rfl (Qae (Qam (t:=decide ((j4:Int)<(i4:Int))) rfl (fun c28=>?_) (fun c28=>?_)))))))))
 ·
  replace c28:=QQ1 c28
  refine QaJ (Qag (QaH HM [some 153,some 154,some 155,some 156,some 157,some 158,some 159,some 160,some 161,some 162,some 163,some 164,some 165,none,some 166,none] [] [0,0,0,0,0,0,48,112,0,0,768,1792,4083,8179,16383,32767] [pv (.slice a N c),pv (I6 (j4:Int)),pv (.slice a N c),pv (I6 (lo:Int)),pv (.slice a N c),pv (I6 (lo:Int)),pv (.pointer (some ⟨bkS (.slice a N c),ofS (.slice a N c)+(lo:Int).toNat*1,none⟩)),pv (I7 (d1[lo]!)),pv (.slice a N c),pv (I6 (j4:Int)),pv (.pointer (some ⟨bkS (.slice a N c),ofS (.slice a N c)+(j4:Int).toNat*1,none⟩)),pv (I7 (d1[j4]!)),pv (.pointer (some ⟨bkS (.slice a N c),ofS (.slice a N c)+(j4:Int).toNat*1,none⟩)),pn,pv (.pointer (some ⟨bkS (.slice a N c),ofS (.slice a N c)+(lo:Int).toNat*1,none⟩)),pn] (fun D J=>[cond (D 15) (row (.slice a N c) ((((d1.setIfInBounds j4 (d1[lo]!)).setIfInBounds lo (d1[j4]!)).toList).map (ic .u16)) 32 1) (cond (D 13) (row (.slice a N c) (((d1.setIfInBounds j4 (d1[lo]!)).toList).map (ic .u16)) 32 1) (row (.slice a N c) (d1.toList.map (ic .u16)) 32 1))]) [] (by kernel_rfl) hs ⟨?_,?_,?_,?_,?_,?_,?_,?_,?_,?_,?_,?_,?_,?_,?_,?_,trivial⟩ ?_))
  ·exact oa [] fun D J w hs=>Qac (V:=.slice a N c) rfl (Zz hs)
  ·exact oa [] fun D J w hs=>Qac (V:=.int .i64 (j4:Int)) rfl (Zz hs)
  ·exact oa [] fun D J w hs=>Qac (V:=.slice a N c) rfl (Zz hs)
  ·exact oa [] fun D J w hs=>Qac (V:=.int .i64 (lo:Int)) rfl (Zz hs)
  ·exact oa [] fun D J w hs=>Qac (V:=.slice a N c) rfl (Zz hs)
  ·exact oa [] fun D J w hs=>Qac (V:=.int .i64 (lo:Int)) rfl (Zz hs)
  ·exact ob [4,5] [13,15] rfl rfl fun D J w hs=>Qax QaN Qar.1 (hs.rd 0 rfl) rfl rfl (by omega) (by simp only [QQ6,QQ9,QQ5,Go.Sort.size_swp];omega) (Zz hs)
  ·exact ob [6] [13,15] rfl rfl fun D J w hs=>QaW (j:=0) (V:=I7 (d1[lo]!)) lo Qar (hs.rd 0 rfl) (Qbo (by omega)) rfl rfl (by omega) (Zz hs)
  ·exact oa [] fun D J w hs=>Qac (V:=.slice a N c) rfl (Zz hs)
  ·exact oa [] fun D J w hs=>Qac (V:=.int .i64 (j4:Int)) rfl (Zz hs)
  ·exact ob [8,9] [13,15] rfl rfl fun D J w hs=>Qax QaN Qar.1 (hs.rd 0 rfl) rfl rfl (by omega) (by simp only [QQ6,QQ9,QQ5,Go.Sort.size_swp];omega) (Zz hs)
  ·exact ob [10] [13,15] rfl rfl fun D J w hs=>QaW (j:=0) (V:=I7 (d1[j4]!)) j4 Qar (hs.rd 0 rfl) (Qbo (by omega)) rfl rfl (by omega) (Zz hs)
  ·exact ob [0,1] [13,15] rfl rfl fun D J w hs=>Qax QaN Qar.1 (hs.rd 0 rfl) rfl rfl (by omega) (by simp only [QQ6,QQ9,QQ5,Go.Sort.size_swp];omega) (Zz hs)
  ·exact ob [7,12] [15] rfl rfl fun D J w hs=>Qch (z:=d1[lo]!) j4 Qar hs 0 rfl rfl (by omega) (by first|omega|(simp only [QQ5,Go.Sort.size_swp];omega)) rfl rfl rfl fun _ hs=>⟨trivial,hs⟩
  ·exact ob [2,3,13] [15] rfl rfl fun D J w hs=>Qax QaN Qar.1 (hs.rd 0 rfl) rfl rfl (by omega) (by simp only [QQ6,QQ9,QQ5,Go.Sort.size_swp];omega) (Zz hs)
  ·exact oa [11,13,14] fun D J w hs=>Qch (z:=d1[j4]!) lo Qar hs 0 rfl rfl (by omega) (by first|omega|(simp only [QQ5,Go.Sort.size_swp];omega)) rfl rfl rfl fun _ hs=>⟨trivial,hs⟩
  rintro J1 w31 J2 hJ hs
  replace hJ:J2=mix (sq 153 14) J1 _:=hJ
  replace hs:Own w S w31 [row (.slice a N c) ((((d1.setIfInBounds j4 (d1[lo]!)).setIfInBounds lo (d1[j4]!)).toList).map (ic .u16)) 32 1]:=hs
  subst hJ
  refine Qag (Qab (Qaa (Qac (V:=I6 (j4:Int)) rfl (Qaa (Qad (V:=I6 (j4:Int)) rfl (Qaa (Qad (V:=.bool false) rfl (Qae (Qaw ?_)))))))))
  refine ⟨_,QbI (U:=I6 (j4:Int)) (V:=.bool false) Tryz.results180 rfl rfl,?_⟩
  have hX:partition ltInt d lo hi pvx=(j4,false,Sort.swp d1 j4 lo):=by rw [hpt,← hev,Qsd hi4 hj4 c28]
  rw [hX]
  exact ⟨(),rfl,hs.take 1,by first|(rw [Go.Sort.size_swp];assumption)|assumption⟩
 replace c28:=QQ2 c28
 refine Qao (Qag (QaH HM [some 135,some 136,some 137,some 138,some 139,some 140,some 141,some 142,some 143,some 144,some 145,some 146,some 147,none,some 148,none] [] [0,0,0,0,0,0,48,112,0,0,768,1792,4083,8179,16383,32767] [pv (.slice a N c),pv (I6 (i4:Int)),pv (.slice a N c),pv (I6 (j4:Int)),pv (.slice a N c),pv (I6 (j4:Int)),pv (.pointer (some ⟨bkS (.slice a N c),ofS (.slice a N c)+(j4:Int).toNat*1,none⟩)),pv (I7 (d1[j4]!)),pv (.slice a N c),pv (I6 (i4:Int)),pv (.pointer (some ⟨bkS (.slice a N c),ofS (.slice a N c)+(i4:Int).toNat*1,none⟩)),pv (I7 (d1[i4]!)),pv (.pointer (some ⟨bkS (.slice a N c),ofS (.slice a N c)+(i4:Int).toNat*1,none⟩)),pn,pv (.pointer (some ⟨bkS (.slice a N c),ofS (.slice a N c)+(j4:Int).toNat*1,none⟩)),pn] (fun D J=>[cond (D 15) (row (.slice a N c) ((((d1.setIfInBounds i4 (d1[j4]!)).setIfInBounds j4 (d1[i4]!)).toList).map (ic .u16)) 32 1) (cond (D 13) (row (.slice a N c) (((d1.setIfInBounds i4 (d1[j4]!)).toList).map (ic .u16)) 32 1) (row (.slice a N c) (d1.toList.map (ic .u16)) 32 1))]) [] (by kernel_rfl) hs ⟨?_,?_,?_,?_,?_,?_,?_,?_,?_,?_,?_,?_,?_,?_,?_,?_,trivial⟩ ?_))
 ·exact oa [] fun D J w hs=>Qac (V:=.slice a N c) rfl (Zz hs)
 ·exact oa [] fun D J w hs=>Qac (V:=.int .i64 (i4:Int)) rfl (Zz hs)
 ·exact oa [] fun D J w hs=>Qac (V:=.slice a N c) rfl (Zz hs)
 ·exact oa [] fun D J w hs=>Qac (V:=.int .i64 (j4:Int)) rfl (Zz hs)
 ·exact oa [] fun D J w hs=>Qac (V:=.slice a N c) rfl (Zz hs)
 ·exact oa [] fun D J w hs=>Qac (V:=.int .i64 (j4:Int)) rfl (Zz hs)
 ·exact ob [4,5] [13,15] rfl rfl fun D J w hs=>Qax QaN Qar.1 (hs.rd 0 rfl) rfl rfl (by omega) (by simp only [QQ6,QQ9,QQ5,Go.Sort.size_swp];omega) (Zz hs)
 ·exact ob [6] [13,15] rfl rfl fun D J w hs=>QaW (j:=0) (V:=I7 (d1[j4]!)) j4 Qar (hs.rd 0 rfl) (Qbo (by omega)) rfl rfl (by omega) (Zz hs)
 ·exact oa [] fun D J w hs=>Qac (V:=.slice a N c) rfl (Zz hs)
 ·exact oa [] fun D J w hs=>Qac (V:=.int .i64 (i4:Int)) rfl (Zz hs)
 ·exact ob [8,9] [13,15] rfl rfl fun D J w hs=>Qax QaN Qar.1 (hs.rd 0 rfl) rfl rfl (by omega) (by simp only [QQ6,QQ9,QQ5,Go.Sort.size_swp];omega) (Zz hs)
 ·exact ob [10] [13,15] rfl rfl fun D J w hs=>QaW (j:=0) (V:=I7 (d1[i4]!)) i4 Qar (hs.rd 0 rfl) (Qbo (by omega)) rfl rfl (by omega) (Zz hs)
 ·exact ob [0,1] [13,15] rfl rfl fun D J w hs=>Qax QaN Qar.1 (hs.rd 0 rfl) rfl rfl (by omega) (by simp only [QQ6,QQ9,QQ5,Go.Sort.size_swp];omega) (Zz hs)
 ·exact ob [7,12] [15] rfl rfl fun D J w hs=>Qch (z:=d1[j4]!) i4 Qar hs 0 rfl rfl (by omega) (by first|omega|(simp only [QQ5,Go.Sort.size_swp];omega)) rfl rfl rfl fun _ hs=>⟨trivial,hs⟩
 ·exact ob [2,3,13] [15] rfl rfl fun D J w hs=>Qax QaN Qar.1 (hs.rd 0 rfl) rfl rfl (by omega) (by simp only [QQ6,QQ9,QQ5,Go.Sort.size_swp];omega) (Zz hs)
 ·exact oa [11,13,14] fun D J w hs=>Qch (z:=d1[i4]!) j4 Qar hs 0 rfl rfl (by omega) (by first|omega|(simp only [QQ5,Go.Sort.size_swp];omega)) rfl rfl rfl fun _ hs=>⟨trivial,hs⟩
 rintro J1 w34 J2 hJ hs
 replace hJ:J2=mix (sq 135 14) J1 _:=hJ
 replace hs:Own w S w34 [row (.slice a N c) ((((d1.setIfInBounds i4 (d1[j4]!)).setIfInBounds j4 (d1[i4]!)).toList).map (ic .u16)) 32 1]:=hs
 subst hJ
 refine Qag (Qab (Qaa (Qac (V:=I6 (i4:Int)) rfl (Qaa (QaF (a:=(i4:Int)) (b:=1) (c:=((i4+1:Nat):Int)) rfl rfl (Qak (by omega) (by omega)) (Qaa (Qad (V:=I6 ((i4+1:Nat):Int)) rfl (Qae (Qab (Qaa (Qac (V:=I6 (j4:Int)) rfl (Qaa (Qa5 (a:=(j4:Int)) (b:=1) (c:=((j4-1:Nat):Int)) rfl rfl (Qak (by omega) (by omega)) (Qaa (Qad (V:=I6 ((j4-1:Nat):Int)) rfl (Qae ?_))))))))))))))))
 refine ⟨_,?_,_,i4+1,j4-1,((d1.setIfInBounds i4 (d1[j4]!)).setIfInBounds j4 (d1[i4]!)),Qal (Qal (Qap (ds:=([10,11]++sq 99 54)) (by repeat (first|exact Agr.refl _ _|refine Agr.upd ?_ rfl|refine Agr.mix ?_ rfl))) rfl) rfl,(by omega),(by omega),(by omega),(by simp only [QQ5];exact hz1),(by rw [← hev,QvF hi4 hj4 c28];rfl),rfl,hs.take 1⟩
 omega
end Tt
end Go.Proofs
namespace Go.Proofs
open Go Go.Vx Go.RowKit
namespace Tt
theorem QuY (w:World) (S:Nat->Prop) (a:Option Addr) (N c:Nat) (d:Array Int) (hsz:d.size=N) (hN:N<=2305843009213693951) (lo hi:Nat) (h1:lo<=hi) (h2:hi<=N) (hxor:Qr9 Tryz.prog 163 211) (hpow:Qsm Tryz.prog 162) (hR:(row (.slice a N c) (d.toList.map (ic .u16)) 32 1).holds w S) (hlt:∀ x,S x->x<w.heap.size):Calls Tryz.prog 174 #[.slice a N c,.int .i64 (lo:Int),.int .i64 (hi:Int)] w (fun e w'=>∃ x:Unit,e = .returned (.tuple #[])/\Own w S w' [row (.slice a N c) ((Sort.breakPatterns d lo hi).toList.map (ic .u16)) 32 1]/\(Sort.breakPatterns d lo hi).size=N):=by
 refine Qai (n:=65) Tryz.func174 rfl Tryz.ntmps174 rfl ?_
 have hs:=Own.lent hR hlt
 refine Qag (Qab (Qaa (Qac (V:=I6 (hi:Int)) rfl (Qaa (Qac (V:=I6 (lo:Int)) rfl (Qaa (Qa5 (a:=(hi:Int)) (b:=(lo:Int)) (c:=((hi-lo:Nat):Int)) rfl rfl (Qak (by omega) (by omega)) (Qaa (Qad (V:=I6 ((hi-lo:Nat):Int)) rfl (Qae (Qag (Qab (Qaa (Qac (V:=I6 ((hi-lo:Nat):Int)) rfl (Qaa (QcZ rfl rfl (Qae (Qam (t:=decide (8<=((hi-lo:Nat):Int))) rfl (fun c1=>?_) (fun c1=>?_)))))))))))))))))))
 ·
  replace c1:=QQ1 c1
  refine Qag (Qab (Qaa (Qac (V:=I6 ((hi-lo:Nat):Int)) rfl (Qaa (Qcl QhS QsF rfl (QdO (by omega) (by omega)) (Qaa (QaK (cs:=[.int .u64 0]) Qs0 rfl hs fun b2 w3 hs=>(Qaa (Qc0 (V:=.int .u64 ((hi-lo:Nat):Int)) (cs':=[.int .u64 ((hi-lo:Nat):Int)]) Qtp hs 1 rfl rfl rfl rfl (QQ8 rfl) rfl fun w4 hs=>(Qae (Qag (Qab (Qaa (Qac (V:=I6 ((hi-lo:Nat):Int)) rfl (Qaa (Qat (vs:=[I6 ((hi-lo:Nat):Int)]) (V:=.int .u64 ((1 <<< Sort.bitsLen (hi-lo):Nat):Int)) Qtu rfl rfl ?hc hs fun w5 hs=>?_))))))))))))))))
  case hc=>exact (hpow _ (hi-lo) (by omega))
  refine Qaa (Qad (V:=.int .u64 ((1 <<< Sort.bitsLen (hi-lo):Nat):Int)) rfl (Qae (Qag (Qab (Qaa (Qac (V:=I6 (lo:Int)) rfl (Qaa (Qac (V:=I6 ((hi-lo:Nat):Int)) rfl (Qaa (Qjp (a:=((hi-lo:Nat):Int)) (b:=4) (c:=(((hi-lo)/4:Nat):Int)) rfl rfl (by decide) (Qak rfl (by omega)) (Qaa (QgI (a:=(((hi-lo)/4:Nat):Int)) (b:=2) (c:=((((hi-lo)/4)*2:Nat):Int)) rfl rfl (Qak (by omega) (by omega)) (Qaa (QaF (a:=(lo:Int)) (b:=((((hi-lo)/4)*2:Nat):Int)) (c:=((lo+(((hi-lo)/4)*2):Nat):Int)) rfl rfl (Qak (by omega) (by omega)) (Qaa (Qa5 (a:=((lo+(((hi-lo)/4)*2):Nat):Int)) (b:=1) (c:=(((lo+(((hi-lo)/4)*2))-1:Nat):Int)) rfl rfl (Qak (by omega) (by omega)) (Qaa (Qad (V:=I6 (((lo+(((hi-lo)/4)*2))-1:Nat):Int)) rfl (Qae (Qan ?_))))))))))))))))))))
  have hmd:=Qt8 (n:=hi-lo) (by omega)
  have hu:(UInt64.ofNat (hi-lo)).toNat=hi-lo:=UInt64.toNat_ofNat_of_lt (by show hi-lo<18446744073709551616;omega)
  replace hs:=hs.conv 1 rfl (R':=blk b2 [.int .u64 (((UInt64.ofNat (hi-lo)).toNat:Nat):Int)] 211) (fun S h=>by rw [hu];exact h)
  refine QaD (fun J μ J' w'=>∃ (Jo:Env) (q:Nat) (st:UInt64 × Array Int),J'=upd (mix ([9,10]++sq 26 39) Jo J) 9 (I6 (((lo+((hi-lo)/4)*2-1)+q:Nat):Int))/\(q<=3)/\(st=bpS lo (hi-lo) (1 <<< Sort.bitsLen (hi-lo)) (UInt64.ofNat (hi-lo),d) (lo+((hi-lo)/4)*2-1) (q))/\(st.2.size=N)/\μ=3-q/\Own w S w' [row (.slice a N c) (st.2.toList.map (ic .u16)) 32 1,blk b2 [.int .u64 ((st.1.toNat:Nat):Int)] 211]) ?_ ?_
  ·exact ⟨_,_,0,(UInt64.ofNat (hi-lo),d),Qal (Qap (ds:=([9,10]++sq 26 39)) (Agr.refl _ _)) rfl,(by omega),rfl,hsz,rfl,hs⟩
  rintro μ J' w6 ⟨Jo,q,st,rfl,hq,hst,hzs,rfl,hs⟩
  refine Qag (Qag (Qab (Qaa (Qac (V:=I6 (((lo+((hi-lo)/4)*2-1)+q:Nat):Int)) rfl (Qaa (Qac (V:=I6 (lo:Int)) rfl (Qaa (Qac (V:=I6 ((hi-lo:Nat):Int)) rfl (Qaa (Qjp (a:=((hi-lo:Nat):Int)) (b:=4) (c:=(((hi-lo)/4:Nat):Int)) rfl rfl (by decide) (Qak rfl (by omega)) (Qaa (QgI (a:=(((hi-lo)/4:Nat):Int)) (b:=2) (c:=((((hi-lo)/4)*2:Nat):Int)) rfl rfl (Qak (by omega) (by omega)) (Qaa (QaF (a:=(lo:Int)) (b:=((((hi-lo)/4)*2:Nat):Int)) (c:=((lo+(((hi-lo)/4)*2):Nat):Int)) rfl rfl (Qak (by omega) (by omega)) (Qaa (QaF (a:=((lo+(((hi-lo)/4)*2):Nat):Int)) (b:=1) (c:=(((lo+(((hi-lo)/4)*2))+1:Nat):Int)) rfl rfl (Qak (by omega) (by omega)) (Qaa (QdZ rfl rfl (Qae (Qam (t:=decide ((((lo+((hi-lo)/4)*2-1)+q:Nat):Int)<=(((lo+(((hi-lo)/4)*2))+1:Nat):Int))) rfl (fun c7=>?_) (fun c7=>?_)))))))))))))))))))))
  ·
   replace c7:=QQ1 c7
   refine Qao (Qag (Qan (Qag ?_)))
   have hand:=Nat.and_le_right (n:=Sort.xorNextN st.1.toNat) (m:=1 <<< Sort.bitsLen (hi-lo)-1)
   refine Qab (Qaa (Qbr (vs:=[Pq b2 0]) (V:=fun _:Unit=>.int .u64 ((Sort.xorNextN st.1.toNat:Nat):Int)) (R:=blk b2 [.int .u64 ((st.1.toNat:Nat):Int)] 211) (R':=fun _=>blk b2 [.int .u64 ((Sort.xorNextN st.1.toNat:Nat):Int)] 211) (Lo:=fun _=>[]) (F:=fun _ _=>True) Qub rfl rfl hs 1 rfl (fun S hS hlt=>hxor _ S b2 st.1.toNat (by first|omega|exact UInt64.toNat_lt _) hS hlt) fun _ w8 hs _=>(Qaa (Qac (V:=.int .u64 ((1 <<< Sort.bitsLen (hi-lo):Nat):Int)) rfl (Qaa (QaU (V:=.int .u64 (((1 <<< Sort.bitsLen (hi-lo):Nat):Int)-1)) (V':=.int .u64 ((1 <<< Sort.bitsLen (hi-lo)-1:Nat):Int)) (Qa5 (a:=((1 <<< Sort.bitsLen (hi-lo):Nat):Int)) (b:=1) (c:=((1 <<< Sort.bitsLen (hi-lo):Nat):Int)-1) rfl rfl (QdO (by omega) (by omega)) ⟨rfl,rfl⟩) (congrArg (Value.int .u64) (by omega)) (Qaa (QaU (V:=.int .u64 (bits .and .u64 ((Sort.xorNextN st.1.toNat:Nat):Int) ((1 <<< Sort.bitsLen (hi-lo)-1:Nat):Int))) (V':=.int .u64 ((Sort.xorNextN st.1.toNat &&& (1 <<< Sort.bitsLen (hi-lo)-1):Nat):Int)) (QtD rfl rfl ⟨rfl,rfl⟩) (congrArg (Value.int .u64) (Qrk (Sort.xorNextN_lt _ (UInt64.toNat_lt _)) (by omega))) (Qaa (Qcl Qdm QhS rfl (QbE (by omega) (by omega)) (Qaa (Qad (V:=I6 ((Sort.xorNextN st.1.toNat &&& (1 <<< Sort.bitsLen (hi-lo)-1):Nat):Int)) rfl (Qae (Qag (Qag (Qab (Qaa (Qac (V:=I6 ((Sort.xorNextN st.1.toNat &&& (1 <<< Sort.bitsLen (hi-lo)-1):Nat):Int)) rfl (Qaa (Qac (V:=I6 ((hi-lo:Nat):Int)) rfl (Qaa (QcZ rfl rfl (Qae (QfE (fun J J' w'=>∃ (Jo:Env) (ot:Nat),J'=upd (mix [10,44,45,46] Jo J) 10 (I6 (ot:Int))/\(ot=Qgc lo (hi-lo) (1 <<< Sort.bitsLen (hi-lo)) st.1.toNat)/\Own w S w' [row (.slice a N c) (st.2.toList.map (ic .u16)) 32 1,blk b2 [.int .u64 ((Sort.xorNextN st.1.toNat:Nat):Int)] 211]) ?_ ?_))))))))))))))))))))))))
   ·
    refine Qam (t:=decide (((hi-lo:Nat):Int)<=((Sort.xorNextN st.1.toNat &&& (1 <<< Sort.bitsLen (hi-lo)-1):Nat):Int))) rfl (fun c9=>?_) (fun c9=>?_)
    ·
     replace c9:=QQ1 c9
     refine Qab (Qaa (Qac (V:=I6 ((Sort.xorNextN st.1.toNat &&& (1 <<< Sort.bitsLen (hi-lo)-1):Nat):Int)) rfl (Qaa (Qac (V:=I6 ((hi-lo:Nat):Int)) rfl (Qaa (Qa5 (a:=((Sort.xorNextN st.1.toNat &&& (1 <<< Sort.bitsLen (hi-lo)-1):Nat):Int)) (b:=((hi-lo:Nat):Int)) (c:=(((Sort.xorNextN st.1.toNat &&& (1 <<< Sort.bitsLen (hi-lo)-1))-(hi-lo):Nat):Int)) rfl rfl (Qak (by omega) (by omega)) (Qaa (Qad (V:=I6 (((Sort.xorNextN st.1.toNat &&& (1 <<< Sort.bitsLen (hi-lo)-1))-(hi-lo):Nat):Int)) rfl (Qae ?_)))))))))
     exact ⟨_,(Sort.xorNextN st.1.toNat &&& (1 <<< Sort.bitsLen (hi-lo)-1))-(hi-lo),Qal (Qap (ds:=[10,44,45,46]) (by repeat (first|exact Agr.refl _ _|refine Agr.upd ?_ rfl|refine Agr.mix ?_ rfl))) rfl,(by unfold Qgc;rw [if_pos (by omega)]),hs.take 2⟩
    replace c9:=QQ2 c9
    refine Qao ?_
    exact ⟨_,Sort.xorNextN st.1.toNat &&& (1 <<< Sort.bitsLen (hi-lo)-1),Qal (Qap (ds:=[10,44,45,46]) (by repeat (first|exact Agr.refl _ _|refine Agr.upd ?_ rfl|refine Agr.mix ?_ rfl))) rfl,(by unfold Qgc;rw [if_neg (by omega)]),hs.take 2⟩
   rintro J' w10 ⟨Jo,ot,rfl,hot,hs⟩
   have hol:=Qob (lo:=lo) (len:=hi-lo) (r:=st.1.toNat) (by omega)
   rw [← hot] at hol
   refine QaH HM [some 47,some 48,some 49,some 50,some 51,some 52,some 53,some 54,some 55,some 56,some 57,some 58,some 59,some 60,some 61,some 62,some 63,none,some 64,none] [] [0,0,0,0,0,24,0,0,0,384,960,1984,0,0,12288,28672,65475,131011,262143,524287] [pv (.slice a N c),pv (I6 (((lo+((hi-lo)/4)*2-1)+q:Nat):Int)),pv (.slice a N c),pv (I6 (lo:Int)),pv (I6 (ot:Int)),pv (I6 ((lo+ot:Nat):Int)),pv (.slice a N c),pv (I6 (lo:Int)),pv (I6 (ot:Int)),pv (I6 ((lo+ot:Nat):Int)),pv (.pointer (some ⟨bkS (.slice a N c),ofS (.slice a N c)+((lo+ot:Nat):Int).toNat*1,none⟩)),pv (I7 (st.2[lo+ot]!)),pv (.slice a N c),pv (I6 (((lo+((hi-lo)/4)*2-1)+q:Nat):Int)),pv (.pointer (some ⟨bkS (.slice a N c),ofS (.slice a N c)+(((lo+((hi-lo)/4)*2-1)+q:Nat):Int).toNat*1,none⟩)),pv (I7 (st.2[(lo+((hi-lo)/4)*2-1)+q]!)),pv (.pointer (some ⟨bkS (.slice a N c),ofS (.slice a N c)+(((lo+((hi-lo)/4)*2-1)+q:Nat):Int).toNat*1,none⟩)),pn,pv (.pointer (some ⟨bkS (.slice a N c),ofS (.slice a N c)+((lo+ot:Nat):Int).toNat*1,none⟩)),pn] (fun D J=>[cond (D 19) (row (.slice a N c) ((((st.2.setIfInBounds ((lo+((hi-lo)/4)*2-1)+q) (st.2[lo+ot]!)).setIfInBounds (lo+ot) (st.2[(lo+((hi-lo)/4)*2-1)+q]!)).toList).map (ic .u16)) 32 1) (cond (D 17) (row (.slice a N c) (((st.2.setIfInBounds ((lo+((hi-lo)/4)*2-1)+q) (st.2[lo+ot]!)).toList).map (ic .u16)) 32 1) (row (.slice a N c) (st.2.toList.map (ic .u16)) 32 1)),blk b2 [.int .u64 ((Sort.xorNextN st.1.toNat:Nat):Int)] 211]) [] (by kernel_rfl) hs ⟨?_,?_,?_,?_,?_,?_,?_,?_,?_,?_,?_,?_,?_,?_,?_,?_,?_,?_,?_,?_,trivial⟩ ?_
   ·exact oa [] fun D J w hs=>Qac (V:=.slice a N c) rfl (Zz hs)
   ·exact oa [] fun D J w hs=>Qac (V:=.int .i64 (((lo+((hi-lo)/4)*2-1)+q:Nat):Int)) rfl (Zz hs)
   ·exact oa [] fun D J w hs=>Qac (V:=.slice a N c) rfl (Zz hs)
   ·exact oa [] fun D J w hs=>Qac (V:=.int .i64 (lo:Int)) rfl (Zz hs)
   ·exact oa [] fun D J w hs=>Qac (V:=.int .i64 (ot:Int)) rfl (Zz hs)
   ·exact oa [3,4] fun D J w hs=>QaF (a:=(lo:Int)) (b:=(ot:Int)) (c:=((lo+ot:Nat):Int)) rfl rfl (Qak (by omega) (by omega)) (Zz hs)
   ·exact oa [] fun D J w hs=>Qac (V:=.slice a N c) rfl (Zz hs)
   ·exact oa [] fun D J w hs=>Qac (V:=.int .i64 (lo:Int)) rfl (Zz hs)
   ·exact oa [] fun D J w hs=>Qac (V:=.int .i64 (ot:Int)) rfl (Zz hs)
   ·exact oa [7,8] fun D J w hs=>QaF (a:=(lo:Int)) (b:=(ot:Int)) (c:=((lo+ot:Nat):Int)) rfl rfl (Qak (by omega) (by omega)) (Zz hs)
   ·exact ob [6,9] [17,19] rfl rfl fun D J w hs=>Qax QaN Qar.1 (hs.rd 0 rfl) rfl rfl (by omega) (by simp only [QQ6,QQ9,QQ5,Go.Sort.size_swp];omega) (Zz hs)
   ·exact ob [10] [17,19] rfl rfl fun D J w hs=>QaW (j:=0) (V:=I7 (st.2[lo+ot]!)) (lo+ot) Qar (hs.rd 0 rfl) (Qbo (by omega)) rfl rfl (by omega) (Zz hs)
   ·exact oa [] fun D J w hs=>Qac (V:=.slice a N c) rfl (Zz hs)
   ·exact oa [] fun D J w hs=>Qac (V:=.int .i64 (((lo+((hi-lo)/4)*2-1)+q:Nat):Int)) rfl (Zz hs)
   ·exact ob [12,13] [17,19] rfl rfl fun D J w hs=>Qax QaN Qar.1 (hs.rd 0 rfl) rfl rfl (by omega) (by simp only [QQ6,QQ9,QQ5,Go.Sort.size_swp];omega) (Zz hs)
   ·exact ob [14] [17,19] rfl rfl fun D J w hs=>QaW (j:=0) (V:=I7 (st.2[(lo+((hi-lo)/4)*2-1)+q]!)) ((lo+((hi-lo)/4)*2-1)+q) Qar (hs.rd 0 rfl) (Qbo (by omega)) rfl rfl (by omega) (Zz hs)
   ·exact ob [0,1] [17,19] rfl rfl fun D J w hs=>Qax QaN Qar.1 (hs.rd 0 rfl) rfl rfl (by omega) (by simp only [QQ6,QQ9,QQ5,Go.Sort.size_swp];omega) (Zz hs)
   ·exact ob [11,16] [19] rfl rfl fun D J w hs=>Qch (z:=st.2[lo+ot]!) ((lo+((hi-lo)/4)*2-1)+q) Qar hs 0 rfl rfl (by omega) (by first|omega|(simp only [QQ5,Go.Sort.size_swp];omega)) rfl rfl rfl fun _ hs=>⟨trivial,hs⟩
   ·exact ob [2,5,17] [19] rfl rfl fun D J w hs=>Qax QaN Qar.1 (hs.rd 0 rfl) rfl rfl (by omega) (by simp only [QQ6,QQ9,QQ5,Go.Sort.size_swp];omega) (Zz hs)
   ·exact oa [15,17,18] fun D J w hs=>Qch (z:=st.2[(lo+((hi-lo)/4)*2-1)+q]!) (lo+ot) Qar hs 0 rfl rfl (by omega) (by first|omega|(simp only [QQ5,Go.Sort.size_swp];omega)) rfl rfl rfl fun _ hs=>⟨trivial,hs⟩
   rintro J1 w13 J2 hJ hs
   replace hJ:J2=mix (sq 47 18) J1 _:=hJ
   replace hs:Own w S w13 [row (.slice a N c) ((((st.2.setIfInBounds ((lo+((hi-lo)/4)*2-1)+q) (st.2[lo+ot]!)).setIfInBounds (lo+ot) (st.2[(lo+((hi-lo)/4)*2-1)+q]!)).toList).map (ic .u16)) 32 1,blk b2 [.int .u64 ((Sort.xorNextN st.1.toNat:Nat):Int)] 211]:=hs
   subst hJ
   refine Qab (Qaa (Qac (V:=I6 (((lo+((hi-lo)/4)*2-1)+q:Nat):Int)) rfl (Qaa (QaF (a:=(((lo+((hi-lo)/4)*2-1)+q:Nat):Int)) (b:=1) (c:=((((lo+((hi-lo)/4)*2-1)+q)+1:Nat):Int)) rfl rfl (Qak (by omega) (by omega)) (Qaa (Qad (V:=I6 ((((lo+((hi-lo)/4)*2-1)+q)+1:Nat):Int)) rfl (Qae ?_)))))))
   have hbn:=Qj1 (lo:=lo) (len:=hi-lo) (md:=1 <<< Sort.bitsLen (hi-lo)) (i0:=lo+((hi-lo)/4)*2-1) (q:=q) (s0:=(UInt64.ofNat (hi-lo),d))
   rw [← hst] at hbn
   replace hs:=hs.conv 1 rfl (R':=blk b2 [.int .u64 (((bpS lo (hi-lo) (1 <<< Sort.bitsLen (hi-lo)) (UInt64.ofNat (hi-lo),d) (lo+((hi-lo)/4)*2-1) (q+1)).1.toNat:Nat):Int)] 211) (fun S h=>by rw [hbn.1];exact h)
   replace hs:=hs.conv 0 rfl (R':=row (.slice a N c) (((bpS lo (hi-lo) (1 <<< Sort.bitsLen (hi-lo)) (UInt64.ofNat (hi-lo),d) (lo+((hi-lo)/4)*2-1) (q+1)).2).toList.map (ic .u16)) 32 1) (fun S h=>by rw [hbn.2,← hot];exact h)
   refine ⟨_,?_,_,q+1,bpS lo (hi-lo) (1 <<< Sort.bitsLen (hi-lo)) (UInt64.ofNat (hi-lo),d) (lo+((hi-lo)/4)*2-1) (q+1),Qal (Qap (ds:=([9,10]++sq 26 39)) (by repeat (first|exact Agr.refl _ _|refine Agr.upd ?_ rfl|refine Agr.mix ?_ rfl))) rfl,(by omega),rfl,(QkH (s0:=(UInt64.ofNat (hi-lo),d)) hsz _),rfl,hs.take 2⟩
   omega
  replace c7:=QQ2 c7
  refine QaJ ?_
  refine ⟨_,Qbf Tryz.results174,?_⟩
  have hq3:q=3:=by omega
  subst hq3
  have hX:st.2=Sort.breakPatterns d lo hi:=by rw [hst];exact QrR (by omega)
  exact ⟨(),rfl,hX ▸ hs.take 1,hX ▸ (by first|assumption|(simp only [QQ5,Go.Sort.size_swp];omega))⟩
 replace c1:=QQ2 c1
 refine Qao ?_
 refine ⟨_,Qbf Tryz.results174,?_⟩
 have hX:d=Sort.breakPatterns d lo hi:=by unfold Sort.breakPatterns;dsimp only;rw [if_neg (by omega)]
 exact ⟨(),rfl,hX ▸ hs.take 1,hX ▸ (by first|assumption|(simp only [QQ5,Go.Sort.size_swp];omega))⟩
end Tt
end Go.Proofs
