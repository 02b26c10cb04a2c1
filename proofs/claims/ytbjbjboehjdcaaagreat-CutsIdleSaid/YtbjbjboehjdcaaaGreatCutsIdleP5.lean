/- A part of a proof: what functions of the program compute, and plain facts on that. -/
import Derived.Test.YtbjbjboehjdcaaaGreatCutsIdleP4
set_option linter.unusedVariables false
set_option linter.unusedSimpArgs false
set_option maxHeartbeats 4000000
set_option maxRecDepth 100000
namespace Go.Proofs
open Go Go.Vx Go.RowKit
namespace Tt
theorem QtL (w:World) (x y:Cen):Calls Tryz.prog 128 #[.agg (cec x).toArray,.agg (cec y).toArray] w (fun e w'=>e = .returned (.int .i64 (QtZ x y))/\Own w no w' []):=by
 refine Qai (n:=26) Tryz.func128 rfl Tryz.ntmps128 rfl ?_
 have hs:=Own.start w
 refine Qag (Qab (Qaa (Qa4 (V:=.agg (cec x).toArray) (cs:=cec x) rfl rfl hs fun b1 w2 hs=>(Qaa (Qa4 (V:=.agg (cec y).toArray) (cs:=cec y) rfl rfl hs fun b3 w4 hs=>(Qaa (Qad (V:=I6 0) rfl (Qae (Qag ?_)))))))))
 replace hs:=hs.more emp trivial
 refine QaH HM [some 5,some 6,some 7,some 8,some 9,some 10,some 11,some 12,some 13,some 14,some 15,some 16,some 17,some 18,some 19,some 20,some 21,some 22,some 23,some 24,some 25,some 4] [[],[],[],[],[],[],[],[],[],[],[],[],[],[],[],[],[],[],[],[24]] [0,1,0,4,15,0,32,96,0,256,768,2047,0,4096,12288,0,32768,98304,262143,524287,1048575,2097151] [pv (Pq b1 (0+6)),pv (.int .u64 x.count),pv (Pq b3 (0+6)),pv (.int .u64 y.count),pv (I6 (QaZ x.count y.count)),pv (Pq b1 (0+4)),pv (Pq b1 (0+4+0)),pv (.int .u8 x.dot.rep),pv (Pq b3 (0+4)),pv (Pq b3 (0+4+0)),pv (.int .u8 y.dot.rep),pv (I6 (QaZ x.dot.rep y.dot.rep)),pv (Pq b1 (0+4)),pv (Pq b1 (0+4+1)),pv (.int .u32 x.dot.seq),pv (Pq b3 (0+4)),pv (Pq b3 (0+4+1)),pv (.int .u32 y.dot.seq),pv (I6 (QaZ x.dot.seq y.dot.seq)),(true,fun J=>.slice (some ⟨(bOf (J 24)),0,none⟩) 3 3),pv (I6 (orI [QaZ x.count y.count,QaZ x.dot.rep y.dot.rep,QaZ x.dot.seq y.dot.seq])),pv (I6 (orI [QaZ x.count y.count,QaZ x.dot.rep y.dot.rep,QaZ x.dot.seq y.dot.seq]))] (fun D J=>[blk b1 (cec x) 106,blk b3 (cec y) 106,cond (D 19) (row (.slice (some ⟨(bOf (J 24)),0,none⟩) 3 3) ([QaZ x.count y.count,QaZ x.dot.rep y.dot.rep,QaZ x.dot.seq y.dot.seq].map (ic .i64)) 3 1) (emp)]) [21] (by kernel_rfl) hs ⟨?_,?_,?_,?_,?_,?_,?_,?_,?_,?_,?_,?_,?_,?_,?_,?_,?_,?_,?_,?_,?_,?_,trivial⟩ ?_
 ·exact oa [] fun D J w hs=>Qaf QfH rfl (Zz hs)
 ·exact oa [0] fun D J w hs=>QaP (V:=.int .u64 x.count) QjT hs 0 rfl rfl rfl (Zz hs)
 ·exact oa [] fun D J w hs=>Qaf QfH rfl (Zz hs)
 ·exact oa [2] fun D J w hs=>QaP (V:=.int .u64 y.count) QjT hs 1 rfl rfl rfl (Zz hs)
 ·exact oa [1,3] fun D J w hs=>Qas (vs:=[.int .u64 x.count,.int .u64 y.count]) (V:=.int .i64 (QaZ x.count y.count)) Qtl rfl rfl (Qhx _ x.count y.count) hs fun _ hs=>Zz hs
 ·exact oa [] fun D J w hs=>Qaf QbM rfl (Zz hs)
 ·exact oa [5] fun D J w hs=>Qaf QbV rfl (Zz hs)
 ·exact oa [6] fun D J w hs=>QaP (V:=.int .u8 x.dot.rep) Qds hs 0 rfl rfl rfl (Zz hs)
 ·exact oa [] fun D J w hs=>Qaf QbM rfl (Zz hs)
 ·exact oa [8] fun D J w hs=>Qaf QbV rfl (Zz hs)
 ·exact oa [9] fun D J w hs=>QaP (V:=.int .u8 y.dot.rep) Qds hs 1 rfl rfl rfl (Zz hs)
 ·exact oa [7,10] fun D J w hs=>Qas (vs:=[.int .u8 x.dot.rep,.int .u8 y.dot.rep]) (V:=.int .i64 (QaZ x.dot.rep y.dot.rep)) Qro rfl rfl (QdU _ x.dot.rep y.dot.rep) hs fun _ hs=>Zz hs
 ·exact oa [] fun D J w hs=>Qaf QbM rfl (Zz hs)
 ·exact oa [12] fun D J w hs=>Qaf QbX rfl (Zz hs)
 ·exact oa [13] fun D J w hs=>QaP (V:=.int .u32 x.dot.seq) QaN hs 0 rfl rfl rfl (Zz hs)
 ·exact oa [] fun D J w hs=>Qaf QbM rfl (Zz hs)
 ·exact oa [15] fun D J w hs=>Qaf QbX rfl (Zz hs)
 ·exact oa [16] fun D J w hs=>QaP (V:=.int .u32 y.dot.seq) QaN hs 1 rfl rfl rfl (Zz hs)
 ·exact oa [14,17] fun D J w hs=>Qas (vs:=[.int .u32 x.dot.seq,.int .u32 y.dot.seq]) (V:=.int .i64 (QaZ x.dot.seq y.dot.seq)) Qqm rfl rfl (QdA _ x.dot.seq y.dot.seq) hs fun _ hs=>Zz hs
 ·exact oa [4,11,18] fun D J w hs=>QhI (vals:=[.int .i64 (QaZ x.count y.count),.int .i64 (QaZ x.dot.rep y.dot.rep),.int .i64 (QaZ x.dot.seq y.dot.seq)]) (ls:=List.map (ic .i64) ([QaZ x.count y.count,QaZ x.dot.rep y.dot.rep,QaZ x.dot.seq y.dot.seq]:List Int)) Qlo rfl rfl rfl (Qbj (enc:=(ic .i64)) (fun _=>rfl) _) (QaV (Qfk .i64) _) (QQ8 rfl) hs fun _ _ hs=>⟨rfl,hs.put 2 (QQ8 rfl)⟩
 ·exact oa [19] fun D J w hs=>Qas (vs:=[.slice (some ⟨(bOf (J 24)),0,none⟩) 3 3]) (V:=.int .i64 (orI [QaZ x.count y.count,QaZ x.dot.rep y.dot.rep,QaZ x.dot.seq y.dot.seq])) QqB rfl rfl (QrS _ (some ⟨(bOf (J 24)),0,none⟩) 3 [QaZ x.count y.count,QaZ x.dot.rep y.dot.rep,QaZ x.dot.seq y.dot.seq] (hs.rd 2 rfl)) hs fun _ hs=>Zz hs
 ·exact oa [20] fun D J w hs=>Qad (V:=.int .i64 (orI [QaZ x.count y.count,QaZ x.dot.rep y.dot.rep,QaZ x.dot.seq y.dot.seq])) rfl (Zz hs)
 rintro J1 w10 J2 hJ hs
 replace hJ:J2=upd (mix (sq 5 21++[4]) J1 _) 4 (I6 (orI [QaZ x.count y.count,QaZ x.dot.rep y.dot.rep,QaZ x.dot.seq y.dot.seq])):=hJ
 replace hs:Own w no w10 [blk b1 (cec x) 106,blk b3 (cec y) 106,row (.slice (some ⟨(bOf (J1 24)),0,none⟩) 3 3) ([QaZ x.count y.count,QaZ x.dot.rep y.dot.rep,QaZ x.dot.seq y.dot.seq].map (ic .i64)) 3 1]:=hs
 generalize (bOf (J1 24))=b11 at hs
 subst hJ
 refine Qav ?_
 refine ⟨_,Qaq (V:=I6 (orI [QaZ x.count y.count,QaZ x.dot.rep y.dot.rep,QaZ x.dot.seq y.dot.seq])) Tryz.results128 rfl,(Zr hs ?_)⟩
 rfl
theorem QnQ (w:World) (x y:Cen):Calls Tryz.prog 76 #[.agg (cec x).toArray,.agg (cec y).toArray] w (fun e w'=>e = .returned (.int .i64 (QaZ x.item y.item))/\Own w no w' []):=by
 refine Qai (n:=10) Tryz.func76 rfl Tryz.ntmps76 rfl ?_
 have hs:=Own.start w
 refine Qag (Qab (Qaa (Qa4 (V:=.agg (cec x).toArray) (cs:=cec x) rfl rfl hs fun b1 w2 hs=>(Qaa (Qa4 (V:=.agg (cec y).toArray) (cs:=cec y) rfl rfl hs fun b3 w4 hs=>(Qaa (Qad (V:=I6 0) rfl (Qae (Qag (Qab (Qaa (Qaf Qdc rfl (Qaa (QaP (V:=I7 x.item) Qar hs 0 rfl rfl rfl (Qaa (Qaf Qdc rfl (Qaa (QaP (V:=I7 y.item) Qar hs 1 rfl rfl rfl (Qaa (Qas (vs:=[I7 x.item,I7 y.item]) (V:=I6 (QaZ x.item y.item)) QnJ rfl rfl ?hc hs fun w5 hs=>?_))))))))))))))))))))
 case hc=>exact (QcU _ x.item y.item)
 refine Qaa (Qad (V:=I6 (QaZ x.item y.item)) rfl (Qae (Qav ?_)))
 refine ⟨_,Qaq (V:=I6 (QaZ x.item y.item)) Tryz.results76 rfl,(Zr hs ?_)⟩
 rfl
theorem QrK (w:World) (item:Int) (a:Option Addr) (c:Nat) (l:List Cen) (hl:∀ e∈l,QiF e/\1<=e.count) (hr:Rd w (.slice a l.length c) 7 (l.map cec)):Calls Tryz.prog 78 #[.int .u16 item,.slice a l.length c] w (fun e w'=>e = .returned (.agg (lc ⟨item,QeJ l⟩).toArray)/\Own w no w' []):=by
 refine Qai (n:=38) Tryz.func78 rfl Tryz.ntmps78 rfl ?_
 have hs:=Own.start w
 have hn1:=hr.sml
 refine Qag (Qab (Qaa (QaL (cs:=lc (⟨0,0⟩:Line)) Qtg rfl hs fun b1 w2 hs=>(Qae (Qag (Qab (Qaa (QaL (cs:=cec (⟨0,0,0,0,(⟨0,0⟩:Dot),0⟩:Cen)) Qfn rfl hs fun b3 w4 hs=>(Qae (Qag (Qab (Qaa (Qad (V:=.int .u32 0) rfl (Qae (Qag (Qag (Qab (Qaa (Qac (V:=.slice a l.length c) rfl (Qaa (Qa0 (n:=l.length) QbC (Rd.own' hr hs) (by simp) rfl (Qaa (Qac (V:=I6 0) rfl (Qae (Qan (QaC (fun J μ J' w'=>∃ (Jo:Env) (k:Nat) (sm:Int) (u:Cen),J'=upd (upd (mix ([6,8]++sq 11 20) Jo J) 11 (I6 (k:Int))) 6 (.int .u32 sm)/\(k<=l.length)/\(sm=Qkx (l.take k))/\(u=(l.take k).foldl Qew cz)/\μ=l.length-k/\Own w no w' [blk b1 (lc (⟨0,0⟩:Line)) 127,blk b3 (cec u) 106]) ?_ ?_))))))))))))))))))))))))))
 ·exact ⟨_,_,0,0,cz,Qak (Qak (Qao (ds:=([6,8]++sq 11 20)) (Agr.refl _ _)) rfl) rfl,(by omega),rfl,rfl,rfl,hs⟩
 rintro μ J' w5 ⟨Jo,k,sm,u,rfl,hk,hsm,hset,rfl,hs⟩
 refine Qag (Qab (Qaa (Qa2 rfl rfl (Qae (Qag (Qam (t:=decide ((k:Int)<((l.length:Nat):Int))) rfl (fun c6=>?_) (fun c6=>?_)))))))
 ·
  replace c6:=QQ1 c6
  refine Qap (Qag (Qan (Qag (Qab (Qaa (Qaw QbC QaA.1 (Rd.own' hr hs) rfl rfl (by omega) (by rw [QQ6];omega) (Qaa (Qbc (j:=0) (vs:=cec (gd l k)) k QaA (Rd.own' hr hs) (Qa9 (by omega)) rfl rfl rfl (by omega) (Qaa (QaL (cs:=cec (⟨0,0,0,0,(⟨0,0⟩:Dot),0⟩:Cen)) Qfn rfl hs fun b7 w8 hs=>(Qaa (QcG (V:=.agg (cec (gd l k)).toArray) (vs:=cec (gd l k)) (cs':=cec (gd l k)) QaA.1 hs 2 rfl rfl rfl rfl rfl (QQ8 rfl) (Qbi _) (Qaz rfl) fun w9 hs=>?_))))))))))))
  replace hs:Own w no w9 [blk b1 (lc (⟨0,0⟩:Line)) 127,blk b3 (cec u) 106,blk b7 (cec (gd l k)) 106]:=hs
  refine Qae (Qan (Qag (Qab (Qaa (Qaf Qd5 rfl (Qaa (QaP (V:=.int .u8 ((gd l k).kind)) Qds hs 2 rfl rfl rfl (Qaa (QaW rfl rfl (Qaa (Qad (V:=.bool (decide ((gd l k).kind=1))) rfl (Qae (Qam (t:=decide ((gd l k).kind=1)) rfl (fun c10=>?_) (fun c10=>?_))))))))))))))
  ·
   replace c10:=QQ1 c10
   have ⟨hq1,hq2⟩:=(hl _ (Qbz (l:=l) (i:=k) (by omega))).1.2.2.1
   refine Qab (Qaa (Qac (V:=.int .u32 sm) rfl (Qaa (Qaf Qd1 rfl (Qaa (QaP (V:=I7 ((gd l k).qty)) Qar hs 2 rfl rfl rfl (Qaa (Qcg Qsg Qqs rfl (Qgt (by omega) (by omega)) (Qaa (QaD (a:=sm) (b:=(gd l k).qty) (c:=(sm+((gd l k).qty))%4294967296) rfl rfl (QpU _) (Qaa (Qad (V:=.int .u32 ((sm+((gd l k).qty))%4294967296)) rfl (Qae (Qab (Qaa (QaD (a:=(k:Int)) (b:=1) (c:=((k+1:Nat):Int)) rfl rfl (Qaj (by omega) (by omega)) (Qaa (Qac (V:=I6 ((k+1:Nat):Int)) rfl (Qae ?_)))))))))))))))))))
   refine ⟨_,?_,_,k+1,(sm+((gd l k).qty))%4294967296,u,Qak (Qak (Qao (ds:=([6,8]++sq 11 20)) (by repeat (first|exact Agr.refl _ _|refine Agr.upd ?_ rfl|refine Agr.mix ?_ rfl))) rfl) rfl,(by omega),(QnG hsm (by omega) c10),(by rw [← QfT hset (by omega),Qlq c10]),rfl,hs.take 2⟩
   omega
  replace c10:=QQ2 c10
  refine Qag (Qab (Qaa (QaO (cs:=cec (gd l k)) QaA hs 2 rfl rfl rfl (Qaa (QaO (cs:=cec u) QaA hs 1 rfl rfl rfl (Qaa (Qas (vs:=[.agg (cec (gd l k)).toArray,.agg (cec u).toArray]) (V:=I6 (QtZ (gd l k) u)) QsA rfl rfl ?hc hs fun w11 hs=>?_)))))))
  case hc=>exact (QtL _ (gd l k) u)
  refine Qaa (QaX (V:=.bool (decide (0<QtZ (gd l k) u))) (V':=.bool (Qec u (gd l k))) (QbU rfl rfl ⟨rfl,rfl⟩) (congrArg Value.bool (Qs9 _ _)) (Qaa (Qad (V:=.bool (Qec u (gd l k))) rfl (Qae (Qam (t:=Qec u (gd l k)) rfl (fun c12=>?_) (fun c12=>?_))))))
  ·
   refine Qab (Qaa (QaO (cs:=cec (gd l k)) QaA hs 2 rfl rfl rfl (Qaa (QcG (V:=.agg (cec (gd l k)).toArray) (vs:=cec (gd l k)) (cs':=cec (gd l k)) QaA.1 hs 1 rfl rfl rfl rfl rfl (QQ8 rfl) (Qbi _) (Qaz rfl) fun w13 hs=>(Qae (Qab (Qaa (QaD (a:=(k:Int)) (b:=1) (c:=((k+1:Nat):Int)) rfl rfl (Qaj (by omega) (by omega)) (Qaa (Qac (V:=I6 ((k+1:Nat):Int)) rfl (Qae ?_)))))))))))
   refine ⟨_,?_,_,k+1,sm,gd l k,Qak (Qak (Qao (ds:=([6,8]++sq 11 20)) (by repeat (first|exact Agr.refl _ _|refine Agr.upd ?_ rfl|refine Agr.mix ?_ rfl))) rfl) rfl,(by omega),(Qll hsm (by omega) c10),(by rw [← QfT hset (by omega),QnW c10 c12]),rfl,hs.take 2⟩
   omega
  refine Qap (Qab (Qaa (QaD (a:=(k:Int)) (b:=1) (c:=((k+1:Nat):Int)) rfl rfl (Qaj (by omega) (by omega)) (Qaa (Qac (V:=I6 ((k+1:Nat):Int)) rfl (Qae ?_))))))
  refine ⟨_,?_,_,k+1,sm,u,Qak (Qak (Qao (ds:=([6,8]++sq 11 20)) (by repeat (first|exact Agr.refl _ _|refine Agr.upd ?_ rfl|refine Agr.mix ?_ rfl))) rfl) rfl,(by omega),(Qll hsm (by omega) c10),(by rw [← QfT hset (by omega),Qrl c10 c12]),rfl,hs.take 2⟩
  omega
 replace c6:=QQ2 c6
 refine QaJ (Qag ?_)
 have ⟨hq1,hq2⟩:0<=u.qty/\u.qty<65536:=by rw [hset];exact QnL fun e he=>(hl e (List.mem_of_mem_take he)).1
 refine Qab (Qaa (Qac (V:=I7 item) rfl (Qaa (Qac (V:=.int .u32 sm) rfl (Qaa (Qaf Qd1 rfl (Qaa (QaP (V:=I7 u.qty) Qar hs 1 rfl rfl rfl (Qaa (Qcg Qsg Qqs rfl (Qgt (by omega) (by omega)) (Qaa (QaD (a:=sm) (b:=u.qty) (c:=(sm+u.qty)%4294967296) rfl rfl (QpU _) (Qaa (QbI (vs:=[(0,I7 item),(1,.int .u32 ((sm+u.qty)%4294967296))]) (cs:=lc (⟨item,(sm+u.qty)%4294967296⟩:Line)) Qr5 (rfl) rfl (Qaa (QcG (V:=.agg (lc (⟨item,(sm+u.qty)%4294967296⟩:Line)).toArray) (vs:=lc (⟨item,(sm+u.qty)%4294967296⟩:Line)) (cs':=lc (⟨item,(sm+u.qty)%4294967296⟩:Line)) QcL.1 hs 0 rfl rfl rfl rfl rfl (QQ8 rfl) (Qlc _) (Qaz rfl) fun w14 hs=>(Qae (Qav ?_))))))))))))))))))
 refine ⟨_,Qdy (cs:=lc (⟨item,(sm+u.qty)%4294967296⟩:Line)) Tryz.results78 QcL hs 0 rfl rfl rfl,(Zr hs ?_)⟩
 have hT:=Qcw (l:=l) (k:=k) (by omega)
 rw [hT] at hsm hset
 subst hsm hset
 rw [Qo5 fun e he=>(hl e he).2]
end Tt
end Go.Proofs
namespace Go.Proofs
open Go Go.Vx Go.RowKit
namespace Tt
theorem Qpz (w:World) (S:Nat->Prop) (a:Option Addr) (N c:Nat) (l:List Cen) (hz:l.length=N) (hN:N<=2305843009213693951) (lo hi:Nat) (hlo:lo<=hi) (hhi:hi<=N) (g:Nat) (hg:En Tryz.prog g) (cf:Cen->Cen->Int) (hc:CmpO cf) (hcmp:∀ (w:World) (x y:Cen),Calls Tryz.prog g #[.agg (cec x).toArray,.agg (cec y).toArray] w (fun e w'=>e = .returned (.int .i64 (cf x y))/\Own w no w' [])) (hR:(row (.slice a N c) (l.map cec) 106 7).holds w S) (hlt:∀ b,S b->b<w.heap.size):Calls Tryz.prog 136 #[.slice a N c,.int .i64 (lo:Int),.int .i64 (hi:Int),.func (.func g) #[] #[]] w (fun e w'=>∃ x:List Cen,e = .returned (.tuple #[])/\Own w S w' [row (.slice a N c) (x.map cec) 106 7]/\(x.length=N/\Merged cf l x lo hi)):=by
 refine Qai (n:=53) Tryz.func136 rfl Tryz.ntmps136 rfl ?_
 have hs:=Own.lent hR hlt
 refine Qag (Qab (Qaa (Qac (V:=I6 (lo:Int)) rfl (Qaa (QaD (a:=(lo:Int)) (b:=1) (c:=((lo+1:Nat):Int)) rfl rfl (Qaj (by omega) (by omega)) (Qaa (Qad (V:=I6 ((lo+1:Nat):Int)) rfl (Qae (Qan (QaC (fun J μ J' w'=>∃ (Jo:Env) (k:Nat) (m:List Cen),J'=upd (mix ([8,9]++sq 12 41) Jo J) 8 (I6 (k:Int))/\(lo+1<=k)/\(k<=hi∨k=lo+1)/\(m.length=N)/\(Qa8 l m lo hi)/\(Qbe cf m lo k)/\μ=hi-k/\Own w S w' [row (.slice a N c) (m.map cec) 106 7]) ?_ ?_))))))))))
 ·exact ⟨_,_,lo+1,l,Qak (Qao (ds:=([8,9]++sq 12 41)) (Agr.refl _ _)) rfl,(Nat.le_refl _),(Or.inr rfl),hz,(Qa8.refl l hlo (by omega)),(Qbe.small (Nat.le_refl _)),rfl,hs⟩
 rintro μ J' w1 ⟨Jo,k,m,rfl,hk0,hk,hz1,hpm,hor,rfl,hs⟩
 refine Qag (Qag (Qab (Qaa (Qac (V:=I6 (k:Int)) rfl (Qaa (Qac (V:=I6 (hi:Int)) rfl (Qaa (Qa2 rfl rfl (Qae (Qam (t:=decide ((k:Int)<(hi:Int))) rfl (fun c2=>?_) (fun c2=>?_)))))))))))
 ·
  replace c2:=QQ1 c2
  refine Qap (Qag (Qan (Qag (Qab (Qaa (Qac (V:=I6 (k:Int)) rfl (Qaa (Qad (V:=I6 (k:Int)) rfl (Qae (Qan (QaC (fun J μ J' w'=>∃ (Jo:Env) (j:Nat) (m2:List Cen),J'=upd (mix ([9]++sq 18 35) Jo J) 9 (I6 (j:Int))/\(lo<=j)/\(j<=k)/\(m2.length=N)/\(Qa8 l m2 lo hi)/\(QtR cf m2 lo k j)/\μ=j+1/\Own w S w' [row (.slice a N c) (m2.map cec) 106 7]) ?_ ?_)))))))))))
  ·exact ⟨_,_,k,m,Qak (Qao (ds:=([9]++sq 18 35)) (Agr.refl _ _)) rfl,(by omega),(Nat.le_refl _),hz1,hpm,(Qm1 hor),rfl,hs⟩
  rintro μ J' w3 ⟨Jo,j,m2,rfl,hj0,hj,hz2,hpm2,hin,rfl,hs⟩
  refine Qag (Qag (QaH HM [some 18,some 19,some 20,some 21,some 22,some 23,some 24,some 25,some 26,some 27,some 28,some 29,some 30,some 31,some 32,some 33,some 34] [] [0,0,3,7,15,15,15,111,239,15,15,1039,3599,7695,16383,32767,65535] [pv (I6 (j:Int)),pv (I6 (lo:Int)),pv (.bool (decide ((lo:Int)<(j:Int)))),pv (.bool (decide ((lo:Int)<(j:Int)))),pg ((decide ((lo:Int)<(j:Int))) == true) (.func (.func g) #[] #[]),pg ((decide ((lo:Int)<(j:Int))) == true) (.slice a N c),pg ((decide ((lo:Int)<(j:Int))) == true) (I6 (j:Int)),pg ((decide ((lo:Int)<(j:Int))) == true) (.pointer (some ⟨bkS (.slice a N c),ofS (.slice a N c)+(j:Int).toNat*7,none⟩)),pg ((decide ((lo:Int)<(j:Int))) == true) (.agg (cec (gd m2 j)).toArray),pg ((decide ((lo:Int)<(j:Int))) == true) (.slice a N c),pg ((decide ((lo:Int)<(j:Int))) == true) (I6 (j:Int)),pg ((decide ((lo:Int)<(j:Int))) == true) (I6 ((j-1:Nat):Int)),pg ((decide ((lo:Int)<(j:Int))) == true) (.pointer (some ⟨bkS (.slice a N c),ofS (.slice a N c)+((j-1:Nat):Int).toNat*7,none⟩)),pg ((decide ((lo:Int)<(j:Int))) == true) (.agg (cec (gd m2 (j-1))).toArray),pg ((decide ((lo:Int)<(j:Int))) == true) (I6 (cf (gd m2 j) (gd m2 (j-1)))),pg ((decide ((lo:Int)<(j:Int))) == true) (.bool (decide (cf (gd m2 j) (gd m2 (j-1))<0))),pv (.bool ((decide ((lo:Int)<(j:Int)))&&(decide (cf (gd m2 j) (gd m2 (j-1))<0))))] (fun _ _=>_) [16] (by kernel_rfl) hs ⟨?_,?_,?_,?_,?_,?_,?_,?_,?_,?_,?_,?_,?_,?_,?_,?_,?_,trivial⟩ ?_))
  ·exact oa [] fun D J w hs=>Qac (V:=.int .i64 (j:Int)) rfl (Zz hs)
  ·exact oa [] fun D J w hs=>Qac (V:=.int .i64 (lo:Int)) rfl (Zz hs)
  ·exact oa [0,1] fun D J w hs=>QbU rfl rfl (Zz hs)
  ·exact oa [2] fun D J w hs=>Qac (V:=.bool (decide ((lo:Int)<(j:Int)))) rfl (Zz hs)
  ·exact og [3] fun D J w hG hs=>Qac (V:=.func (.func g) #[] #[]) rfl (Zz hs)
  ·exact og [3] fun D J w hG hs=>Qac (V:=.slice a N c) rfl (Zz hs)
  ·exact og [3] fun D J w hG hs=>Qac (V:=.int .i64 (j:Int)) rfl (Zz hs)
  ·refine oy [3,5,6] [5,6] fun D J w hG hs=>?_
   have hgd:=QQ1 (eq_of_beq (hG))
   exact Qaw QbC QaA.1 (hs.rd 0 rfl) rfl rfl (by omega) (by rw [QQ6];omega) (Zz hs)
  ·refine oy [3,7] [7] fun D J w hG hs=>?_
   have hgd:=QQ1 (eq_of_beq (hG))
   exact Qbc (j:=0) (vs:=cec (gd m2 j)) j QaA (hs.rd 0 rfl) (Qa9 (by omega)) rfl rfl rfl (by omega) (Zz hs)
  ·exact og [3] fun D J w hG hs=>Qac (V:=.slice a N c) rfl (Zz hs)
  ·exact og [3] fun D J w hG hs=>Qac (V:=.int .i64 (j:Int)) rfl (Zz hs)
  ·refine oy [3,10] [10] fun D J w hG hs=>?_
   have hgd:=QQ1 (eq_of_beq (hG))
   exact Qa3 (a:=(j:Int)) (b:=1) (c:=((j-1:Nat):Int)) rfl rfl (Qaj (by omega) (by omega)) (Zz hs)
  ·refine oy [3,9,11] [9,11] fun D J w hG hs=>?_
   have hgd:=QQ1 (eq_of_beq (hG))
   exact Qaw QbC QaA.1 (hs.rd 0 rfl) rfl rfl (by omega) (by rw [QQ6];omega) (Zz hs)
  ·refine oy [3,12] [12] fun D J w hG hs=>?_
   have hgd:=QQ1 (eq_of_beq (hG))
   exact Qbc (j:=0) (vs:=cec (gd m2 (j-1))) (j-1) QaA (hs.rd 0 rfl) (Qa9 (by omega)) rfl rfl rfl (by omega) (Zz hs)
  ·exact oy [3,4,8,13] [4,8,13] fun D J w hG hs=>Qe9 (vs:=[.agg (cec (gd m2 j)).toArray,.agg (cec (gd m2 (j-1))).toArray]) (cs:=[]) (V:=.int .i64 (cf (gd m2 j) (gd m2 (j-1)))) hg rfl rfl (hcmp _ (gd m2 j) (gd m2 (j-1))) hs fun _ hs=>Zz hs
  ·exact oy [3,14] [14] fun D J w hG hs=>Qa2 rfl rfl (Zz hs)
  ·exact oa [3,15] fun D J w hs=>Qbg (h':=decide (cf (gd m2 j) (gd m2 (j-1))<0)) rfl rfl rfl (Zz hs)
  rintro J1 w5 J2 hJ hs
  replace hJ:J2=upd (mix (sq 18 17) J1 _) 34 (.bool ((decide ((lo:Int)<(j:Int)))&&(decide (cf (gd m2 j) (gd m2 (j-1))<0)))):=hJ
  subst hJ
  refine Qam (t:=(decide ((lo:Int)<(j:Int)))&&(decide (cf (gd m2 j) (gd m2 (j-1))<0))) rfl (fun c6=>?_) (fun c6=>?_)
  ·
   have c6r:=Qcs c6
   replace c6:=QbY c6
   replace c6:=QQ1 c6
   replace c6r:=QQ1 c6r
   refine Qap (Qag (Qan (QaH HM [some 37,some 38,some 39,some 40,some 41,some 42,some 43,some 44,some 45,some 46,some 47,some 48,some 49,some 50,some 51,none,some 52,none] [] [0,0,0,0,8,0,0,64,224,480,0,0,3072,7168,16355,32739,65535,131071] [pv (.slice a N c),pv (I6 (j:Int)),pv (.slice a N c),pv (I6 (j:Int)),pv (I6 ((j-1:Nat):Int)),pv (.slice a N c),pv (I6 (j:Int)),pv (I6 ((j-1:Nat):Int)),pv (.pointer (some ⟨bkS (.slice a N c),ofS (.slice a N c)+((j-1:Nat):Int).toNat*7,none⟩)),pv (.agg (cec (gd m2 (j-1))).toArray),pv (.slice a N c),pv (I6 (j:Int)),pv (.pointer (some ⟨bkS (.slice a N c),ofS (.slice a N c)+(j:Int).toNat*7,none⟩)),pv (.agg (cec (gd m2 j)).toArray),pv (.pointer (some ⟨bkS (.slice a N c),ofS (.slice a N c)+(j:Int).toNat*7,none⟩)),pn,pv (.pointer (some ⟨bkS (.slice a N c),ofS (.slice a N c)+((j-1:Nat):Int).toNat*7,none⟩)),pn] (fun D J=>[cond (D 17) (row (.slice a N c) (((m2.set j (gd m2 (j-1))).set (j-1) (gd m2 j)).map cec) 106 7) (cond (D 15) (row (.slice a N c) ((m2.set j (gd m2 (j-1))).map cec) 106 7) (row (.slice a N c) (m2.map cec) 106 7))]) [] (by kernel_rfl) hs ⟨?_,?_,?_,?_,?_,?_,?_,?_,?_,?_,?_,?_,?_,?_,?_,?_,?_,?_,trivial⟩ ?_)))
   ·exact oa [] fun D J w hs=>Qac (V:=.slice a N c) rfl (Zz hs)
   ·exact oa [] fun D J w hs=>Qac (V:=.int .i64 (j:Int)) rfl (Zz hs)
   ·exact oa [] fun D J w hs=>Qac (V:=.slice a N c) rfl (Zz hs)
   ·exact oa [] fun D J w hs=>Qac (V:=.int .i64 (j:Int)) rfl (Zz hs)
   ·exact oa [3] fun D J w hs=>Qa3 (a:=(j:Int)) (b:=1) (c:=((j-1:Nat):Int)) rfl rfl (Qaj (by omega) (by omega)) (Zz hs)
   ·exact oa [] fun D J w hs=>Qac (V:=.slice a N c) rfl (Zz hs)
   ·exact oa [] fun D J w hs=>Qac (V:=.int .i64 (j:Int)) rfl (Zz hs)
   ·exact oa [6] fun D J w hs=>Qa3 (a:=(j:Int)) (b:=1) (c:=((j-1:Nat):Int)) rfl rfl (Qaj (by omega) (by omega)) (Zz hs)
   ·exact ob [5,7] [15,17] rfl rfl fun D J w hs=>Qaw QbC QaA.1 (hs.rd 0 rfl) rfl rfl (by omega) (by rw [QQ6];omega) (Zz hs)
   ·exact ob [8] [15,17] rfl rfl fun D J w hs=>Qbc (j:=0) (vs:=cec (gd m2 (j-1))) (j-1) QaA (hs.rd 0 rfl) (Qa9 (by omega)) rfl rfl rfl (by omega) (Zz hs)
   ·exact oa [] fun D J w hs=>Qac (V:=.slice a N c) rfl (Zz hs)
   ·exact oa [] fun D J w hs=>Qac (V:=.int .i64 (j:Int)) rfl (Zz hs)
   ·exact ob [10,11] [15,17] rfl rfl fun D J w hs=>Qaw QbC QaA.1 (hs.rd 0 rfl) rfl rfl (by omega) (by rw [QQ6];omega) (Zz hs)
   ·exact ob [12] [15,17] rfl rfl fun D J w hs=>Qbc (j:=0) (vs:=cec (gd m2 j)) j QaA (hs.rd 0 rfl) (Qa9 (by omega)) rfl rfl rfl (by omega) (Zz hs)
   ·exact ob [0,1] [15,17] rfl rfl fun D J w hs=>Qaw QbC QaA.1 (hs.rd 0 rfl) rfl rfl (by omega) (by rw [QQ6];omega) (Zz hs)
   ·exact ob [9,14] [17] rfl rfl fun D J w hs=>Qht (z:=gd m2 (j-1)) j QaA.1 hs 0 rfl rfl rfl (by first|omega|(simp only [List.length_set];omega)) rfl rfl rfl (Qbi _) fun _ hs=>⟨trivial,hs⟩
   ·exact ob [2,4,15] [17] rfl rfl fun D J w hs=>Qaw QbC QaA.1 (hs.rd 0 rfl) rfl rfl (by omega) (by simp only [QQ6,List.length_set];omega) (Zz hs)
   ·exact oa [13,15,16] fun D J w hs=>Qht (z:=gd m2 j) (j-1) QaA.1 hs 0 rfl rfl rfl (by first|omega|(simp only [List.length_set];omega)) rfl rfl rfl (Qbi _) fun _ hs=>⟨trivial,hs⟩
   rintro J1 w9 J2 hJ hs
   replace hJ:J2=mix (sq 37 16) J1 _:=hJ
   replace hs:Own w S w9 [row (.slice a N c) (((m2.set j (gd m2 (j-1))).set (j-1) (gd m2 j)).map cec) 106 7]:=hs
   subst hJ
   replace hs:Own w S _ [row (.slice a N c) ((swL m2 j (j-1)).map cec) 106 7]:=hs.take 1
   refine Qab (Qaa (Qac (V:=I6 (j:Int)) rfl (Qaa (Qa3 (a:=(j:Int)) (b:=1) (c:=((j-1:Nat):Int)) rfl rfl (Qaj (by omega) (by omega)) (Qaa (Qad (V:=I6 ((j-1:Nat):Int)) rfl (Qae ?_)))))))
   refine ⟨_,?_,_,j-1,swL m2 j (j-1),Qak (Qao (ds:=([9]++sq 18 35)) (by repeat (first|exact Agr.refl _ _|refine Agr.upd ?_ rfl|refine Agr.mix ?_ rfl))) rfl,(by omega),(by omega),(by rw [Qhz];exact hz2),(hpm2.trans (Qqk (by omega) (by omega) (by omega) (by omega) (by omega))),(Qn9 hc hin (by omega) (by omega) (by omega) c6r),rfl,hs.take 1⟩
   omega
  refine QaJ ?_
  have hor2:Qbe cf m2 lo (k+1):=QrJ hc hin hj0 (by
      have ht:=c6
      rcases Nat.lt_or_ge lo j with q|q
      ·right;intro h;simp [q,h] at ht
      ·left;omega)
  refine Qab (Qaa (Qac (V:=I6 (k:Int)) rfl (Qaa (QaD (a:=(k:Int)) (b:=1) (c:=((k+1:Nat):Int)) rfl rfl (Qaj (by omega) (by omega)) (Qaa (Qad (V:=I6 ((k+1:Nat):Int)) rfl (Qae ?_)))))))
  refine ⟨_,?_,_,k+1,m2,Qak (Qao (ds:=([8,9]++sq 12 41)) (by repeat (first|exact Agr.refl _ _|refine Agr.upd ?_ rfl|refine Agr.mix ?_ rfl))) rfl,(by omega),(by omega),hz2,hpm2,hor2,rfl,hs.take 1⟩
  omega
 replace c2:=QQ2 c2
 refine QaJ ?_
 refine ⟨_,Qbd Tryz.results136,?_⟩
 refine ⟨m,rfl,hs.take 1,hz1,hpm,?_⟩
 rcases Nat.lt_or_ge k hi with q|q
 ·omega
 exact hor.sub (Nat.le_refl _) q
end Tt
end Go.Proofs
namespace Go.Proofs
open Go Go.Vx Go.RowKit
namespace Tt
theorem Qmr (w:World) (S:Nat->Prop) (a:Option Addr) (N c:Nat) (l:List Cen) (hz:l.length=N) (hN:N<=2305843009213693951) (p q n:Nat) (hp:p+n<=N) (hq:q+n<=N) (g:Nat) (hg:En Tryz.prog g) (cf:Cen->Cen->Int) (hc:CmpO cf) (hcmp:∀ (w:World) (x y:Cen),Calls Tryz.prog g #[.agg (cec x).toArray,.agg (cec y).toArray] w (fun e w'=>e = .returned (.int .i64 (cf x y))/\Own w no w' [])) (hR:(row (.slice a N c) (l.map cec) 106 7).holds w S) (hlt:∀ b,S b->b<w.heap.size):Calls Tryz.prog 184 #[.slice a N c,.int .i64 (p:Int),.int .i64 (q:Int),.int .i64 (n:Int),.func (.func g) #[] #[]] w (fun e w'=>∃ x:List Cen,e = .returned (.tuple #[])/\Own w S w' [row (.slice a N c) (x.map cec) 106 7]/\(x.length=N/\x=swN l p q n)):=by
 refine Qai (n:=38) Tryz.func184 rfl Tryz.ntmps184 rfl ?_
 have hs:=Own.lent hR hlt
 refine Qag (Qab (Qaa (Qad (V:=I6 0) rfl (Qae (Qan (QaC (fun J μ J' w'=>∃ (Jo:Env) (k:Nat) (m:List Cen),J'=upd (mix (sq 10 28) Jo J) 10 (I6 (k:Int))/\(k<=n)/\(m.length=N)/\(m=swN l p q k)/\μ=n-k/\Own w S w' [row (.slice a N c) (m.map cec) 106 7]) ?_ ?_))))))
 ·exact ⟨_,_,0,l,Qak (Qao (ds:=(sq 10 28)) (Agr.refl _ _)) rfl,(Nat.zero_le _),hz,rfl,rfl,hs⟩
 rintro μ J' w1 ⟨Jo,k,m,rfl,hk,hz1,hm,rfl,hs⟩
 refine Qag (Qag (Qab (Qaa (Qac (V:=I6 (k:Int)) rfl (Qaa (Qac (V:=I6 (n:Int)) rfl (Qaa (Qa2 rfl rfl (Qae (Qam (t:=decide ((k:Int)<(n:Int))) rfl (fun c2=>?_) (fun c2=>?_)))))))))))
 ·
  replace c2:=QQ1 c2
  refine Qap (Qag (Qan (QaH HM [some 16,some 17,some 18,some 19,some 20,some 21,some 22,some 23,some 24,some 25,some 26,some 27,some 28,some 29,some 30,some 31,some 32,some 33,some 34,some 35,some 36,none,some 37,none] [] [0,0,0,6,0,0,0,96,0,0,0,1536,3840,7936,0,0,0,98304,245760,507904,1048335,2096911,4194303,8388607] [pv (.slice a N c),pv (I6 (p:Int)),pv (I6 (k:Int)),pv (I6 ((p+k:Nat):Int)),pv (.slice a N c),pv (I6 (q:Int)),pv (I6 (k:Int)),pv (I6 ((q+k:Nat):Int)),pv (.slice a N c),pv (I6 (q:Int)),pv (I6 (k:Int)),pv (I6 ((q+k:Nat):Int)),pv (.pointer (some ⟨bkS (.slice a N c),ofS (.slice a N c)+((q+k:Nat):Int).toNat*7,none⟩)),pv (.agg (cec (gd m (q+k))).toArray),pv (.slice a N c),pv (I6 (p:Int)),pv (I6 (k:Int)),pv (I6 ((p+k:Nat):Int)),pv (.pointer (some ⟨bkS (.slice a N c),ofS (.slice a N c)+((p+k:Nat):Int).toNat*7,none⟩)),pv (.agg (cec (gd m (p+k))).toArray),pv (.pointer (some ⟨bkS (.slice a N c),ofS (.slice a N c)+((p+k:Nat):Int).toNat*7,none⟩)),pn,pv (.pointer (some ⟨bkS (.slice a N c),ofS (.slice a N c)+((q+k:Nat):Int).toNat*7,none⟩)),pn] (fun D J=>[cond (D 23) (row (.slice a N c) (((m.set (p+k) (gd m (q+k))).set (q+k) (gd m (p+k))).map cec) 106 7) (cond (D 21) (row (.slice a N c) ((m.set (p+k) (gd m (q+k))).map cec) 106 7) (row (.slice a N c) (m.map cec) 106 7))]) [] (by kernel_rfl) hs ⟨?_,?_,?_,?_,?_,?_,?_,?_,?_,?_,?_,?_,?_,?_,?_,?_,?_,?_,?_,?_,?_,?_,?_,?_,trivial⟩ ?_)))
  ·exact oa [] fun D J w hs=>Qac (V:=.slice a N c) rfl (Zz hs)
  ·exact oa [] fun D J w hs=>Qac (V:=.int .i64 (p:Int)) rfl (Zz hs)
  ·exact oa [] fun D J w hs=>Qac (V:=.int .i64 (k:Int)) rfl (Zz hs)
  ·exact oa [1,2] fun D J w hs=>QaD (a:=(p:Int)) (b:=(k:Int)) (c:=((p+k:Nat):Int)) rfl rfl (Qaj (by omega) (by omega)) (Zz hs)
  ·exact oa [] fun D J w hs=>Qac (V:=.slice a N c) rfl (Zz hs)
  ·exact oa [] fun D J w hs=>Qac (V:=.int .i64 (q:Int)) rfl (Zz hs)
  ·exact oa [] fun D J w hs=>Qac (V:=.int .i64 (k:Int)) rfl (Zz hs)
  ·exact oa [5,6] fun D J w hs=>QaD (a:=(q:Int)) (b:=(k:Int)) (c:=((q+k:Nat):Int)) rfl rfl (Qaj (by omega) (by omega)) (Zz hs)
  ·exact oa [] fun D J w hs=>Qac (V:=.slice a N c) rfl (Zz hs)
  ·exact oa [] fun D J w hs=>Qac (V:=.int .i64 (q:Int)) rfl (Zz hs)
  ·exact oa [] fun D J w hs=>Qac (V:=.int .i64 (k:Int)) rfl (Zz hs)
  ·exact oa [9,10] fun D J w hs=>QaD (a:=(q:Int)) (b:=(k:Int)) (c:=((q+k:Nat):Int)) rfl rfl (Qaj (by omega) (by omega)) (Zz hs)
  ·exact ob [8,11] [21,23] rfl rfl fun D J w hs=>Qaw QbC QaA.1 (hs.rd 0 rfl) rfl rfl (by omega) (by rw [QQ6];omega) (Zz hs)
  ·exact ob [12] [21,23] rfl rfl fun D J w hs=>Qbc (j:=0) (vs:=cec (gd m (q+k))) (q+k) QaA (hs.rd 0 rfl) (Qa9 (by omega)) rfl rfl rfl (by omega) (Zz hs)
  ·exact oa [] fun D J w hs=>Qac (V:=.slice a N c) rfl (Zz hs)
  ·exact oa [] fun D J w hs=>Qac (V:=.int .i64 (p:Int)) rfl (Zz hs)
  ·exact oa [] fun D J w hs=>Qac (V:=.int .i64 (k:Int)) rfl (Zz hs)
  ·exact oa [15,16] fun D J w hs=>QaD (a:=(p:Int)) (b:=(k:Int)) (c:=((p+k:Nat):Int)) rfl rfl (Qaj (by omega) (by omega)) (Zz hs)
  ·exact ob [14,17] [21,23] rfl rfl fun D J w hs=>Qaw QbC QaA.1 (hs.rd 0 rfl) rfl rfl (by omega) (by rw [QQ6];omega) (Zz hs)
  ·exact ob [18] [21,23] rfl rfl fun D J w hs=>Qbc (j:=0) (vs:=cec (gd m (p+k))) (p+k) QaA (hs.rd 0 rfl) (Qa9 (by omega)) rfl rfl rfl (by omega) (Zz hs)
  ·exact ob [0,3] [21,23] rfl rfl fun D J w hs=>Qaw QbC QaA.1 (hs.rd 0 rfl) rfl rfl (by omega) (by rw [QQ6];omega) (Zz hs)
  ·exact ob [13,20] [23] rfl rfl fun D J w hs=>Qht (z:=gd m (q+k)) (p+k) QaA.1 hs 0 rfl rfl rfl (by first|omega|(simp only [List.length_set];omega)) rfl rfl rfl (Qbi _) fun _ hs=>⟨trivial,hs⟩
  ·exact ob [4,7,21] [23] rfl rfl fun D J w hs=>Qaw QbC QaA.1 (hs.rd 0 rfl) rfl rfl (by omega) (by simp only [QQ6,List.length_set];omega) (Zz hs)
  ·exact oa [19,21,22] fun D J w hs=>Qht (z:=gd m (p+k)) (q+k) QaA.1 hs 0 rfl rfl rfl (by first|omega|(simp only [List.length_set];omega)) rfl rfl rfl (Qbi _) fun _ hs=>⟨trivial,hs⟩
  rintro J1 w5 J2 hJ hs
  replace hJ:J2=mix (sq 16 22) J1 _:=hJ
  replace hs:Own w S w5 [row (.slice a N c) (((m.set (p+k) (gd m (q+k))).set (q+k) (gd m (p+k))).map cec) 106 7]:=hs
  subst hJ
  replace hs:Own w S _ [row (.slice a N c) ((swL m (p+k) (q+k)).map cec) 106 7]:=hs.take 1
  refine Qab (Qaa (Qac (V:=I6 (k:Int)) rfl (Qaa (QaD (a:=(k:Int)) (b:=1) (c:=((k+1:Nat):Int)) rfl rfl (Qaj (by omega) (by omega)) (Qaa (Qad (V:=I6 ((k+1:Nat):Int)) rfl (Qae ?_)))))))
  refine ⟨_,?_,_,k+1,swL m (p+k) (q+k),Qak (Qao (ds:=(sq 10 28)) (by repeat (first|exact Agr.refl _ _|refine Agr.upd ?_ rfl|refine Agr.mix ?_ rfl))) rfl,(by omega),(by rw [Qhz];exact hz1),(by rw [QjN,← hm]),rfl,hs.take 1⟩
  omega
 replace c2:=QQ2 c2
 refine QaJ ?_
 refine ⟨_,Qbd Tryz.results184,?_⟩
 exact ⟨m,rfl,hs.take 1,hz1,by rw [hm,show k=n by omega]⟩
theorem Qt0 (w:World) (S:Nat->Prop) (a:Option Addr) (N c:Nat) (l:List Cen) (hz:l.length=N) (hN:N<=2305843009213693951) (lo mid hi:Nat) (h1:lo<mid) (h2:mid<hi) (h3:hi<=N) (g:Nat) (hg:En Tryz.prog g) (cf:Cen->Cen->Int) (hc:CmpO cf) (hcmp:∀ (w:World) (x y:Cen),Calls Tryz.prog g #[.agg (cec x).toArray,.agg (cec y).toArray] w (fun e w'=>e = .returned (.int .i64 (cf x y))/\Own w no w' [])) (hR:(row (.slice a N c) (l.map cec) 106 7).holds w S) (hlt:∀ b,S b->b<w.heap.size):Calls Tryz.prog 170 #[.slice a N c,.int .i64 (lo:Int),.int .i64 (mid:Int),.int .i64 (hi:Int),.func (.func g) #[] #[]] w (fun e w'=>∃ x:List Cen,e = .returned (.tuple #[])/\Own w S w' [row (.slice a N c) (x.map cec) 106 7]/\(x.length=N/\Qb0 l x lo mid hi)):=by
 refine Qai (n:=58) Tryz.func170 rfl Tryz.ntmps170 rfl ?_
 have hs:=Own.lent hR hlt
 obtain ⟨t,hrt,hro0⟩:=Qje (l:=l) (a:=lo) (m:=mid) (b:=hi) (by omega) (by omega) (by omega)
 refine Qag (Qab (Qaa (Qac (V:=I6 (mid:Int)) rfl (Qaa (Qac (V:=I6 (lo:Int)) rfl (Qaa (Qa3 (a:=(mid:Int)) (b:=(lo:Int)) (c:=((mid-lo:Nat):Int)) rfl rfl (Qaj (by omega) (by omega)) (Qaa (Qad (V:=I6 ((mid-lo:Nat):Int)) rfl (Qae (Qag (Qab (Qaa (Qac (V:=I6 (hi:Int)) rfl (Qaa (Qac (V:=I6 (mid:Int)) rfl (Qaa (Qa3 (a:=(hi:Int)) (b:=(mid:Int)) (c:=((hi-mid:Nat):Int)) rfl rfl (Qaj (by omega) (by omega)) (Qaa (Qad (V:=I6 ((hi-mid:Nat):Int)) rfl (Qae (Qag (Qan (QaC (fun J μ J' w'=>∃ (Jo:Env) (i:Nat) (j:Nat) (m:List Cen),J'=upd (upd (mix ([10,11]++sq 18 32) Jo J) 10 (I6 (i:Int))) 11 (I6 (j:Int))/\(0<i)/\(0<j)/\(m.length=N)/\(Qiw m t mid i j)/\μ=i+j/\Own w S w' [row (.slice a N c) (m.map cec) 106 7]) ?_ ?_))))))))))))))))))))))))
 ·exact ⟨_,_,mid-lo,hi-mid,l,Qak (Qak (Qao (ds:=([10,11]++sq 18 32)) (Agr.refl _ _)) rfl) rfl,(by omega),(by omega),hz,hro0,rfl,hs⟩
 rintro μ J' w1 ⟨Jo,i,j,m,rfl,hi0,hj0,hz1,hro,rfl,hs⟩
 have hrl:=QhW hro
 refine Qag (Qag (Qab (Qaa (Qac (V:=I6 (i:Int)) rfl (Qaa (Qac (V:=I6 (j:Int)) rfl (Qaa (QcC rfl rfl (Qae (Qam (t:=!decide ((i:Int)=(j:Int))) rfl (fun c2=>?_) (fun c2=>?_)))))))))))
 ·
  replace c2:=Qby c2
  replace c2:=QQ2 c2
  refine Qap (Qan (Qag (Qab (Qaa (Qac (V:=I6 (i:Int)) rfl (Qaa (Qac (V:=I6 (j:Int)) rfl (Qaa (QbU rfl rfl (Qae (Qam (t:=decide ((j:Int)<(i:Int))) rfl (fun c3=>?_) (fun c3=>?_))))))))))))
  ·
   replace c3:=QQ1 c3
   refine Qag (Qab (Qaa (Qac (V:=.slice a N c) rfl (Qaa (Qac (V:=I6 (mid:Int)) rfl (Qaa (Qac (V:=I6 (i:Int)) rfl (Qaa (Qa3 (a:=(mid:Int)) (b:=(i:Int)) (c:=((mid-i:Nat):Int)) rfl rfl (Qaj (by omega) (by omega)) (Qaa (Qac (V:=I6 (mid:Int)) rfl (Qaa (Qac (V:=I6 (j:Int)) rfl (Qaa (Qac (V:=.func (.func g) #[] #[]) rfl (Qaa (Qbs (α:=List Cen) (vs:=[.slice a N c,I6 ((mid-i:Nat):Int),I6 (mid:Int),I6 (j:Int),.func (.func g) #[] #[]]) (V:=fun _=>.tuple #[]) (R:=row (.slice a N c) (m.map cec) 106 7) (R':=fun x=>row (.slice a N c) (x.map cec) 106 7) (Lo:=fun _=>[]) (F:=fun x _=>x.length=N/\x=swN m (mid-i) mid j) QmY rfl rfl hs 0 rfl (fun S hS hlt=>Qmr _ S a N c m (by first|assumption|omega) hN (mid-i) mid j (by omega) (by omega) g hg cf hc hcmp hS hlt) fun mz4 w5 hs hF6=>(Qae (Qab (Qaa (Qac (V:=I6 (i:Int)) rfl (Qaa (Qac (V:=I6 (j:Int)) rfl (Qaa (Qa3 (a:=(i:Int)) (b:=(j:Int)) (c:=((i-j:Nat):Int)) rfl rfl (Qaj (by omega) (by omega)) (Qaa (Qad (V:=I6 ((i-j:Nat):Int)) rfl (Qae ?_))))))))))))))))))))))))))))
   refine ⟨_,?_,_,i-j,j,mz4,Qak (Qak (Qao (ds:=([10,11]++sq 18 32)) (by repeat (first|exact Agr.refl _ _|refine Agr.upd ?_ rfl|refine Agr.mix ?_ rfl))) rfl) rfl,(by omega),(by omega),hF6.1,(by rw [hF6.2];exact QnZ hro (by omega)),rfl,hs.take 1⟩
   omega
  replace c3:=QQ2 c3
  refine Qag (Qab (Qaa (Qac (V:=.slice a N c) rfl (Qaa (Qac (V:=I6 (mid:Int)) rfl (Qaa (Qac (V:=I6 (i:Int)) rfl (Qaa (Qa3 (a:=(mid:Int)) (b:=(i:Int)) (c:=((mid-i:Nat):Int)) rfl rfl (Qaj (by omega) (by omega)) (Qaa (Qac (V:=I6 (mid:Int)) rfl (Qaa (Qac (V:=I6 (j:Int)) rfl (Qaa (QaD (a:=(mid:Int)) (b:=(j:Int)) (c:=((mid+j:Nat):Int)) rfl rfl (Qaj (by omega) (by omega)) (Qaa (Qac (V:=I6 (i:Int)) rfl (Qaa (Qa3 (a:=((mid+j:Nat):Int)) (b:=(i:Int)) (c:=(((mid+j)-i:Nat):Int)) rfl rfl (Qaj (by omega) (by omega)) (Qaa (Qac (V:=I6 (i:Int)) rfl (Qaa (Qac (V:=.func (.func g) #[] #[]) rfl (Qaa (Qbs (α:=List Cen) (vs:=[.slice a N c,I6 ((mid-i:Nat):Int),I6 (((mid+j)-i:Nat):Int),I6 (i:Int),.func (.func g) #[] #[]]) (V:=fun _=>.tuple #[]) (R:=row (.slice a N c) (m.map cec) 106 7) (R':=fun x=>row (.slice a N c) (x.map cec) 106 7) (Lo:=fun _=>[]) (F:=fun x _=>x.length=N/\x=swN m (mid-i) ((mid+j)-i) i) QmY rfl rfl hs 0 rfl (fun S hS hlt=>Qmr _ S a N c m (by first|assumption|omega) hN (mid-i) ((mid+j)-i) i (by omega) (by omega) g hg cf hc hcmp hS hlt) fun mz7 w8 hs hF9=>(Qae (Qab (Qaa (Qac (V:=I6 (j:Int)) rfl (Qaa (Qac (V:=I6 (i:Int)) rfl (Qaa (Qa3 (a:=(j:Int)) (b:=(i:Int)) (c:=((j-i:Nat):Int)) rfl rfl (Qaj (by omega) (by omega)) (Qaa (Qad (V:=I6 ((j-i:Nat):Int)) rfl (Qae ?_))))))))))))))))))))))))))))))))))))
  refine ⟨_,?_,_,i,j-i,mz7,Qak (Qak (Qao (ds:=([10,11]++sq 18 32)) (by repeat (first|exact Agr.refl _ _|refine Agr.upd ?_ rfl|refine Agr.mix ?_ rfl))) rfl) rfl,(by omega),(by omega),hF9.1,(by rw [hF9.2];exact Qon hro (by omega)),rfl,hs.take 1⟩
  omega
 replace c2:=Qbr c2
 replace c2:=QQ1 c2
 refine QaJ ?_
 have hrl:=QhW hro
 have hij:i=j:=by omega
 refine Qab (Qaa (Qac (V:=.slice a N c) rfl (Qaa (Qac (V:=I6 (mid:Int)) rfl (Qaa (Qac (V:=I6 (i:Int)) rfl (Qaa (Qa3 (a:=(mid:Int)) (b:=(i:Int)) (c:=((mid-i:Nat):Int)) rfl rfl (Qaj (by omega) (by omega)) (Qaa (Qac (V:=I6 (mid:Int)) rfl (Qaa (Qac (V:=I6 (i:Int)) rfl (Qaa (Qac (V:=.func (.func g) #[] #[]) rfl (Qaa (Qbs (α:=List Cen) (vs:=[.slice a N c,I6 ((mid-i:Nat):Int),I6 (mid:Int),I6 (i:Int),.func (.func g) #[] #[]]) (V:=fun _=>.tuple #[]) (R:=row (.slice a N c) (m.map cec) 106 7) (R':=fun x=>row (.slice a N c) (x.map cec) 106 7) (Lo:=fun _=>[]) (F:=fun x _=>x.length=N/\x=swN m (mid-i) mid i) QmY rfl rfl hs 0 rfl (fun S hS hlt=>Qmr _ S a N c m (by first|assumption|omega) hN (mid-i) mid i (by omega) (by omega) g hg cf hc hcmp hS hlt) fun mz10 w11 hs hF12=>(Qae ?_)))))))))))))))))
 refine ⟨_,Qbd Tryz.results170,?_⟩
 have hxt:mz10=t:=by rw [hF12.2];exact Qoi hro (by omega)
 rw [hxt] at hs
 exact ⟨t,rfl,hs.take 1,by rw [← hxt];exact hF12.1,hrt⟩
end Tt
end Go.Proofs
namespace Go.Proofs
open Go Go.Vx Go.RowKit
namespace Tt
theorem QmK (d:Nat) (g:Nat) (hg:En Tryz.prog g) (cf:Cen->Cen->Int) (hc:CmpO cf) (hcmp:∀ (w:World) (x y:Cen),Calls Tryz.prog g #[.agg (cec x).toArray,.agg (cec y).toArray] w (fun e w'=>e = .returned (.int .i64 (cf x y))/\Own w no w' [])) (ih:Qtz Tryz.prog 157 g 106 7 cec cf d) (w:World) (S:Nat->Prop) (a:Option Addr) (N c:Nat) (l:List Cen) (lo mid hi:Nat) (hz:l.length=N) (hN:N<=2305843009213693951) (hd:hi-lo<=d+1) (h1:lo<mid) (h2:mid<hi) (h3:hi<=N) (ho1:Qbe cf l lo mid) (ho2:Qbe cf l mid hi) (hR:(row (.slice a N c) (l.map cec) 106 7).holds w S) (hlt:∀ b,S b->b<w.heap.size):Calls Tryz.prog 157 #[.slice a N c,.int .i64 (lo:Int),.int .i64 (mid:Int),.int .i64 (hi:Int),.func (.func g) #[] #[]] w (fun e w'=>∃ x:List Cen,e = .returned (.tuple #[])/\Own w S w' [row (.slice a N c) (x.map cec) 106 7]/\(x.length=N/\Merged cf l x lo hi)):=by
 refine Qai (n:=220) Tryz.func157 rfl Tryz.ntmps157 rfl ?_
 have hs:=Own.lent hR hlt
 refine Qag (Qag (Qab (Qaa (Qac (V:=I6 (mid:Int)) rfl (Qaa (Qac (V:=I6 (lo:Int)) rfl (Qaa (Qa3 (a:=(mid:Int)) (b:=(lo:Int)) (c:=((mid-lo:Nat):Int)) rfl rfl (Qaj (by omega) (by omega)) (Qaa (QaW rfl rfl (Qae (Qam (t:=decide (((mid-lo:Nat):Int)=1)) rfl (fun c1=>?_) (fun c1=>?_)))))))))))))
 ·
  replace c1:=QQ1 c1
  refine Qag (Qab (Qaa (Qac (V:=I6 (mid:Int)) rfl (Qaa (Qad (V:=I6 (mid:Int)) rfl (Qae (Qag (Qab (Qaa (Qac (V:=I6 (hi:Int)) rfl (Qaa (Qad (V:=I6 (hi:Int)) rfl (Qae (Qag (Qan (QaC (fun J μ J' w'=>∃ (Jo:Env) (i:Nat) (j:Nat),J'=upd (upd (mix ([10,11,12]++sq 31 23) Jo J) 10 (I6 (i:Int))) 11 (I6 (j:Int))/\(mid<=i)/\(i<=j)/\(j<=hi)/\(i=mid∨cf (gd l (i-1)) (gd l lo)<0)/\(j=hi∨¬cf (gd l j) (gd l lo)<0)/\μ=j-i/\Own w S w' [row (.slice a N c) (l.map cec) 106 7]) ?_ ?_))))))))))))))))
  ·exact ⟨_,_,mid,hi,Qak (Qak (Qao (ds:=([10,11,12]++sq 31 23)) (Agr.refl _ _)) rfl) rfl,(Nat.le_refl _),(by omega),(Nat.le_refl _),(Or.inl rfl),(Or.inl rfl),rfl,hs⟩
  rintro μ J' w2 ⟨Jo,i,j,rfl,hi1,hij,hj1,hi2,hj2,rfl,hs⟩
  refine Qag (Qag (Qab (Qaa (Qac (V:=I6 (i:Int)) rfl (Qaa (Qac (V:=I6 (j:Int)) rfl (Qaa (Qa2 rfl rfl (Qae (Qam (t:=decide ((i:Int)<(j:Int))) rfl (fun c3=>?_) (fun c3=>?_)))))))))))
  ·
   replace c3:=QQ1 c3
   refine Qap (Qan (Qag (Qab (Qaa (Qac (V:=I6 (i:Int)) rfl (Qaa (Qac (V:=I6 (j:Int)) rfl (Qaa (QaD (a:=(i:Int)) (b:=(j:Int)) (c:=((i+j:Nat):Int)) rfl rfl (Qaj (by omega) (by omega)) (Qaa (Qcg QhH Qc8 rfl (QdF (by omega) (by omega)) (Qaa (QgE rfl rfl (Qaa (Qcg Qc8 QhH rfl (QbE (by omega) (by omega)) (Qaa (Qad (V:=I6 (((i+j)/2:Nat):Int)) rfl (Qae (Qag (QaH HM [some 40,some 41,some 42,some 43,some 44,some 45,some 46,some 47,some 48,some 49,some 50] [] [0,0,0,6,14,0,0,96,224,511,1023] [pv (.func (.func g) #[] #[]),pv (.slice a N c),pv (I6 (((i+j)/2:Nat):Int)),pv (.pointer (some ⟨bkS (.slice a N c),ofS (.slice a N c)+(((i+j)/2:Nat):Int).toNat*7,none⟩)),pv (.agg (cec (gd l ((i+j)/2))).toArray),pv (.slice a N c),pv (I6 (lo:Int)),pv (.pointer (some ⟨bkS (.slice a N c),ofS (.slice a N c)+(lo:Int).toNat*7,none⟩)),pv (.agg (cec (gd l lo)).toArray),pv (I6 (cf (gd l ((i+j)/2)) (gd l lo))),pv (.bool (decide (cf (gd l ((i+j)/2)) (gd l lo)<0)))] (fun _ _=>_) [10] (by kernel_rfl) hs ⟨?_,?_,?_,?_,?_,?_,?_,?_,?_,?_,?_,trivial⟩ ?_))))))))))))))))))))
   ·exact oa [] fun D J w hs=>Qac (V:=.func (.func g) #[] #[]) rfl (Zz hs)
   ·exact oa [] fun D J w hs=>Qac (V:=.slice a N c) rfl (Zz hs)
   ·exact oa [] fun D J w hs=>Qac (V:=.int .i64 (((i+j)/2:Nat):Int)) rfl (Zz hs)
   ·exact oa [1,2] fun D J w hs=>Qaw QbC QaA.1 (hs.rd 0 rfl) rfl rfl (by omega) (by rw [QQ6];omega) (Zz hs)
   ·exact oa [3] fun D J w hs=>Qbc (j:=0) (vs:=cec (gd l ((i+j)/2))) ((i+j)/2) QaA (hs.rd 0 rfl) (Qa9 (by omega)) rfl rfl rfl (by omega) (Zz hs)
   ·exact oa [] fun D J w hs=>Qac (V:=.slice a N c) rfl (Zz hs)
   ·exact oa [] fun D J w hs=>Qac (V:=.int .i64 (lo:Int)) rfl (Zz hs)
   ·exact oa [5,6] fun D J w hs=>Qaw QbC QaA.1 (hs.rd 0 rfl) rfl rfl (by omega) (by rw [QQ6];omega) (Zz hs)
   ·exact oa [7] fun D J w hs=>Qbc (j:=0) (vs:=cec (gd l lo)) lo QaA (hs.rd 0 rfl) (Qa9 (by omega)) rfl rfl rfl (by omega) (Zz hs)
   ·exact oa [0,4,8] fun D J w hs=>Qe9 (vs:=[.agg (cec (gd l ((i+j)/2))).toArray,.agg (cec (gd l lo)).toArray]) (cs:=[]) (V:=.int .i64 (cf (gd l ((i+j)/2)) (gd l lo))) hg rfl rfl (hcmp _ (gd l ((i+j)/2)) (gd l lo)) hs fun _ hs=>Zz hs
   ·exact oa [9] fun D J w hs=>Qa2 rfl rfl (Zz hs)
   rintro J1 w5 J2 hJ hs
   replace hJ:J2=upd (mix (sq 40 11) J1 _) 50 (.bool (decide (cf (gd l ((i+j)/2)) (gd l lo)<0))):=hJ
   subst hJ
   refine Qam (t:=decide (cf (gd l ((i+j)/2)) (gd l lo)<0)) rfl (fun c6=>?_) (fun c6=>?_)
   ·
    replace c6:=QQ1 c6
    refine Qab (Qaa (Qac (V:=I6 (((i+j)/2:Nat):Int)) rfl (Qaa (QaD (a:=(((i+j)/2:Nat):Int)) (b:=1) (c:=((((i+j)/2)+1:Nat):Int)) rfl rfl (Qaj (by omega) (by omega)) (Qaa (Qad (V:=I6 ((((i+j)/2)+1:Nat):Int)) rfl (Qae ?_)))))))
    refine ⟨_,?_,_,((i+j)/2)+1,j,Qak (Qak (Qao (ds:=([10,11,12]++sq 31 23)) (by repeat (first|exact Agr.refl _ _|refine Agr.upd ?_ rfl|refine Agr.mix ?_ rfl))) rfl) rfl,(by omega),(by omega),(by omega),(Or.inr (by rw [Nat.add_sub_cancel];exact c6)),hj2,rfl,hs.take 1⟩
    omega
   replace c6:=QQ2 c6
   refine Qab (Qaa (Qac (V:=I6 (((i+j)/2:Nat):Int)) rfl (Qaa (Qad (V:=I6 (((i+j)/2:Nat):Int)) rfl (Qae ?_)))))
   refine ⟨_,?_,_,i,(i+j)/2,Qak (Qak (Qao (ds:=([10,11,12]++sq 31 23)) (by repeat (first|exact Agr.refl _ _|refine Agr.upd ?_ rfl|refine Agr.mix ?_ rfl))) rfl) rfl,(by omega),(by omega),(by omega),hi2,(Or.inr c6),rfl,hs.take 1⟩
   omega
  replace c3:=QQ2 c3
  refine QaJ (Qag (Qag (Qab (Qaa (Qac (V:=I6 (lo:Int)) rfl (Qaa (Qad (V:=I6 (lo:Int)) rfl (Qae (Qan ?_)))))))))
  have hie:i=j:=by omega
  refine QaC (fun J μ J' w'=>∃ (Jo:Env) (k:Nat) (m:List Cen),J'=upd (mix ([13]++sq 55 22) Jo J) 13 (I6 (k:Int))/\(lo<=k)/\(k+1<=i)/\(m.length=N)/\(Qb0 l m lo (lo+1) (k+1))/\μ=i-k/\Own w S w' [row (.slice a N c) (m.map cec) 106 7]) ?_ ?_
  ·exact ⟨_,_,lo,l,Qak (Qao (ds:=([13]++sq 55 22)) (Agr.refl _ _)) rfl,(Nat.le_refl _),(by omega),hz,(Qb0.refl (by omega) (by omega) (by omega) (Or.inr rfl)),rfl,hs⟩
  rintro μ J' w7 ⟨Jo,k,m,rfl,hk1,hk2,hz1,hro,rfl,hs⟩
  refine Qag (Qag (Qab (Qaa (Qac (V:=I6 (k:Int)) rfl (Qaa (Qac (V:=I6 (i:Int)) rfl (Qaa (Qa3 (a:=(i:Int)) (b:=1) (c:=((i-1:Nat):Int)) rfl rfl (Qaj (by omega) (by omega)) (Qaa (Qa2 rfl rfl (Qae (Qam (t:=decide ((k:Int)<((i-1:Nat):Int))) rfl (fun c8=>?_) (fun c8=>?_)))))))))))))
  ·
   replace c8:=QQ1 c8
   refine Qap (Qag (Qan (QaH HM [some 61,some 62,some 63,some 64,some 65,some 66,some 67,some 68,some 69,some 70,some 71,some 72,some 73,some 74,some 75,none,some 76,none] [] [0,0,0,0,8,0,0,64,224,480,0,0,3072,7168,16355,32739,65535,131071] [pv (.slice a N c),pv (I6 (k:Int)),pv (.slice a N c),pv (I6 (k:Int)),pv (I6 ((k+1:Nat):Int)),pv (.slice a N c),pv (I6 (k:Int)),pv (I6 ((k+1:Nat):Int)),pv (.pointer (some ⟨bkS (.slice a N c),ofS (.slice a N c)+((k+1:Nat):Int).toNat*7,none⟩)),pv (.agg (cec (gd m (k+1))).toArray),pv (.slice a N c),pv (I6 (k:Int)),pv (.pointer (some ⟨bkS (.slice a N c),ofS (.slice a N c)+(k:Int).toNat*7,none⟩)),pv (.agg (cec (gd m k)).toArray),pv (.pointer (some ⟨bkS (.slice a N c),ofS (.slice a N c)+(k:Int).toNat*7,none⟩)),pn,pv (.pointer (some ⟨bkS (.slice a N c),ofS (.slice a N c)+((k+1:Nat):Int).toNat*7,none⟩)),pn] (fun D J=>[cond (D 17) (row (.slice a N c) (((m.set k (gd m (k+1))).set (k+1) (gd m k)).map cec) 106 7) (cond (D 15) (row (.slice a N c) ((m.set k (gd m (k+1))).map cec) 106 7) (row (.slice a N c) (m.map cec) 106 7))]) [] (by kernel_rfl) hs ⟨?_,?_,?_,?_,?_,?_,?_,?_,?_,?_,?_,?_,?_,?_,?_,?_,?_,?_,trivial⟩ ?_)))
   ·exact oa [] fun D J w hs=>Qac (V:=.slice a N c) rfl (Zz hs)
   ·exact oa [] fun D J w hs=>Qac (V:=.int .i64 (k:Int)) rfl (Zz hs)
   ·exact oa [] fun D J w hs=>Qac (V:=.slice a N c) rfl (Zz hs)
   ·exact oa [] fun D J w hs=>Qac (V:=.int .i64 (k:Int)) rfl (Zz hs)
   ·exact oa [3] fun D J w hs=>QaD (a:=(k:Int)) (b:=1) (c:=((k+1:Nat):Int)) rfl rfl (Qaj (by omega) (by omega)) (Zz hs)
   ·exact oa [] fun D J w hs=>Qac (V:=.slice a N c) rfl (Zz hs)
   ·exact oa [] fun D J w hs=>Qac (V:=.int .i64 (k:Int)) rfl (Zz hs)
   ·exact oa [6] fun D J w hs=>QaD (a:=(k:Int)) (b:=1) (c:=((k+1:Nat):Int)) rfl rfl (Qaj (by omega) (by omega)) (Zz hs)
   ·exact ob [5,7] [15,17] rfl rfl fun D J w hs=>Qaw QbC QaA.1 (hs.rd 0 rfl) rfl rfl (by omega) (by rw [QQ6];omega) (Zz hs)
   ·exact ob [8] [15,17] rfl rfl fun D J w hs=>Qbc (j:=0) (vs:=cec (gd m (k+1))) (k+1) QaA (hs.rd 0 rfl) (Qa9 (by omega)) rfl rfl rfl (by omega) (Zz hs)
   ·exact oa [] fun D J w hs=>Qac (V:=.slice a N c) rfl (Zz hs)
   ·exact oa [] fun D J w hs=>Qac (V:=.int .i64 (k:Int)) rfl (Zz hs)
   ·exact ob [10,11] [15,17] rfl rfl fun D J w hs=>Qaw QbC QaA.1 (hs.rd 0 rfl) rfl rfl (by omega) (by rw [QQ6];omega) (Zz hs)
   ·exact ob [12] [15,17] rfl rfl fun D J w hs=>Qbc (j:=0) (vs:=cec (gd m k)) k QaA (hs.rd 0 rfl) (Qa9 (by omega)) rfl rfl rfl (by omega) (Zz hs)
   ·exact ob [0,1] [15,17] rfl rfl fun D J w hs=>Qaw QbC QaA.1 (hs.rd 0 rfl) rfl rfl (by omega) (by rw [QQ6];omega) (Zz hs)
   ·exact ob [9,14] [17] rfl rfl fun D J w hs=>Qht (z:=gd m (k+1)) k QaA.1 hs 0 rfl rfl rfl (by first|omega|(simp only [List.length_set];omega)) rfl rfl rfl (Qbi _) fun _ hs=>⟨trivial,hs⟩
   ·exact ob [2,4,15] [17] rfl rfl fun D J w hs=>Qaw QbC QaA.1 (hs.rd 0 rfl) rfl rfl (by omega) (by simp only [QQ6,List.length_set];omega) (Zz hs)
   ·exact oa [13,15,16] fun D J w hs=>Qht (z:=gd m k) (k+1) QaA.1 hs 0 rfl rfl rfl (by first|omega|(simp only [List.length_set];omega)) rfl rfl rfl (Qbi _) fun _ hs=>⟨trivial,hs⟩
   rintro J1 w11 J2 hJ hs
   replace hJ:J2=mix (sq 61 16) J1 _:=hJ
   replace hs:Own w S w11 [row (.slice a N c) (((m.set k (gd m (k+1))).set (k+1) (gd m k)).map cec) 106 7]:=hs
   subst hJ
   replace hs:Own w S _ [row (.slice a N c) ((swL m k (k+1)).map cec) 106 7]:=hs.take 1
   refine Qab (Qaa (Qac (V:=I6 (k:Int)) rfl (Qaa (QaD (a:=(k:Int)) (b:=1) (c:=((k+1:Nat):Int)) rfl rfl (Qaj (by omega) (by omega)) (Qaa (Qad (V:=I6 ((k+1:Nat):Int)) rfl (Qae ?_)))))))
   refine ⟨_,?_,_,k+1,swL m k (k+1),Qak (Qao (ds:=([13]++sq 55 22)) (by repeat (first|exact Agr.refl _ _|refine Agr.upd ?_ rfl|refine Agr.mix ?_ rfl))) rfl,(by omega),(by omega),(by rw [Qhz];exact hz1),(QtV hro (by omega)),rfl,hs.take 1⟩
   omega
  replace c8:=QQ2 c8
  refine QaJ (Qav ?_)
  refine ⟨_,Qbd Tryz.results157,?_⟩
  have hke:k+1=i:=by omega
  rw [hke] at hro
  exact ⟨m,rfl,hs.take 1,hz1,Qsc hc (by rw [show lo+1=mid by omega];exact ho2) (by omega) (by omega) (by omega) hro (by rw [hie];exact hj2) (by rw [show lo+1=mid by omega];exact hi2)⟩
 replace c1:=QQ2 c1
 refine Qap (Qag (Qag (Qab (Qaa (Qac (V:=I6 (hi:Int)) rfl (Qaa (Qac (V:=I6 (mid:Int)) rfl (Qaa (Qa3 (a:=(hi:Int)) (b:=(mid:Int)) (c:=((hi-mid:Nat):Int)) rfl rfl (Qaj (by omega) (by omega)) (Qaa (QaW rfl rfl (Qae (Qam (t:=decide (((hi-mid:Nat):Int)=1)) rfl (fun c12=>?_) (fun c12=>?_))))))))))))))
 ·
  replace c12:=QQ1 c12
  refine Qag (Qab (Qaa (Qac (V:=I6 (lo:Int)) rfl (Qaa (Qad (V:=I6 (lo:Int)) rfl (Qae (Qag (Qab (Qaa (Qac (V:=I6 (mid:Int)) rfl (Qaa (Qad (V:=I6 (mid:Int)) rfl (Qae (Qag (Qan (QaC (fun J μ J' w'=>∃ (Jo:Env) (i:Nat) (j:Nat),J'=upd (upd (mix ([14,15,16]++sq 83 24) Jo J) 14 (I6 (i:Int))) 15 (I6 (j:Int))/\(lo<=i)/\(i<=j)/\(j<=mid)/\(i=lo∨¬cf (gd l mid) (gd l (i-1))<0)/\(j=mid∨cf (gd l mid) (gd l j)<0)/\μ=j-i/\Own w S w' [row (.slice a N c) (l.map cec) 106 7]) ?_ ?_))))))))))))))))
  ·exact ⟨_,_,lo,mid,Qak (Qak (Qao (ds:=([14,15,16]++sq 83 24)) (Agr.refl _ _)) rfl) rfl,(Nat.le_refl _),(by omega),(Nat.le_refl _),(Or.inl rfl),(Or.inl rfl),rfl,hs⟩
  rintro μ J' w13 ⟨Jo,i,j,rfl,hi1,hij,hj1,hi2,hj2,rfl,hs⟩
  refine Qag (Qag (Qab (Qaa (Qac (V:=I6 (i:Int)) rfl (Qaa (Qac (V:=I6 (j:Int)) rfl (Qaa (Qa2 rfl rfl (Qae (Qam (t:=decide ((i:Int)<(j:Int))) rfl (fun c14=>?_) (fun c14=>?_)))))))))))
  ·
   replace c14:=QQ1 c14
   refine Qap (Qan (Qag (Qab (Qaa (Qac (V:=I6 (i:Int)) rfl (Qaa (Qac (V:=I6 (j:Int)) rfl (Qaa (QaD (a:=(i:Int)) (b:=(j:Int)) (c:=((i+j:Nat):Int)) rfl rfl (Qaj (by omega) (by omega)) (Qaa (Qcg QhH Qc8 rfl (QdF (by omega) (by omega)) (Qaa (QgE rfl rfl (Qaa (Qcg Qc8 QhH rfl (QbE (by omega) (by omega)) (Qaa (Qad (V:=I6 (((i+j)/2:Nat):Int)) rfl (Qae (Qag (QaH HM [some 92,some 93,some 94,some 95,some 96,some 97,some 98,some 99,some 100,some 101,some 102,some 103] [] [0,0,0,6,14,0,0,96,224,511,1023,2047] [pv (.func (.func g) #[] #[]),pv (.slice a N c),pv (I6 (mid:Int)),pv (.pointer (some ⟨bkS (.slice a N c),ofS (.slice a N c)+(mid:Int).toNat*7,none⟩)),pv (.agg (cec (gd l mid)).toArray),pv (.slice a N c),pv (I6 (((i+j)/2:Nat):Int)),pv (.pointer (some ⟨bkS (.slice a N c),ofS (.slice a N c)+(((i+j)/2:Nat):Int).toNat*7,none⟩)),pv (.agg (cec (gd l ((i+j)/2))).toArray),pv (I6 (cf (gd l mid) (gd l ((i+j)/2)))),pv (.bool (decide (cf (gd l mid) (gd l ((i+j)/2))<0))),pv (.bool (!decide (cf (gd l mid) (gd l ((i+j)/2))<0)))] (fun _ _=>_) [11] (by kernel_rfl) hs ⟨?_,?_,?_,?_,?_,?_,?_,?_,?_,?_,?_,?_,trivial⟩ ?_))))))))))))))))))))
   ·exact oa [] fun D J w hs=>Qac (V:=.func (.func g) #[] #[]) rfl (Zz hs)
   ·exact oa [] fun D J w hs=>Qac (V:=.slice a N c) rfl (Zz hs)
   ·exact oa [] fun D J w hs=>Qac (V:=.int .i64 (mid:Int)) rfl (Zz hs)
   ·exact oa [1,2] fun D J w hs=>Qaw QbC QaA.1 (hs.rd 0 rfl) rfl rfl (by omega) (by rw [QQ6];omega) (Zz hs)
   ·exact oa [3] fun D J w hs=>Qbc (j:=0) (vs:=cec (gd l mid)) mid QaA (hs.rd 0 rfl) (Qa9 (by omega)) rfl rfl rfl (by omega) (Zz hs)
   ·exact oa [] fun D J w hs=>Qac (V:=.slice a N c) rfl (Zz hs)
   ·exact oa [] fun D J w hs=>Qac (V:=.int .i64 (((i+j)/2:Nat):Int)) rfl (Zz hs)
   ·exact oa [5,6] fun D J w hs=>Qaw QbC QaA.1 (hs.rd 0 rfl) rfl rfl (by omega) (by rw [QQ6];omega) (Zz hs)
   ·exact oa [7] fun D J w hs=>Qbc (j:=0) (vs:=cec (gd l ((i+j)/2))) ((i+j)/2) QaA (hs.rd 0 rfl) (Qa9 (by omega)) rfl rfl rfl (by omega) (Zz hs)
   ·exact oa [0,4,8] fun D J w hs=>Qe9 (vs:=[.agg (cec (gd l mid)).toArray,.agg (cec (gd l ((i+j)/2))).toArray]) (cs:=[]) (V:=.int .i64 (cf (gd l mid) (gd l ((i+j)/2)))) hg rfl rfl (hcmp _ (gd l mid) (gd l ((i+j)/2))) hs fun _ hs=>Zz hs
   ·exact oa [9] fun D J w hs=>Qa2 rfl rfl (Zz hs)
   ·exact oa [10] fun D J w hs=>Qbx rfl (Zz hs)
   rintro J1 w16 J2 hJ hs
   replace hJ:J2=upd (mix (sq 92 12) J1 _) 103 (.bool (!decide (cf (gd l mid) (gd l ((i+j)/2))<0))):=hJ
   subst hJ
   refine Qam (t:=!decide (cf (gd l mid) (gd l ((i+j)/2))<0)) rfl (fun c17=>?_) (fun c17=>?_)
   ·
    replace c17:=Qby c17
    replace c17:=QQ2 c17
    refine Qab (Qaa (Qac (V:=I6 (((i+j)/2:Nat):Int)) rfl (Qaa (QaD (a:=(((i+j)/2:Nat):Int)) (b:=1) (c:=((((i+j)/2)+1:Nat):Int)) rfl rfl (Qaj (by omega) (by omega)) (Qaa (Qad (V:=I6 ((((i+j)/2)+1:Nat):Int)) rfl (Qae ?_)))))))
    refine ⟨_,?_,_,((i+j)/2)+1,j,Qak (Qak (Qao (ds:=([14,15,16]++sq 83 24)) (by repeat (first|exact Agr.refl _ _|refine Agr.upd ?_ rfl|refine Agr.mix ?_ rfl))) rfl) rfl,(by omega),(by omega),(by omega),(Or.inr (by rw [Nat.add_sub_cancel];exact c17)),hj2,rfl,hs.take 1⟩
    omega
   replace c17:=Qbr c17
   replace c17:=QQ1 c17
   refine Qab (Qaa (Qac (V:=I6 (((i+j)/2:Nat):Int)) rfl (Qaa (Qad (V:=I6 (((i+j)/2:Nat):Int)) rfl (Qae ?_)))))
   refine ⟨_,?_,_,i,(i+j)/2,Qak (Qak (Qao (ds:=([14,15,16]++sq 83 24)) (by repeat (first|exact Agr.refl _ _|refine Agr.upd ?_ rfl|refine Agr.mix ?_ rfl))) rfl) rfl,(by omega),(by omega),(by omega),hi2,(Or.inr c17),rfl,hs.take 1⟩
   omega
  replace c14:=QQ2 c14
  refine QaJ (Qag (Qag (Qab (Qaa (Qac (V:=I6 (mid:Int)) rfl (Qaa (Qad (V:=I6 (mid:Int)) rfl (Qae (Qan ?_)))))))))
  have hie:i=j:=by omega
  refine QaC (fun J μ J' w'=>∃ (Jo:Env) (k:Nat) (m:List Cen),J'=upd (mix ([17]++sq 108 21) Jo J) 17 (I6 (k:Int))/\(i<=k)/\(k<=mid)/\(m.length=N)/\(Qb0 l m k mid (mid+1))/\μ=k+1/\Own w S w' [row (.slice a N c) (m.map cec) 106 7]) ?_ ?_
  ·exact ⟨_,_,mid,l,Qak (Qao (ds:=([17]++sq 108 21)) (Agr.refl _ _)) rfl,(by omega),(Nat.le_refl _),hz,(Qb0.refl (by omega) (by omega) (by omega) (Or.inl rfl)),rfl,hs⟩
  rintro μ J' w18 ⟨Jo,k,m,rfl,hk1,hk2,hz1,hro,rfl,hs⟩
  refine Qag (Qag (Qab (Qaa (Qac (V:=I6 (k:Int)) rfl (Qaa (Qac (V:=I6 (i:Int)) rfl (Qaa (QbU rfl rfl (Qae (Qam (t:=decide ((i:Int)<(k:Int))) rfl (fun c19=>?_) (fun c19=>?_)))))))))))
  ·
   replace c19:=QQ1 c19
   refine Qap (Qag (Qan (QaH HM [some 113,some 114,some 115,some 116,some 117,some 118,some 119,some 120,some 121,some 122,some 123,some 124,some 125,some 126,some 127,none,some 128,none] [] [0,0,0,0,8,0,0,64,224,480,0,0,3072,7168,16355,32739,65535,131071] [pv (.slice a N c),pv (I6 (k:Int)),pv (.slice a N c),pv (I6 (k:Int)),pv (I6 ((k-1:Nat):Int)),pv (.slice a N c),pv (I6 (k:Int)),pv (I6 ((k-1:Nat):Int)),pv (.pointer (some ⟨bkS (.slice a N c),ofS (.slice a N c)+((k-1:Nat):Int).toNat*7,none⟩)),pv (.agg (cec (gd m (k-1))).toArray),pv (.slice a N c),pv (I6 (k:Int)),pv (.pointer (some ⟨bkS (.slice a N c),ofS (.slice a N c)+(k:Int).toNat*7,none⟩)),pv (.agg (cec (gd m k)).toArray),pv (.pointer (some ⟨bkS (.slice a N c),ofS (.slice a N c)+(k:Int).toNat*7,none⟩)),pn,pv (.pointer (some ⟨bkS (.slice a N c),ofS (.slice a N c)+((k-1:Nat):Int).toNat*7,none⟩)),pn] (fun D J=>[cond (D 17) (row (.slice a N c) (((m.set k (gd m (k-1))).set (k-1) (gd m k)).map cec) 106 7) (cond (D 15) (row (.slice a N c) ((m.set k (gd m (k-1))).map cec) 106 7) (row (.slice a N c) (m.map cec) 106 7))]) [] (by kernel_rfl) hs ⟨?_,?_,?_,?_,?_,?_,?_,?_,?_,?_,?_,?_,?_,?_,?_,?_,?_,?_,trivial⟩ ?_)))
   ·exact oa [] fun D J w hs=>Qac (V:=.slice a N c) rfl (Zz hs)
   ·exact oa [] fun D J w hs=>Qac (V:=.int .i64 (k:Int)) rfl (Zz hs)
   ·exact oa [] fun D J w hs=>Qac (V:=.slice a N c) rfl (Zz hs)
   ·exact oa [] fun D J w hs=>Qac (V:=.int .i64 (k:Int)) rfl (Zz hs)
   ·exact oa [3] fun D J w hs=>Qa3 (a:=(k:Int)) (b:=1) (c:=((k-1:Nat):Int)) rfl rfl (Qaj (by omega) (by omega)) (Zz hs)
   ·exact oa [] fun D J w hs=>Qac (V:=.slice a N c) rfl (Zz hs)
   ·exact oa [] fun D J w hs=>Qac (V:=.int .i64 (k:Int)) rfl (Zz hs)
   ·exact oa [6] fun D J w hs=>Qa3 (a:=(k:Int)) (b:=1) (c:=((k-1:Nat):Int)) rfl rfl (Qaj (by omega) (by omega)) (Zz hs)
   ·exact ob [5,7] [15,17] rfl rfl fun D J w hs=>Qaw QbC QaA.1 (hs.rd 0 rfl) rfl rfl (by omega) (by rw [QQ6];omega) (Zz hs)
   ·exact ob [8] [15,17] rfl rfl fun D J w hs=>Qbc (j:=0) (vs:=cec (gd m (k-1))) (k-1) QaA (hs.rd 0 rfl) (Qa9 (by omega)) rfl rfl rfl (by omega) (Zz hs)
   ·exact oa [] fun D J w hs=>Qac (V:=.slice a N c) rfl (Zz hs)
   ·exact oa [] fun D J w hs=>Qac (V:=.int .i64 (k:Int)) rfl (Zz hs)
   ·exact ob [10,11] [15,17] rfl rfl fun D J w hs=>Qaw QbC QaA.1 (hs.rd 0 rfl) rfl rfl (by omega) (by rw [QQ6];omega) (Zz hs)
   ·exact ob [12] [15,17] rfl rfl fun D J w hs=>Qbc (j:=0) (vs:=cec (gd m k)) k QaA (hs.rd 0 rfl) (Qa9 (by omega)) rfl rfl rfl (by omega) (Zz hs)
   ·exact ob [0,1] [15,17] rfl rfl fun D J w hs=>Qaw QbC QaA.1 (hs.rd 0 rfl) rfl rfl (by omega) (by rw [QQ6];omega) (Zz hs)
   ·exact ob [9,14] [17] rfl rfl fun D J w hs=>Qht (z:=gd m (k-1)) k QaA.1 hs 0 rfl rfl rfl (by first|omega|(simp only [List.length_set];omega)) rfl rfl rfl (Qbi _) fun _ hs=>⟨trivial,hs⟩
   ·exact ob [2,4,15] [17] rfl rfl fun D J w hs=>Qaw QbC QaA.1 (hs.rd 0 rfl) rfl rfl (by omega) (by simp only [QQ6,List.length_set];omega) (Zz hs)
   ·exact oa [13,15,16] fun D J w hs=>Qht (z:=gd m k) (k-1) QaA.1 hs 0 rfl rfl rfl (by first|omega|(simp only [List.length_set];omega)) rfl rfl rfl (Qbi _) fun _ hs=>⟨trivial,hs⟩
   rintro J1 w22 J2 hJ hs
   replace hJ:J2=mix (sq 113 16) J1 _:=hJ
   replace hs:Own w S w22 [row (.slice a N c) (((m.set k (gd m (k-1))).set (k-1) (gd m k)).map cec) 106 7]:=hs
   subst hJ
   replace hs:Own w S _ [row (.slice a N c) ((swL m k (k-1)).map cec) 106 7]:=hs.take 1
   refine Qab (Qaa (Qac (V:=I6 (k:Int)) rfl (Qaa (Qa3 (a:=(k:Int)) (b:=1) (c:=((k-1:Nat):Int)) rfl rfl (Qaj (by omega) (by omega)) (Qaa (Qad (V:=I6 ((k-1:Nat):Int)) rfl (Qae ?_)))))))
   refine ⟨_,?_,_,k-1,swL m k (k-1),Qak (Qao (ds:=([17]++sq 108 21)) (by repeat (first|exact Agr.refl _ _|refine Agr.upd ?_ rfl|refine Agr.mix ?_ rfl))) rfl,(by omega),(by omega),(by rw [Qhz];exact hz1),(QoL hro (by omega)),rfl,hs.take 1⟩
   omega
  replace c19:=QQ2 c19
  refine QaJ (Qav ?_)
  refine ⟨_,Qbd Tryz.results157,?_⟩
  have hke:k=i:=by omega
  rw [hke] at hro
  have hm:=QnU hc ho1 hi1 (by omega) (by omega) hro hi2 (by rw [hie];exact hj2)
  rw [show mid+1=hi by omega] at hm
  exact ⟨m,rfl,hs.take 1,hz1,hm⟩
 replace c12:=QQ2 c12
 refine Qap (Qag (Qab (Qaa (Qac (V:=I6 (lo:Int)) rfl (Qaa (Qac (V:=I6 (hi:Int)) rfl (Qaa (QaD (a:=(lo:Int)) (b:=(hi:Int)) (c:=((lo+hi:Nat):Int)) rfl rfl (Qaj (by omega) (by omega)) (Qaa (Qcg QhH Qc8 rfl (QdF (by omega) (by omega)) (Qaa (QgE rfl rfl (Qaa (Qcg Qc8 QhH rfl (QbE (by omega) (by omega)) (Qaa (Qad (V:=I6 (((lo+hi)/2:Nat):Int)) rfl (Qae (Qag (Qab (Qaa (Qac (V:=I6 (((lo+hi)/2:Nat):Int)) rfl (Qaa (Qac (V:=I6 (mid:Int)) rfl (Qaa (QaD (a:=(((lo+hi)/2:Nat):Int)) (b:=(mid:Int)) (c:=((((lo+hi)/2)+mid:Nat):Int)) rfl rfl (Qaj (by omega) (by omega)) (Qaa (Qad (V:=I6 ((((lo+hi)/2)+mid:Nat):Int)) rfl (Qae (Qag (Qab (Qaa (Qad (V:=I6 0) rfl (Qaa (Qad (V:=I6 0) rfl (Qae (Qag (Qag (Qab (Qaa (Qac (V:=I6 (mid:Int)) rfl (Qaa (Qac (V:=I6 (((lo+hi)/2:Nat):Int)) rfl (Qaa (QbU rfl rfl (Qae (Qfs (fun J J' w'=>∃ (Jo:Env) (s0:Nat) (r0:Nat),J'=upd (upd (mix ([20,21]++sq 141 6) Jo J) 20 (I6 (s0:Int))) 21 (I6 (r0:Int))/\(lo<=s0)/\(s0<=r0)/\(r0<=mid)/\(r0<=(lo+hi)/2)/\((lo+hi)/2+mid<=hi+s0)/\(s0=lo∨(lo+hi)/2+mid=hi+s0)/\(r0=mid∨r0=(lo+hi)/2)/\Own w S w' [row (.slice a N c) (l.map cec) 106 7]) ?_ ?_))))))))))))))))))))))))))))))))))))))))))))))
 ·
  refine Qam (t:=decide ((((lo+hi)/2:Nat):Int)<(mid:Int))) rfl (fun c23=>?_) (fun c23=>?_)
  ·
   replace c23:=QQ1 c23
   refine Qag (Qab (Qaa (Qac (V:=I6 ((((lo+hi)/2)+mid:Nat):Int)) rfl (Qaa (Qac (V:=I6 (hi:Int)) rfl (Qaa (Qa3 (a:=((((lo+hi)/2)+mid:Nat):Int)) (b:=(hi:Int)) (c:=(((((lo+hi)/2)+mid)-hi:Nat):Int)) rfl rfl (Qaj (by omega) (by omega)) (Qaa (Qad (V:=I6 (((((lo+hi)/2)+mid)-hi:Nat):Int)) rfl (Qae (Qab (Qaa (Qac (V:=I6 (((lo+hi)/2:Nat):Int)) rfl (Qaa (Qad (V:=I6 (((lo+hi)/2:Nat):Int)) rfl (Qae ?_))))))))))))))))
   exact ⟨_,(((lo+hi)/2)+mid)-hi,(lo+hi)/2,Qak (Qak (Qao (ds:=([20,21]++sq 141 6)) (by repeat (first|exact Agr.refl _ _|refine Agr.upd ?_ rfl|refine Agr.mix ?_ rfl))) rfl) rfl,(by omega),(by omega),(by omega),(by omega),(by omega),(by omega),(by omega),hs.take 1⟩
  replace c23:=QQ2 c23
  refine Qag (Qab (Qaa (Qac (V:=I6 (lo:Int)) rfl (Qaa (Qad (V:=I6 (lo:Int)) rfl (Qae (Qab (Qaa (Qac (V:=I6 (mid:Int)) rfl (Qaa (Qad (V:=I6 (mid:Int)) rfl (Qae ?_))))))))))))
  exact ⟨_,lo,mid,Qak (Qak (Qao (ds:=([20,21]++sq 141 6)) (by repeat (first|exact Agr.refl _ _|refine Agr.upd ?_ rfl|refine Agr.mix ?_ rfl))) rfl) rfl,(by omega),(by omega),(by omega),(by omega),(by omega),(by omega),(by omega),hs.take 1⟩
 rintro J' w24 ⟨Jo,s0,r0,rfl,q1,q2,q3,q4,q5,q6,q7,hs⟩
 refine Qag (Qab (Qaa (Qac (V:=I6 ((((lo+hi)/2)+mid:Nat):Int)) rfl (Qaa (Qa3 (a:=((((lo+hi)/2)+mid:Nat):Int)) (b:=1) (c:=(((((lo+hi)/2)+mid)-1:Nat):Int)) rfl rfl (Qaj (by omega) (by omega)) (Qaa (Qad (V:=I6 (((((lo+hi)/2)+mid)-1:Nat):Int)) rfl (Qae (Qag (Qan (QaC (fun J μ J' w'=>∃ (Jo:Env) (s:Nat) (r:Nat),J'=upd (upd (mix ([20,21,23]++sq 149 26) Jo J) 20 (I6 (s:Int))) 21 (I6 (r:Int))/\(s0<=s)/\(s<=r)/\(r<=r0)/\(s=s0∨¬cf (gd l ((lo+hi)/2+mid-1-(s-1))) (gd l (s-1))<0)/\(r=r0∨cf (gd l ((lo+hi)/2+mid-1-r)) (gd l r)<0)/\μ=r-s/\Own w S w' [row (.slice a N c) (l.map cec) 106 7]) ?_ ?_)))))))))))
 ·exact ⟨_,_,s0,r0,Qak (Qak (Qao (ds:=([20,21,23]++sq 149 26)) (Agr.refl _ _)) rfl) rfl,(Nat.le_refl _),(by omega),(Nat.le_refl _),(Or.inl rfl),(Or.inl rfl),rfl,hs⟩
 rintro μ J' w25 ⟨Jo,s,r,rfl,hs1,hsr,hr1,hs2,hr2,rfl,hs⟩
 refine Qag (Qag (Qab (Qaa (Qac (V:=I6 (s:Int)) rfl (Qaa (Qac (V:=I6 (r:Int)) rfl (Qaa (Qa2 rfl rfl (Qae (Qam (t:=decide ((s:Int)<(r:Int))) rfl (fun c26=>?_) (fun c26=>?_)))))))))))
 ·
  replace c26:=QQ1 c26
  refine Qap (Qan (Qag (Qab (Qaa (Qac (V:=I6 (s:Int)) rfl (Qaa (Qac (V:=I6 (r:Int)) rfl (Qaa (QaD (a:=(s:Int)) (b:=(r:Int)) (c:=((s+r:Nat):Int)) rfl rfl (Qaj (by omega) (by omega)) (Qaa (Qcg QhH Qc8 rfl (QdF (by omega) (by omega)) (Qaa (QgE rfl rfl (Qaa (Qcg Qc8 QhH rfl (QbE (by omega) (by omega)) (Qaa (Qad (V:=I6 (((s+r)/2:Nat):Int)) rfl (Qae (Qag (QaH HM [some 158,some 159,some 160,some 161,some 162,some 163,some 164,some 165,some 166,some 167,some 168,some 169,some 170,some 171] [] [0,0,0,0,12,30,62,0,0,384,896,2047,4095,8191] [pv (.func (.func g) #[] #[]),pv (.slice a N c),pv (I6 (((((lo+hi)/2)+mid)-1:Nat):Int)),pv (I6 (((s+r)/2:Nat):Int)),pv (I6 ((((((lo+hi)/2)+mid)-1)-((s+r)/2):Nat):Int)),pv (.pointer (some ⟨bkS (.slice a N c),ofS (.slice a N c)+((((((lo+hi)/2)+mid)-1)-((s+r)/2):Nat):Int).toNat*7,none⟩)),pv (.agg (cec (gd l (((((lo+hi)/2)+mid)-1)-((s+r)/2)))).toArray),pv (.slice a N c),pv (I6 (((s+r)/2:Nat):Int)),pv (.pointer (some ⟨bkS (.slice a N c),ofS (.slice a N c)+(((s+r)/2:Nat):Int).toNat*7,none⟩)),pv (.agg (cec (gd l ((s+r)/2))).toArray),pv (I6 (cf (gd l (((((lo+hi)/2)+mid)-1)-((s+r)/2))) (gd l ((s+r)/2)))),pv (.bool (decide (cf (gd l (((((lo+hi)/2)+mid)-1)-((s+r)/2))) (gd l ((s+r)/2))<0))),pv (.bool (!decide (cf (gd l (((((lo+hi)/2)+mid)-1)-((s+r)/2))) (gd l ((s+r)/2))<0)))] (fun _ _=>_) [13] (by kernel_rfl) hs ⟨?_,?_,?_,?_,?_,?_,?_,?_,?_,?_,?_,?_,?_,?_,trivial⟩ ?_))))))))))))))))))))
  ·exact oa [] fun D J w hs=>Qac (V:=.func (.func g) #[] #[]) rfl (Zz hs)
  ·exact oa [] fun D J w hs=>Qac (V:=.slice a N c) rfl (Zz hs)
  ·exact oa [] fun D J w hs=>Qac (V:=.int .i64 (((((lo+hi)/2)+mid)-1:Nat):Int)) rfl (Zz hs)
  ·exact oa [] fun D J w hs=>Qac (V:=.int .i64 (((s+r)/2:Nat):Int)) rfl (Zz hs)
  ·exact oa [2,3] fun D J w hs=>Qa3 (a:=(((((lo+hi)/2)+mid)-1:Nat):Int)) (b:=(((s+r)/2:Nat):Int)) (c:=((((((lo+hi)/2)+mid)-1)-((s+r)/2):Nat):Int)) rfl rfl (Qaj (by omega) (by omega)) (Zz hs)
  ·exact oa [1,4] fun D J w hs=>Qaw QbC QaA.1 (hs.rd 0 rfl) rfl rfl (by omega) (by rw [QQ6];omega) (Zz hs)
  ·exact oa [5] fun D J w hs=>Qbc (j:=0) (vs:=cec (gd l (((((lo+hi)/2)+mid)-1)-((s+r)/2)))) (((((lo+hi)/2)+mid)-1)-((s+r)/2)) QaA (hs.rd 0 rfl) (Qa9 (by omega)) rfl rfl rfl (by omega) (Zz hs)
  ·exact oa [] fun D J w hs=>Qac (V:=.slice a N c) rfl (Zz hs)
  ·exact oa [] fun D J w hs=>Qac (V:=.int .i64 (((s+r)/2:Nat):Int)) rfl (Zz hs)
  ·exact oa [7,8] fun D J w hs=>Qaw QbC QaA.1 (hs.rd 0 rfl) rfl rfl (by omega) (by rw [QQ6];omega) (Zz hs)
  ·exact oa [9] fun D J w hs=>Qbc (j:=0) (vs:=cec (gd l ((s+r)/2))) ((s+r)/2) QaA (hs.rd 0 rfl) (Qa9 (by omega)) rfl rfl rfl (by omega) (Zz hs)
  ·exact oa [0,6,10] fun D J w hs=>Qe9 (vs:=[.agg (cec (gd l (((((lo+hi)/2)+mid)-1)-((s+r)/2)))).toArray,.agg (cec (gd l ((s+r)/2))).toArray]) (cs:=[]) (V:=.int .i64 (cf (gd l (((((lo+hi)/2)+mid)-1)-((s+r)/2))) (gd l ((s+r)/2)))) hg rfl rfl (hcmp _ (gd l (((((lo+hi)/2)+mid)-1)-((s+r)/2))) (gd l ((s+r)/2))) hs fun _ hs=>Zz hs
  ·exact oa [11] fun D J w hs=>Qa2 rfl rfl (Zz hs)
  ·exact oa [12] fun D J w hs=>Qbx rfl (Zz hs)
  rintro J1 w28 J2 hJ hs
  replace hJ:J2=upd (mix (sq 158 14) J1 _) 171 (.bool (!decide (cf (gd l (((((lo+hi)/2)+mid)-1)-((s+r)/2))) (gd l ((s+r)/2))<0))):=hJ
  subst hJ
  refine Qam (t:=!decide (cf (gd l (((((lo+hi)/2)+mid)-1)-((s+r)/2))) (gd l ((s+r)/2))<0)) rfl (fun c29=>?_) (fun c29=>?_)
  ·
   replace c29:=Qby c29
   replace c29:=QQ2 c29
   refine Qab (Qaa (Qac (V:=I6 (((s+r)/2:Nat):Int)) rfl (Qaa (QaD (a:=(((s+r)/2:Nat):Int)) (b:=1) (c:=((((s+r)/2)+1:Nat):Int)) rfl rfl (Qaj (by omega) (by omega)) (Qaa (Qad (V:=I6 ((((s+r)/2)+1:Nat):Int)) rfl (Qae ?_)))))))
   refine ⟨_,?_,_,((s+r)/2)+1,r,Qak (Qak (Qao (ds:=([20,21,23]++sq 149 26)) (by repeat (first|exact Agr.refl _ _|refine Agr.upd ?_ rfl|refine Agr.mix ?_ rfl))) rfl) rfl,(by omega),(by omega),(by omega),(Or.inr (by rw [Nat.add_sub_cancel];exact c29)),hr2,rfl,hs.take 1⟩
   omega
  replace c29:=Qbr c29
  replace c29:=QQ1 c29
  refine Qab (Qaa (Qac (V:=I6 (((s+r)/2:Nat):Int)) rfl (Qaa (Qad (V:=I6 (((s+r)/2:Nat):Int)) rfl (Qae ?_)))))
  refine ⟨_,?_,_,s,(s+r)/2,Qak (Qak (Qao (ds:=([20,21,23]++sq 149 26)) (by repeat (first|exact Agr.refl _ _|refine Agr.upd ?_ rfl|refine Agr.mix ?_ rfl))) rfl) rfl,(by omega),(by omega),(by omega),hs2,(Or.inr c29),rfl,hs.take 1⟩
  omega
 replace c26:=QQ2 c26
 refine QaJ (Qag (Qab (Qaa (Qac (V:=I6 ((((lo+hi)/2)+mid:Nat):Int)) rfl (Qaa (Qac (V:=I6 (s:Int)) rfl (Qaa (Qa3 (a:=((((lo+hi)/2)+mid:Nat):Int)) (b:=(s:Int)) (c:=(((((lo+hi)/2)+mid)-s:Nat):Int)) rfl rfl (Qaj (by omega) (by omega)) (Qaa (Qad (V:=I6 (((((lo+hi)/2)+mid)-s:Nat):Int)) rfl (Qae (Qag (Qag (Qbq [some 178,some 179,some 180,some 181,some 182,some 183,some 184,some 185] [] [0,0,3,7,15,15,63,127] [pv (I6 (s:Int)),pv (I6 (mid:Int)),pv (.bool (decide ((s:Int)<(mid:Int)))),pv (.bool (decide ((s:Int)<(mid:Int)))),pg ((decide ((s:Int)<(mid:Int))) == true) (I6 (mid:Int)),pg ((decide ((s:Int)<(mid:Int))) == true) (I6 (((((lo+hi)/2)+mid)-s:Nat):Int)),pg ((decide ((s:Int)<(mid:Int))) == true) (.bool (decide ((mid:Int)<(((((lo+hi)/2)+mid)-s:Nat):Int)))),pv (.bool ((decide ((s:Int)<(mid:Int)))&&(decide ((mid:Int)<(((((lo+hi)/2)+mid)-s:Nat):Int)))))] (fun _ _=>_) [7] (by kernel_rfl) hs ⟨?_,?_,?_,?_,?_,?_,?_,?_,trivial⟩ ?_))))))))))))))
 ·exact oa [] fun D J w hs=>Qac (V:=.int .i64 (s:Int)) rfl (Zz hs)
 ·exact oa [] fun D J w hs=>Qac (V:=.int .i64 (mid:Int)) rfl (Zz hs)
 ·exact oa [0,1] fun D J w hs=>Qa2 rfl rfl (Zz hs)
 ·exact oa [2] fun D J w hs=>Qac (V:=.bool (decide ((s:Int)<(mid:Int)))) rfl (Zz hs)
 ·exact og [3] fun D J w hG hs=>Qac (V:=.int .i64 (mid:Int)) rfl (Zz hs)
 ·exact og [3] fun D J w hG hs=>Qac (V:=.int .i64 (((((lo+hi)/2)+mid)-s:Nat):Int)) rfl (Zz hs)
 ·exact oy [3,4,5] [4,5] fun D J w hG hs=>Qa2 rfl rfl (Zz hs)
 ·exact oa [3,6] fun D J w hs=>Qbg (h':=decide ((mid:Int)<(((((lo+hi)/2)+mid)-s:Nat):Int))) rfl rfl rfl (Zz hs)
 rintro J1 w30 J2 hJ hs
 replace hJ:J2=upd (mix (sq 178 8) J1 _) 185 (.bool ((decide ((s:Int)<(mid:Int)))&&(decide ((mid:Int)<(((((lo+hi)/2)+mid)-s:Nat):Int))))):=hJ
 subst hJ
 have hse:s=r:=by omega
 rw [← hse] at hr2
 have hg1:=Qsd (lo:=lo) (hi:=hi) (e:=(lo+hi)/2+mid-s) hs2 q6 hs1 rfl
 have hg2:=QtW (md:=(lo+hi)/2) (e:=(lo+hi)/2+mid-s) hr2 q7 rfl rfl (by omega)
 refine Qfs (fun J J' w'=>∃ (Jo:Env) (m1:List Cen),J'=mix (sq 186 6) Jo J/\(m1.length=N)/\(Qb0 l m1 s mid ((lo+hi)/2+mid-s))/\Own w S w' [row (.slice a N c) (m1.map cec) 106 7]) ?_ ?_
 ·
  refine Qam (t:=(decide ((s:Int)<(mid:Int)))&&(decide ((mid:Int)<(((((lo+hi)/2)+mid)-s:Nat):Int)))) rfl (fun c31=>?_) (fun c31=>?_)
  ·
   have c31r:=Qcs c31
   replace c31:=QbY c31
   replace c31:=QQ1 c31
   replace c31r:=QQ1 c31r
   refine Qab (Qaa (Qac (V:=.slice a N c) rfl (Qaa (Qac (V:=I6 (s:Int)) rfl (Qaa (Qac (V:=I6 (mid:Int)) rfl (Qaa (Qac (V:=I6 (((((lo+hi)/2)+mid)-s:Nat):Int)) rfl (Qaa (Qac (V:=.func (.func g) #[] #[]) rfl (Qaa (Qbs (α:=List Cen) (vs:=[.slice a N c,I6 (s:Int),I6 (mid:Int),I6 (((((lo+hi)/2)+mid)-s:Nat):Int),.func (.func g) #[] #[]]) (V:=fun _=>.tuple #[]) (R:=row (.slice a N c) (l.map cec) 106 7) (R':=fun x=>row (.slice a N c) (x.map cec) 106 7) (Lo:=fun _=>[]) (F:=fun x _=>x.length=N/\Qb0 l x s mid ((((lo+hi)/2)+mid)-s)) Qsq rfl rfl hs 0 rfl (fun S hS hlt=>Qt0 _ S a N c l hz hN s mid ((((lo+hi)/2)+mid)-s) (by omega) (by omega) (by omega) g hg cf hc hcmp hS hlt) fun mz32 w33 hs hF34=>(Qae ?_)))))))))))))
   exact ⟨_,mz32,Qao (ds:=(sq 186 6)) (by repeat (first|exact Agr.refl _ _|refine Agr.upd ?_ rfl|refine Agr.mix ?_ rfl)),hF34.1,hF34.2,hs.take 1⟩
  refine Qap ?_
  exact ⟨_,l,Qao (ds:=(sq 186 6)) (by repeat (first|exact Agr.refl _ _|refine Agr.upd ?_ rfl|refine Agr.mix ?_ rfl)),hz,(Qb0.refl (by omega) (by omega) (by omega) (by
 have ht:=c31
 rcases Nat.lt_or_ge s mid with q|q
 ·right;simp [q] at ht;omega
 ·left;omega)),hs.take 1⟩
 rintro J' w35 ⟨Jo,m1,rfl,hz1,hro,hs⟩
 have hmd:s+((lo+hi)/2+mid-s-mid)=(lo+hi)/2:=by omega
 have hh:=Qe3 hc ho1 ho2 (by omega) (by omega) (by omega) (by omega) hro hg1 hg2
 rw [hmd] at hh
 obtain ⟨k1,k2,k3,k4,k5⟩:=hh
 refine Qag (Qag (Qbq [some 192,some 193,some 194,some 195,some 196,some 197,some 198,some 199] [] [0,0,3,7,15,15,63,127] [pv (I6 (lo:Int)),pv (I6 (s:Int)),pv (.bool (decide ((lo:Int)<(s:Int)))),pv (.bool (decide ((lo:Int)<(s:Int)))),pg ((decide ((lo:Int)<(s:Int))) == true) (I6 (s:Int)),pg ((decide ((lo:Int)<(s:Int))) == true) (I6 (((lo+hi)/2:Nat):Int)),pg ((decide ((lo:Int)<(s:Int))) == true) (.bool (decide ((s:Int)<(((lo+hi)/2:Nat):Int)))),pv (.bool ((decide ((lo:Int)<(s:Int)))&&(decide ((s:Int)<(((lo+hi)/2:Nat):Int)))))] (fun _ _=>_) [7] (by kernel_rfl) hs ⟨?_,?_,?_,?_,?_,?_,?_,?_,trivial⟩ ?_))
 ·exact oa [] fun D J w hs=>Qac (V:=.int .i64 (lo:Int)) rfl (Zz hs)
 ·exact oa [] fun D J w hs=>Qac (V:=.int .i64 (s:Int)) rfl (Zz hs)
 ·exact oa [0,1] fun D J w hs=>Qa2 rfl rfl (Zz hs)
 ·exact oa [2] fun D J w hs=>Qac (V:=.bool (decide ((lo:Int)<(s:Int)))) rfl (Zz hs)
 ·exact og [3] fun D J w hG hs=>Qac (V:=.int .i64 (s:Int)) rfl (Zz hs)
 ·exact og [3] fun D J w hG hs=>Qac (V:=.int .i64 (((lo+hi)/2:Nat):Int)) rfl (Zz hs)
 ·exact oy [3,4,5] [4,5] fun D J w hG hs=>Qa2 rfl rfl (Zz hs)
 ·exact oa [3,6] fun D J w hs=>Qbg (h':=decide ((s:Int)<(((lo+hi)/2:Nat):Int))) rfl rfl rfl (Zz hs)
 rintro J1 w36 J2 hJ hs
 replace hJ:J2=upd (mix (sq 192 8) J1 _) 199 (.bool ((decide ((lo:Int)<(s:Int)))&&(decide ((s:Int)<(((lo+hi)/2:Nat):Int))))):=hJ
 subst hJ
 refine Qfs (fun J J' w'=>∃ (Jo:Env) (m2:List Cen),J'=mix (sq 200 6) Jo J/\(m2.length=N)/\(Merged cf m1 m2 lo ((lo+hi)/2))/\Own w S w' [row (.slice a N c) (m2.map cec) 106 7]) ?_ ?_
 ·
  refine Qam (t:=(decide ((lo:Int)<(s:Int)))&&(decide ((s:Int)<(((lo+hi)/2:Nat):Int)))) rfl (fun c37=>?_) (fun c37=>?_)
  ·
   have c37r:=Qcs c37
   replace c37:=QbY c37
   replace c37:=QQ1 c37
   replace c37r:=QQ1 c37r
   refine Qab (Qaa (Qac (V:=.slice a N c) rfl (Qaa (Qac (V:=I6 (lo:Int)) rfl (Qaa (Qac (V:=I6 (s:Int)) rfl (Qaa (Qac (V:=I6 (((lo+hi)/2:Nat):Int)) rfl (Qaa (Qac (V:=.func (.func g) #[] #[]) rfl (Qaa (Qbs (α:=List Cen) (vs:=[.slice a N c,I6 (lo:Int),I6 (s:Int),I6 (((lo+hi)/2:Nat):Int),.func (.func g) #[] #[]]) (V:=fun _=>.tuple #[]) (R:=row (.slice a N c) (m1.map cec) 106 7) (R':=fun x=>row (.slice a N c) (x.map cec) 106 7) (Lo:=fun _=>[]) (F:=fun x _=>x.length=N/\Merged cf m1 x lo ((lo+hi)/2)) QjL rfl rfl hs 0 rfl (fun S hS hlt=>ih _ S a N c m1 lo s ((lo+hi)/2) hz1 hN (by omega) (by omega) (by omega) (by omega) k1 k2 hS hlt) fun mz38 w39 hs hF40=>(Qae ?_)))))))))))))
   exact ⟨_,mz38,Qao (ds:=(sq 200 6)) (by repeat (first|exact Agr.refl _ _|refine Agr.upd ?_ rfl|refine Agr.mix ?_ rfl)),hF40.1,hF40.2,hs.take 1⟩
  refine Qap ?_
  exact ⟨_,m1,Qao (ds:=(sq 200 6)) (by repeat (first|exact Agr.refl _ _|refine Agr.upd ?_ rfl|refine Agr.mix ?_ rfl)),hz1,(⟨Qa8.refl m1 (by omega) (by omega),by
 have ht:=c37
 rcases Nat.lt_or_ge lo s with q|q
 ·have q2:(lo+hi)/2<=s:=by simp [q] at ht;omega
  exact k1.sub (Nat.le_refl _) q2
 ·exact k2.sub q (Nat.le_refl _)⟩),hs.take 1⟩
 rintro J' w41 ⟨Jo,m2,rfl,hz2,hmg,hs⟩
 have k3b:=k3.out hmg.1 (.inr (Nat.le_refl _))
 have k4b:=k4.out hmg.1 (.inr (by omega))
 refine Qag (Qbq [some 206,some 207,some 208,some 209,some 210,some 211,some 212,some 213] [] [0,0,3,7,15,15,63,127] [pv (I6 (((lo+hi)/2:Nat):Int)),pv (I6 (((((lo+hi)/2)+mid)-s:Nat):Int)),pv (.bool (decide ((((lo+hi)/2:Nat):Int)<(((((lo+hi)/2)+mid)-s:Nat):Int)))),pv (.bool (decide ((((lo+hi)/2:Nat):Int)<(((((lo+hi)/2)+mid)-s:Nat):Int)))),pg ((decide ((((lo+hi)/2:Nat):Int)<(((((lo+hi)/2)+mid)-s:Nat):Int))) == true) (I6 (((((lo+hi)/2)+mid)-s:Nat):Int)),pg ((decide ((((lo+hi)/2:Nat):Int)<(((((lo+hi)/2)+mid)-s:Nat):Int))) == true) (I6 (hi:Int)),pg ((decide ((((lo+hi)/2:Nat):Int)<(((((lo+hi)/2)+mid)-s:Nat):Int))) == true) (.bool (decide ((((((lo+hi)/2)+mid)-s:Nat):Int)<(hi:Int)))),pv (.bool ((decide ((((lo+hi)/2:Nat):Int)<(((((lo+hi)/2)+mid)-s:Nat):Int)))&&(decide ((((((lo+hi)/2)+mid)-s:Nat):Int)<(hi:Int)))))] (fun _ _=>_) [7] (by kernel_rfl) hs ⟨?_,?_,?_,?_,?_,?_,?_,?_,trivial⟩ ?_)
 ·exact oa [] fun D J w hs=>Qac (V:=.int .i64 (((lo+hi)/2:Nat):Int)) rfl (Zz hs)
 ·exact oa [] fun D J w hs=>Qac (V:=.int .i64 (((((lo+hi)/2)+mid)-s:Nat):Int)) rfl (Zz hs)
 ·exact oa [0,1] fun D J w hs=>Qa2 rfl rfl (Zz hs)
 ·exact oa [2] fun D J w hs=>Qac (V:=.bool (decide ((((lo+hi)/2:Nat):Int)<(((((lo+hi)/2)+mid)-s:Nat):Int)))) rfl (Zz hs)
 ·exact og [3] fun D J w hG hs=>Qac (V:=.int .i64 (((((lo+hi)/2)+mid)-s:Nat):Int)) rfl (Zz hs)
 ·exact og [3] fun D J w hG hs=>Qac (V:=.int .i64 (hi:Int)) rfl (Zz hs)
 ·exact oy [3,4,5] [4,5] fun D J w hG hs=>Qa2 rfl rfl (Zz hs)
 ·exact oa [3,6] fun D J w hs=>Qbg (h':=decide ((((((lo+hi)/2)+mid)-s:Nat):Int)<(hi:Int))) rfl rfl rfl (Zz hs)
 rintro J1 w42 J2 hJ hs
 replace hJ:J2=upd (mix (sq 206 8) J1 _) 213 (.bool ((decide ((((lo+hi)/2:Nat):Int)<(((((lo+hi)/2)+mid)-s:Nat):Int)))&&(decide ((((((lo+hi)/2)+mid)-s:Nat):Int)<(hi:Int))))):=hJ
 subst hJ
 refine Qfs (fun J J' w'=>∃ (Jo:Env) (m3:List Cen),J'=mix (sq 214 6) Jo J/\(m3.length=N)/\(Merged cf m2 m3 ((lo+hi)/2) hi)/\Own w S w' [row (.slice a N c) (m3.map cec) 106 7]) ?_ ?_
 ·
  refine Qam (t:=(decide ((((lo+hi)/2:Nat):Int)<(((((lo+hi)/2)+mid)-s:Nat):Int)))&&(decide ((((((lo+hi)/2)+mid)-s:Nat):Int)<(hi:Int)))) rfl (fun c43=>?_) (fun c43=>?_)
  ·
   have c43r:=Qcs c43
   replace c43:=QbY c43
   replace c43:=QQ1 c43
   replace c43r:=QQ1 c43r
   refine Qab (Qaa (Qac (V:=.slice a N c) rfl (Qaa (Qac (V:=I6 (((lo+hi)/2:Nat):Int)) rfl (Qaa (Qac (V:=I6 (((((lo+hi)/2)+mid)-s:Nat):Int)) rfl (Qaa (Qac (V:=I6 (hi:Int)) rfl (Qaa (Qac (V:=.func (.func g) #[] #[]) rfl (Qaa (Qbs (α:=List Cen) (vs:=[.slice a N c,I6 (((lo+hi)/2:Nat):Int),I6 (((((lo+hi)/2)+mid)-s:Nat):Int),I6 (hi:Int),.func (.func g) #[] #[]]) (V:=fun _=>.tuple #[]) (R:=row (.slice a N c) (m2.map cec) 106 7) (R':=fun x=>row (.slice a N c) (x.map cec) 106 7) (Lo:=fun _=>[]) (F:=fun x _=>x.length=N/\Merged cf m2 x ((lo+hi)/2) hi) QjL rfl rfl hs 0 rfl (fun S hS hlt=>ih _ S a N c m2 ((lo+hi)/2) ((((lo+hi)/2)+mid)-s) hi hz2 hN (by omega) (by omega) (by omega) (by omega) k3b k4b hS hlt) fun mz44 w45 hs hF46=>(Qae ?_)))))))))))))
   exact ⟨_,mz44,Qao (ds:=(sq 214 6)) (by repeat (first|exact Agr.refl _ _|refine Agr.upd ?_ rfl|refine Agr.mix ?_ rfl)),hF46.1,hF46.2,hs.take 1⟩
  refine Qap ?_
  exact ⟨_,m2,Qao (ds:=(sq 214 6)) (by repeat (first|exact Agr.refl _ _|refine Agr.upd ?_ rfl|refine Agr.mix ?_ rfl)),hz2,(⟨Qa8.refl m2 (by omega) (by omega),by
 have ht:=c43
 rcases Nat.lt_or_ge ((lo+hi)/2) ((lo+hi)/2+mid-s) with q|q
 ·have q2:hi<=(lo+hi)/2+mid-s:=by simp [q] at ht;omega
  exact k3b.sub (Nat.le_refl _) q2
 ·exact k4b.sub q (Nat.le_refl _)⟩),hs.take 1⟩
 rintro J' w47 ⟨Jo,m3,rfl,hz3,hmg2,hs⟩
 refine ⟨_,Qbd Tryz.results157,?_⟩
 exact ⟨m3,rfl,hs.take 1,hz3,Qn2 (hro.perm.wide (by omega) (by omega) (by omega)) hmg hmg2 (by omega) (by omega) (by omega) k5⟩
theorem Qj6 (g:Nat) (hg:En Tryz.prog g) (cf:Cen->Cen->Int) (hc:CmpO cf) (hcmp:∀ (w:World) (x y:Cen),Calls Tryz.prog g #[.agg (cec x).toArray,.agg (cec y).toArray] w (fun e w'=>e = .returned (.int .i64 (cf x y))/\Own w no w' [])) (d:Nat):Qtz Tryz.prog 157 g 106 7 cec cf d:=by
 induction d with
 | zero=>intro w S a N c l lo mid hi hz hN hd h1 h2;omega
 | succ d ih=>intro w S a N c l lo mid hi hz hN hd h1 h2 h3 ho1 ho2 hR hlt;exact QmK d g hg cf hc hcmp ih w S a N c l lo mid hi hz hN hd h1 h2 h3 ho1 ho2 hR hlt
end Tt
end Go.Proofs
namespace Go.Proofs
open Go Go.Vx Go.RowKit
namespace Tt
theorem QrX (w:World) (S:Nat->Prop) (a:Option Addr) (N c:Nat) (l:List Cen) (hz:l.length=N) (hN:N<=1152921504606846975) (g:Nat) (hg:En Tryz.prog g) (cf:Cen->Cen->Int) (hc:CmpO cf) (hcmp:∀ (w:World) (x y:Cen),Calls Tryz.prog g #[.agg (cec x).toArray,.agg (cec y).toArray] w (fun e w'=>e = .returned (.int .i64 (cf x y))/\Own w no w' [])) (hR:(row (.slice a N c) (l.map cec) 106 7).holds w S) (hlt:∀ b,S b->b<w.heap.size):Calls Tryz.prog 126 #[.slice a N c,.int .i64 (N:Int),.func (.func g) #[] #[]] w (fun e w'=>∃ x:List Cen,e = .returned (.tuple #[])/\Own w S w' [row (.slice a N c) (x.map cec) 106 7]/\(x.length=N/\x.Perm l/\Qk6 cf x)):=by
 refine Qai (n:=63) Tryz.func126 rfl Tryz.ntmps126 rfl ?_
 have hN0:=hN
 replace hN:N<=2305843009213693951:=by omega
 have hs:=Own.lent hR hlt
 refine Qag (Qab (Qaa (Qad (V:=I6 20) rfl (Qae (Qag (Qab (Qaa (Qac (V:=I6 20) rfl (Qaa (Qad (V:=I6 0) rfl (Qaa (Qad (V:=I6 20) rfl (Qae (Qag (Qan (QaC (fun J μ J' w'=>∃ (Jo:Env) (t:Nat) (m:List Cen),J'=upd (upd (mix ([7,8]++sq 11 12) Jo J) 7 (I6 ((t*20:Nat):Int))) 8 (I6 ((t*20+20:Nat):Int))/\(t*20<=N)/\(m.length=N)/\(Qa8 l m 0 N)/\(Blk cf m 20 (t*20))/\μ=N-t*20/\Own w S w' [row (.slice a N c) (m.map cec) 106 7]) ?_ ?_))))))))))))))))
 ·exact ⟨_,_,0,l,Qak (Qak (Qao (ds:=([7,8]++sq 11 12)) (Agr.refl _ _)) rfl) rfl,(by omega),hz,(Qa8.refl l (Nat.zero_le _) (by omega)),Qoc,rfl,hs⟩
 rintro μ J' w1 ⟨Jo,t,m,rfl,ht,hz1,hpm,hbl,rfl,hs⟩
 refine Qag (Qag (Qab (Qaa (Qac (V:=I6 ((t*20+20:Nat):Int)) rfl (Qaa (Qac (V:=I6 (N:Int)) rfl (Qaa (QdS rfl rfl (Qae (Qam (t:=decide (((t*20+20:Nat):Int)<=(N:Int))) rfl (fun c2=>?_) (fun c2=>?_)))))))))))
 ·
  replace c2:=QQ1 c2
  refine Qap (Qan (Qag (Qab (Qaa (Qac (V:=.slice a N c) rfl (Qaa (Qac (V:=I6 ((t*20:Nat):Int)) rfl (Qaa (Qac (V:=I6 ((t*20+20:Nat):Int)) rfl (Qaa (Qac (V:=.func (.func g) #[] #[]) rfl (Qaa (Qbs (α:=List Cen) (vs:=[.slice a N c,I6 ((t*20:Nat):Int),I6 ((t*20+20:Nat):Int),.func (.func g) #[] #[]]) (V:=fun _=>.tuple #[]) (R:=row (.slice a N c) (m.map cec) 106 7) (R':=fun x=>row (.slice a N c) (x.map cec) 106 7) (Lo:=fun _=>[]) (F:=fun x _=>x.length=N/\Merged cf m x (t*20) (t*20+20)) QpE rfl rfl hs 0 rfl (fun S hS hlt=>Qpz _ S a N c m hz1 hN (t*20) (t*20+20) (by omega) (by omega) g hg cf hc hcmp hS hlt) fun mz3 w4 hs hF5=>(Qae (Qag (Qab (Qaa (Qac (V:=I6 ((t*20+20:Nat):Int)) rfl (Qaa (Qad (V:=I6 ((t*20+20:Nat):Int)) rfl (Qae (Qab (Qaa (Qac (V:=I6 ((t*20+20:Nat):Int)) rfl (Qaa (Qac (V:=I6 20) rfl (Qaa (QaD (a:=((t*20+20:Nat):Int)) (b:=20) (c:=(((t*20+20)+20:Nat):Int)) rfl rfl (Qaj (by omega) (by omega)) (Qaa (Qad (V:=I6 (((t*20+20)+20:Nat):Int)) rfl (Qae ?_)))))))))))))))))))))))))))))))
  refine ⟨_,?_,_,t+1,mz3,Qak (Qak (Qao (ds:=([7,8]++sq 11 12)) (by repeat (first|exact Agr.refl _ _|refine Agr.upd ?_ rfl|refine Agr.mix ?_ rfl))) (congrArg (Value.int .i64) (by omega))) (congrArg (Value.int .i64) (by omega)),(by omega),hF5.1,(hpm.trans (hF5.2.1.wide (by omega) (by omega) (by omega))),(by rw [show (t+1)*20=t*20+20 by omega];exact Qjt hbl hF5.2.1 hF5.2.2 (Nat.le_refl _)),rfl,hs.take 1⟩
  omega
 replace c2:=QQ2 c2
 refine QaJ (Qag (Qab (Qaa (Qac (V:=.slice a N c) rfl (Qaa (Qac (V:=I6 ((t*20:Nat):Int)) rfl (Qaa (Qac (V:=I6 (N:Int)) rfl (Qaa (Qac (V:=.func (.func g) #[] #[]) rfl (Qaa (Qbs (α:=List Cen) (vs:=[.slice a N c,I6 ((t*20:Nat):Int),I6 (N:Int),.func (.func g) #[] #[]]) (V:=fun _=>.tuple #[]) (R:=row (.slice a N c) (m.map cec) 106 7) (R':=fun x=>row (.slice a N c) (x.map cec) 106 7) (Lo:=fun _=>[]) (F:=fun x _=>x.length=N/\Merged cf m x (t*20) N) QpE rfl rfl hs 0 rfl (fun S hS hlt=>Qpz _ S a N c m hz1 hN (t*20) N (by omega) (by omega) g hg cf hc hcmp hS hlt) fun mz6 w7 hs hF8=>(Qae (Qan ?_))))))))))))))
 have hb0:Blk cf mz6 20 N:=Qjt hbl hF8.2.1 hF8.2.2 (by omega)
 have hp0:=hpm.trans (hF8.2.1.wide (by omega) (by omega) (by omega))
 refine QaC (fun J μ J' w'=>∃ (Jo:Env) (s:Nat) (m2:List Cen),J'=upd (mix ([6,7,8,9]++sq 28 35) Jo J) 6 (I6 (s:Int))/\(0<s)/\(s<=2*N+20)/\(m2.length=N)/\(Qa8 l m2 0 N)/\(Blk cf m2 s N)/\μ=N-s/\Own w S w' [row (.slice a N c) (m2.map cec) 106 7]) ?_ ?_
 ·exact ⟨_,_,20,mz6,Qak (Qao (ds:=([6,7,8,9]++sq 28 35)) (Agr.refl _ _)) rfl,(by omega),(by omega),hF8.1,hp0,hb0,rfl,hs⟩
 rintro μ J' w9 ⟨Jo,s,m2,rfl,hs0,hsN,hz2,hpm2,hb2,rfl,hs⟩
 refine Qag (Qag (Qab (Qaa (Qac (V:=I6 (s:Int)) rfl (Qaa (Qac (V:=I6 (N:Int)) rfl (Qaa (Qa2 rfl rfl (Qae (Qam (t:=decide ((s:Int)<(N:Int))) rfl (fun c10=>?_) (fun c10=>?_)))))))))))
 ·
  replace c10:=QQ1 c10
  refine Qap (Qan (Qag (Qab (Qaa (Qac (V:=I6 (s:Int)) rfl (Qaa (Qgy (a:=2) (b:=(s:Int)) (c:=((2*s:Nat):Int)) rfl rfl (Qaj (by omega) (by omega)) (Qaa (Qad (V:=I6 0) rfl (Qaa (Qad (V:=I6 ((2*s:Nat):Int)) rfl (Qae (Qag (Qan (QaC (fun J μ J' w'=>∃ (Jo:Env) (t:Nat) (A:Nat) (m3:List Cen),J'=upd (upd (mix ([7,8]++sq 33 16) Jo J) 7 (I6 (A:Int))) 8 (I6 ((A+2*s:Nat):Int))/\(A=t*(2*s))/\(A<=N)/\(m3.length=N)/\(Qa8 l m3 0 N)/\(Mrg cf m3 s t N)/\μ=N-A/\Own w S w' [row (.slice a N c) (m3.map cec) 106 7]) ?_ ?_)))))))))))))))
  ·exact ⟨_,_,0,0,m2,Qak (Qak (Qao (ds:=([7,8]++sq 33 16)) (Agr.refl _ _)) rfl) (congrArg (Value.int .i64) (by omega)),(by rw [Nat.zero_mul]),(by omega),hz2,hpm2,(QmG hb2),rfl,hs⟩
  rintro μ J' w11 ⟨Jo,t,A,m3,rfl,hA,hAN,hz3,hpm3,hmr,rfl,hs⟩
  refine Qag (Qag (Qab (Qaa (Qac (V:=I6 ((A+2*s:Nat):Int)) rfl (Qaa (Qac (V:=I6 (N:Int)) rfl (Qaa (QdS rfl rfl (Qae (Qam (t:=decide (((A+2*s:Nat):Int)<=(N:Int))) rfl (fun c12=>?_) (fun c12=>?_)))))))))))
  ·
   replace c12:=QQ1 c12
   refine Qap (Qan (Qag ?_))
   have hpp:=Qgp hmr
   rw [← hA] at hpp
   have hp1:=hpp.1.sub (Nat.le_refl _) (show A+s<=min (A+s) N by omega)
   have hp2:=hpp.2.sub (Nat.le_refl _) (show A+2*s<=min (A+2*s) N by omega)
   refine Qab (Qaa (Qac (V:=.slice a N c) rfl (Qaa (Qac (V:=I6 (A:Int)) rfl (Qaa (Qac (V:=I6 (A:Int)) rfl (Qaa (Qac (V:=I6 (s:Int)) rfl (Qaa (QaD (a:=(A:Int)) (b:=(s:Int)) (c:=((A+s:Nat):Int)) rfl rfl (Qaj (by omega) (by omega)) (Qaa (Qac (V:=I6 ((A+2*s:Nat):Int)) rfl (Qaa (Qac (V:=.func (.func g) #[] #[]) rfl (Qaa (Qbs (α:=List Cen) (vs:=[.slice a N c,I6 (A:Int),I6 ((A+s:Nat):Int),I6 ((A+2*s:Nat):Int),.func (.func g) #[] #[]]) (V:=fun _=>.tuple #[]) (R:=row (.slice a N c) (m3.map cec) 106 7) (R':=fun x=>row (.slice a N c) (x.map cec) 106 7) (Lo:=fun _=>[]) (F:=fun x _=>x.length=N/\Merged cf m3 x A (A+2*s)) QjL rfl rfl hs 0 rfl (fun S hS hlt=>Qj6 g hg cf hc hcmp N _ S a N c m3 A (A+s) (A+2*s) hz3 hN (by omega) (by omega) (by omega) (by omega) hp1 hp2 hS hlt) fun mz13 w14 hs hF15=>(Qae (Qag (Qab (Qaa (Qac (V:=I6 ((A+2*s:Nat):Int)) rfl (Qaa (Qad (V:=I6 ((A+2*s:Nat):Int)) rfl (Qae (Qab (Qaa (Qac (V:=I6 ((A+2*s:Nat):Int)) rfl (Qaa (Qac (V:=I6 (s:Int)) rfl (Qaa (Qgy (a:=2) (b:=(s:Int)) (c:=((2*s:Nat):Int)) rfl rfl (Qaj (by omega) (by omega)) (Qaa (QaD (a:=((A+2*s:Nat):Int)) (b:=((2*s:Nat):Int)) (c:=(((A+2*s)+(2*s):Nat):Int)) rfl rfl (Qaj (by omega) (by omega)) (Qaa (Qad (V:=I6 (((A+2*s)+(2*s):Nat):Int)) rfl (Qae ?_))))))))))))))))))))))))))))))))))))
   refine ⟨_,?_,_,t+1,A+2*s,mz13,Qak (Qak (Qao (ds:=([7,8]++sq 33 16)) (by repeat (first|exact Agr.refl _ _|refine Agr.upd ?_ rfl|refine Agr.mix ?_ rfl))) rfl) (congrArg (Value.int .i64) (by omega)),(by rw [hA,Nat.add_mul,Nat.one_mul]),(by omega),hF15.1,(hpm3.trans (hF15.2.1.wide (by omega) (by omega) (by omega))),(Qkn hmr (by rw [← hA];exact hF15.2.1) (by rw [← hA];exact hF15.2.2) (by omega)),rfl,hs.take 1⟩
   omega
  replace c12:=QQ2 c12
  refine QaJ (Qag (Qag (Qab (Qaa (Qac (V:=I6 (A:Int)) rfl (Qaa (Qac (V:=I6 (s:Int)) rfl (Qaa (QaD (a:=(A:Int)) (b:=(s:Int)) (c:=((A+s:Nat):Int)) rfl rfl (Qaj (by omega) (by omega)) (Qaa (Qad (V:=I6 ((A+s:Nat):Int)) rfl (Qae (Qag (Qab (Qaa (Qac (V:=I6 ((A+s:Nat):Int)) rfl (Qaa (Qac (V:=I6 (N:Int)) rfl (Qaa (Qa2 rfl rfl (Qae (Qam (t:=decide (((A+s:Nat):Int)<(N:Int))) rfl (fun c16=>?_) (fun c16=>?_)))))))))))))))))))))))
  ·
   replace c16:=QQ1 c16
   have hpp:=Qgp hmr
   rw [← hA] at hpp
   have hp1:=hpp.1.sub (Nat.le_refl _) (show A+s<=min (A+s) N by omega)
   have hp2:=hpp.2.sub (Nat.le_refl _) (show N<=min (A+2*s) N by omega)
   refine Qab (Qaa (Qac (V:=.slice a N c) rfl (Qaa (Qac (V:=I6 (A:Int)) rfl (Qaa (Qac (V:=I6 ((A+s:Nat):Int)) rfl (Qaa (Qac (V:=I6 (N:Int)) rfl (Qaa (Qac (V:=.func (.func g) #[] #[]) rfl (Qaa (Qbs (α:=List Cen) (vs:=[.slice a N c,I6 (A:Int),I6 ((A+s:Nat):Int),I6 (N:Int),.func (.func g) #[] #[]]) (V:=fun _=>.tuple #[]) (R:=row (.slice a N c) (m3.map cec) 106 7) (R':=fun x=>row (.slice a N c) (x.map cec) 106 7) (Lo:=fun _=>[]) (F:=fun x _=>x.length=N/\Merged cf m3 x A N) QjL rfl rfl hs 0 rfl (fun S hS hlt=>Qj6 g hg cf hc hcmp N _ S a N c m3 A (A+s) N hz3 hN (by omega) (by omega) (by omega) (by omega) hp1 hp2 hS hlt) fun mz17 w18 hs hF19=>(Qae (Qab (Qaa (Qac (V:=I6 (s:Int)) rfl (Qaa (Qgy (a:=(s:Int)) (b:=2) (c:=((s*2:Nat):Int)) rfl rfl (Qaj (by omega) (by omega)) (Qaa (Qad (V:=I6 ((s*2:Nat):Int)) rfl (Qae ?_)))))))))))))))))))))
   refine ⟨_,?_,_,s*2,mz17,Qak (Qao (ds:=([6,7,8,9]++sq 28 35)) (by repeat (first|exact Agr.refl _ _|refine Agr.upd ?_ rfl|refine Agr.mix ?_ rfl))) rfl,(by omega),(by omega),hF19.1,(hpm3.trans (hF19.2.1.wide (by omega) (by omega) (by omega))),(by
 have hq:=Qkn hmr (by rw [← hA];exact hF19.2.1) (by rw [← hA];exact hF19.2.2) (by omega)
 have hq2:=Qrz hq (by rw [Nat.add_mul,Nat.one_mul,← hA];omega)
 rw [Nat.mul_comm s 2];exact hq2),rfl,hs.take 1⟩
   omega
  replace c16:=QQ2 c16
  refine Qap (Qab (Qaa (Qac (V:=I6 (s:Int)) rfl (Qaa (Qgy (a:=(s:Int)) (b:=2) (c:=((s*2:Nat):Int)) rfl rfl (Qaj (by omega) (by omega)) (Qaa (Qad (V:=I6 ((s*2:Nat):Int)) rfl (Qae ?_))))))))
  refine ⟨_,?_,_,s*2,m3,Qak (Qao (ds:=([6,7,8,9]++sq 28 35)) (by repeat (first|exact Agr.refl _ _|refine Agr.upd ?_ rfl|refine Agr.mix ?_ rfl))) rfl,(by omega),(by omega),hz3,hpm3,(by rw [Nat.mul_comm s 2];exact QoH hmr (by omega)),rfl,hs.take 1⟩
  omega
 replace c10:=QQ2 c10
 refine QaJ ?_
 refine ⟨_,Qbd Tryz.results126,?_⟩
 exact ⟨m2,rfl,hs.take 1,hz2,hpm2.perm,QqV (Qq4 hb2 (by omega)) (by omega)⟩
theorem Qtd (w:World) (S:Nat->Prop) (a:Option Addr) (N c:Nat) (l:List Cen) (hz:l.length=N) (hN:N<=1152921504606846975) (g:Nat) (hg:En Tryz.prog g) (cf:Cen->Cen->Int) (hc:CmpO cf) (hcmp:∀ (w:World) (x y:Cen),Calls Tryz.prog g #[.agg (cec x).toArray,.agg (cec y).toArray] w (fun e w'=>e = .returned (.int .i64 (cf x y))/\Own w no w' [])) (hR:(row (.slice a N c) (l.map cec) 106 7).holds w S) (hlt:∀ b,S b->b<w.heap.size):Calls Tryz.prog 75 #[.slice a N c,.func (.func g) #[] #[]] w (fun e w'=>∃ x:List Cen,e = .returned (.tuple #[])/\Own w S w' [row (.slice a N c) (x.map cec) 106 7]/\(x.length=N/\x.Perm l/\Qk6 cf x)):=by
 refine Qai (n:=9) Tryz.func75 rfl Tryz.ntmps75 rfl ?_
 have hs:=Own.lent hR hlt
 refine Qab (Qaa (Qac (V:=.slice a N c) rfl (Qaa (Qac (V:=.slice a N c) rfl (Qaa (Qa0 (n:=N) QbC (hs.rd 0 rfl) (by simp [hz]) rfl (Qaa (Qac (V:=.func (.func g) #[] #[]) rfl (Qaa (Qbs (α:=List Cen) (vs:=[.slice a N c,I6 (N:Int),.func (.func g) #[] #[]]) (V:=fun _=>.tuple #[]) (R:=row (.slice a N c) (l.map cec) 106 7) (R':=fun x=>row (.slice a N c) (x.map cec) 106 7) (Lo:=fun _=>[]) (F:=fun x _=>x.length=N/\x.Perm l/\Qk6 cf x) Qtq rfl rfl hs 0 rfl (fun S hS hlt=>QrX _ S a N c l hz hN g hg cf hc hcmp hS hlt) fun mz1 w2 hs hF3=>(Qae ?_)))))))))))
 refine ⟨_,Qbd Tryz.results75,?_⟩
 exact ⟨mz1,rfl,hs.take 1,hF3⟩
end Tt
end Go.Proofs
namespace Go.Proofs
open Go Go.Vx Go.RowKit
namespace Tt
theorem QnM (w:World) (s:Sta) (a1:Option Addr) (c1:Nat) (a2:Option Addr) (c2:Nat) (n:Int) (hok:Qdq s) (hle:s.ents.length<=1000) (hlt:s.ticks.length<=1000) (hr1:Rd w (.slice a1 s.ents.length c1) 7 (s.ents.map cec)) (hr2:Rd w (.slice a2 s.ticks.length c2) 2 (s.ticks.map lsc)):Calls Tryz.prog 33 #[.agg ((vc s.known)++[(.slice a1 s.ents.length c1:Value),(.slice a2 s.ticks.length c2:Value) ]).toArray,.int .u16 n] w (fun e w'=>∃ x:Option Addr × Nat,e = .returned (.agg [.int .u16 (QaI s n (Qau s)).cart,.slice x.1 (QaI s n (Qau s)).lines.length x.2,.bool (QaI s n (Qau s)).out,.int .u32 (QaI s n (Qau s)).tick].toArray)/\Own w no w' [row (.slice x.1 (QaI s n (Qau s)).lines.length x.2) ((QaI s n (Qau s)).lines.map lc) 127 2]/\True):=by
 refine Qai (n:=94) Tryz.func33 rfl Tryz.ntmps33 rfl ?_
 have hs:=Own.start w
 have ⟨hv0,hE0,hT0⟩:=hok
 refine Qag (Qab (Qaa (Qa4 (V:=.agg ((vc s.known)++[(.slice a1 s.ents.length c1:Value),(.slice a2 s.ticks.length c2:Value) ]).toArray) (cs:=(vc s.known)++[(.slice a1 s.ents.length c1:Value),(.slice a2 s.ticks.length c2:Value) ]) rfl rfl hs fun b1 w2 hs=>(Qaa (QaL (cs:=[I7 0,.slice none 0 0,.bool false,.int .u32 0]) QiW rfl hs fun b3 w4 hs=>(Qae (Qag (Qab (Qaa (Qac (V:=I7 n) rfl (Qaa (QbI (vs:=[(0,I7 n)]) (cs:=[I7 n,.slice none 0 0,.bool false,.int .u32 0]) Qtb (rfl) rfl (Qaa (QaL (cs:=[I7 0,.slice none 0 0,.bool false,.int .u32 0]) QiW rfl hs fun b5 w6 hs=>(Qaa (QcG (V:=.agg #[I7 n,.slice none 0 0,.bool false,.int .u32 0]) (vs:=[I7 n,.slice none 0 0,.bool false,.int .u32 0]) (cs':=[I7 n,.slice none 0 0,.bool false,.int .u32 0]) Qeu.1 hs 2 rfl rfl rfl rfl rfl (QQ8 rfl) (Qat rfl (Qat rfl (Qat rfl (Qat rfl Qa1)))) (Qaz rfl) fun w7 hs=>?_))))))))))))))))
 replace hs:Own w no w7 [blk b1 ((vc s.known)++[(.slice a1 s.ents.length c1:Value),(.slice a2 s.ticks.length c2:Value) ]) 38,blk b3 [I7 0,.slice none 0 0,.bool false,.int .u32 0] 49,blk b5 [I7 n,.slice none 0 0,.bool false,.int .u32 0] 49]:=hs
 refine Qae (Qag (Qag (Qab (Qaa (QaO (cs:=(vc s.known)++[(.slice a1 s.ents.length c1:Value),(.slice a2 s.ticks.length c2:Value) ]) QbS hs 0 rfl rfl rfl (Qaa (Qas (vs:=[.agg ((vc s.known)++[(.slice a1 s.ents.length c1:Value),(.slice a2 s.ticks.length c2:Value) ]).toArray]) (V:=.bool (Qau s)) Qoo rfl rfl ?hc hs fun w8 hs=>?_)))))))
 case hc=>exact (QeK _ s a1 c1 a2 c2 hok (by omega) (by omega) (Rd.own' hr1 hs) (Rd.own' hr2 hs))
 refine Qaa (Qbx rfl (Qae (Qam (t:=!(Qau s)) rfl (fun c9=>?_) (fun c9=>?_))))
 ·
  replace c9:=Qby c9
  refine Qag (Qab (Qaa (QaO (cs:=[I7 n,.slice none 0 0,.bool false,.int .u32 0]) Qeu hs 2 rfl rfl rfl (Qaa (QcG (V:=.agg #[I7 n,.slice none 0 0,.bool false,.int .u32 0]) (vs:=[I7 n,.slice none 0 0,.bool false,.int .u32 0]) (cs':=[I7 n,.slice none 0 0,.bool false,.int .u32 0]) Qeu.1 hs 1 rfl rfl rfl rfl rfl (QQ8 rfl) (Qat rfl (Qat rfl (Qat rfl (Qat rfl Qa1)))) (Qaz rfl) fun w10 hs=>(Qae (Qav ?_)))))))
  refine ⟨_,Qdy (cs:=[I7 n,.slice none 0 0,.bool false,.int .u32 0]) Tryz.results33 Qeu hs 1 rfl rfl rfl,?_⟩
  rw [c9]
  exact ⟨(none,0),rfl,(hs.take 0).more _ (Qba _ _ 127 2),trivial⟩
 replace c9:=Qbr c9
 refine Qap (Qag (Qag ?_))
 have hrc:=Qdt.1 c9
 refine Qab (Qaa (QaO (cs:=(vc s.known)++[(.slice a1 s.ents.length c1:Value),(.slice a2 s.ticks.length c2:Value) ]) QbS hs 0 rfl rfl rfl (Qaa (Qac (V:=I7 n) rfl (Qaa (Qas (vs:=[.agg ((vc s.known)++[(.slice a1 s.ents.length c1:Value),(.slice a2 s.ticks.length c2:Value) ]).toArray,I7 n]) (V:=.tuple #[I6 ((QbK s.ticks n:Nat):Int),.bool ((QaR s.ticks n).isSome)]) QrM rfl rfl ?hc hs fun w11 hs=>?_))))))
 case hc=>exact (Qhe _ s.known (.slice a1 s.ents.length c1) a2 c2 s.ticks n (by omega) hrc.rt (Rd.own' hr2 hs))
 refine Qaa (Qac (V:=.tuple #[I6 ((QbK s.ticks n:Nat):Int),.bool ((QaR s.ticks n).isSome)]) rfl (Qaa (Qax (V:=I6 ((QbK s.ticks n:Nat):Int)) rfl rfl (Qaa (Qax (V:=.bool ((QaR s.ticks n).isSome)) rfl rfl (Qaa (Qad (V:=I6 ((QbK s.ticks n:Nat):Int)) rfl (Qaa (Qad (V:=.bool ((QaR s.ticks n).isSome)) rfl (Qae (Qag (Qab (Qaa (Qac (V:=.bool ((QaR s.ticks n).isSome)) rfl (Qae (Qfs (fun J J' w'=>∃ (Jo:Env) (tk:Int),J'=mix (sq 25 7) Jo J/\(tk=(QaR s.ticks n).getD 0)/\Own w no w' [blk b1 ((vc s.known)++[(.slice a1 s.ents.length c1:Value),(.slice a2 s.ticks.length c2:Value) ]) 38,blk b3 [I7 0,.slice none 0 0,.bool false,.int .u32 0] 49,blk b5 [I7 n,.slice none 0 0,.bool false,.int .u32 tk] 49]) ?_ ?_))))))))))))))))
 ·
  refine Qam (t:=(QaR s.ticks n).isSome) rfl (fun c12=>?_) (fun c12=>?_)
  ·
   have hfa:=(Qhu hrc.rt c12).1
   refine Qab (Qaa (Qaf QcA rfl (Qaa (QaP (V:=.slice a2 s.ticks.length c2) Qfd hs 0 rfl rfl rfl (Qaa (Qac (V:=I6 ((QbK s.ticks n:Nat):Int)) rfl (Qaa (Qaw Qea QbN.1 (Rd.own' hr2 hs) rfl rfl (by omega) (by rw [QQ6];omega) (Qaa (Qaf QdZ rfl (Qaa (QaU (j:=1) (V:=.int .u32 ((gd s.ticks (QbK s.ticks n)).tick)) (QbK s.ticks n) QaN (Rd.own' hr2 hs) (Qa9 (by omega)) rfl rfl (by omega) (Qaa (Qaf QiE rfl (Qaa (QcQ (V:=.int .u32 ((gd s.ticks (QbK s.ticks n)).tick)) (cs':=[I7 n,.slice none 0 0,.bool false,.int .u32 ((gd s.ticks (QbK s.ticks n)).tick)]) QaN hs 2 rfl rfl rfl rfl (QQ8 rfl) rfl fun w13 hs=>(Qae ?_)))))))))))))))))
   exact ⟨_,(gd s.ticks (QbK s.ticks n)).tick,Qao (ds:=(sq 25 7)) (by repeat (first|exact Agr.refl _ _|refine Agr.upd ?_ rfl|refine Agr.mix ?_ rfl)),(by rw [(Qhu hrc.rt c12).2.2];rfl),hs.take 3⟩
  refine Qap ?_
  exact ⟨_,0,Qao (ds:=(sq 25 7)) (by repeat (first|exact Agr.refl _ _|refine Agr.upd ?_ rfl|refine Agr.mix ?_ rfl)),(QrP c12),hs.take 3⟩
 rintro J' w14 ⟨Jo,tk,rfl,htk,hs⟩
 refine Qag (Qab (Qaa (Qad (V:=.slice none 0 0) rfl (Qae (Qag (Qag (Qab (Qaa (Qaf Qc4 rfl (Qaa (QaP (V:=.slice a1 s.ents.length c1) Qgf hs 0 rfl rfl rfl (Qaa (Qa0 (n:=s.ents.length) QbC (Rd.own' hr1 hs) (by simp) rfl (Qaa (Qac (V:=I6 0) rfl (Qae (Qan ?_)))))))))))))))))
 replace hs:=hs.more (row (.slice none 0 0) (List.map cec []) 106 7) (Qba _ _ _ _)
 refine QaC (fun J μ J' w'=>∃ (Jo:Env) (k:Nat) (an9:Option Addr) (cn9:Nat) (L9:List Cen) (ou:Bool),J'=upd (upd (mix ([8,10]++sq 35 19) Jo J) 35 (I6 (k:Int))) 8 (.slice an9 L9.length cn9)/\(k<=s.ents.length)/\(L9=(s.ents.take k).filter (fun e:Cen=>decide (e.cart=n)&&!decide (e.kind=4)))/\(ou=(s.ents.take k).any (fun e:Cen=>decide (e.cart=n)&&decide (e.kind=4)))/\(L9.length<=k)/\μ=s.ents.length-k/\Own w no w' [blk b1 ((vc s.known)++[(.slice a1 s.ents.length c1:Value),(.slice a2 s.ticks.length c2:Value) ]) 38,blk b3 [I7 0,.slice none 0 0,.bool false,.int .u32 0] 49,blk b5 [I7 n,.slice none 0 0,.bool ou,.int .u32 tk] 49,row (.slice an9 L9.length cn9) (L9.map cec) 106 7]) ?_ ?_
 ·exact ⟨_,_,0,none,0,[],false,Qak (Qak (Qao (ds:=([8,10]++sq 35 19)) (Agr.refl _ _)) rfl) rfl,(by omega),rfl,rfl,(Nat.le_refl _),rfl,hs⟩
 rintro μ J' w15 ⟨Jo,k,an9,cn9,L9,ou,rfl,hk,hL9,hob,hl9,rfl,hs⟩
 refine Qag (Qab (Qaa (Qa2 rfl rfl (Qae (Qag (Qam (t:=decide ((k:Int)<((s.ents.length:Nat):Int))) rfl (fun c16=>?_) (fun c16=>?_)))))))
 ·
  replace c16:=QQ1 c16
  refine Qap (Qag (Qan (Qag (Qab (Qaa (Qaw QbC QaA.1 (Rd.own' hr1 hs) rfl rfl (by omega) (by rw [QQ6];omega) (Qaa (Qbc (j:=0) (vs:=cec (gd s.ents k)) k QaA (Rd.own' hr1 hs) (Qa9 (by omega)) rfl rfl rfl (by omega) (Qaa (QaL (cs:=cec (⟨0,0,0,0,(⟨0,0⟩:Dot),0⟩:Cen)) Qfn rfl hs fun b17 w18 hs=>(Qaa (QcG (V:=.agg (cec (gd s.ents k)).toArray) (vs:=cec (gd s.ents k)) (cs':=cec (gd s.ents k)) QaA.1 hs 4 rfl rfl rfl rfl rfl (QQ8 rfl) (Qbi _) (Qaz rfl) fun w19 hs=>(Qae (Qan (Qag (Qab (Qaa (Qaf Qdf rfl (Qaa (QaP (V:=I7 ((gd s.ents k).cart)) Qar hs 4 rfl rfl rfl (Qaa (Qac (V:=I7 n) rfl (Qaa (QcC rfl rfl (Qaa (Qad (V:=.bool (!decide ((gd s.ents k).cart=n))) rfl (Qae (Qam (t:=!decide ((gd s.ents k).cart=n)) rfl (fun c20=>?_) (fun c20=>?_)))))))))))))))))))))))))))))
  ·
   replace c20:=Qby c20
   replace c20:=QQ2 c20
   refine Qap (Qab (Qaa (QaD (a:=(k:Int)) (b:=1) (c:=((k+1:Nat):Int)) rfl rfl (Qaj (by omega) (by omega)) (Qaa (Qac (V:=I6 ((k+1:Nat):Int)) rfl (Qae ?_))))))
   refine ⟨_,?_,_,k+1,an9,cn9,L9,ou,Qak (Qak (Qao (ds:=([8,10]++sq 35 19)) (by repeat (first|exact Agr.refl _ _|refine Agr.upd ?_ rfl|refine Agr.mix ?_ rfl))) rfl) rfl,(by omega),(Qfi (p:=(fun e:Cen=>decide (e.cart=n)&&!decide (e.kind=4))) hL9 (by omega) (by simp [c20])),(by rw [← QeY (p:=(fun e:Cen=>decide (e.cart=n)&&decide (e.kind=4))) hob (by omega)];simp [c20]),(by omega),rfl,hs.take 4⟩
   omega
  replace c20:=Qbr c20
  replace c20:=QQ1 c20
  refine Qag (Qab (Qaa (Qaf Qd5 rfl (Qaa (QaP (V:=.int .u8 ((gd s.ents k).kind)) Qds hs 4 rfl rfl rfl (Qaa (QaW rfl rfl (Qaa (Qad (V:=.bool (decide ((gd s.ents k).kind=4))) rfl (Qae (Qam (t:=decide ((gd s.ents k).kind=4)) rfl (fun c21=>?_) (fun c21=>?_))))))))))))
  ·
   replace c21:=QQ1 c21
   refine Qab (Qaa (Qaf Qek rfl (Qaa (QcQ (V:=.bool true) (cs':=[I7 n,.slice none 0 0,.bool true,.int .u32 tk]) Qrs hs 2 rfl rfl rfl rfl (QQ8 rfl) rfl fun w22 hs=>(Qae (Qab (Qaa (QaD (a:=(k:Int)) (b:=1) (c:=((k+1:Nat):Int)) rfl rfl (Qaj (by omega) (by omega)) (Qaa (Qac (V:=I6 ((k+1:Nat):Int)) rfl (Qae ?_)))))))))))
   refine ⟨_,?_,_,k+1,an9,cn9,L9,true,Qak (Qak (Qao (ds:=([8,10]++sq 35 19)) (by repeat (first|exact Agr.refl _ _|refine Agr.upd ?_ rfl|refine Agr.mix ?_ rfl))) rfl) rfl,(by omega),(Qfi (p:=(fun e:Cen=>decide (e.cart=n)&&!decide (e.kind=4))) hL9 (by omega) (by simp [c20,c21])),(by rw [← QeY (p:=(fun e:Cen=>decide (e.cart=n)&&decide (e.kind=4))) hob (by omega)];simp [c20,c21]),(by omega),rfl,hs.take 4⟩
   omega
  replace c21:=QQ2 c21
  refine Qab (Qaa (Qac (V:=.slice an9 L9.length cn9) rfl (Qaa (QaO (cs:=cec (gd s.ents k)) QaA hs 4 rfl rfl rfl (Qaa (QhI (vals:=[.agg (cec (gd s.ents k)).toArray]) (ls:=List.map cec ([gd s.ents k]:List Cen)) QeR rfl rfl rfl (Qbj (enc:=cec) (fun _=>rfl) _) (QaV Qbi _) (QQ8 rfl) hs fun b23 w24 hs=>(Qaa (Qdb (ls':=(L9++[gd s.ents k]).map cec) (n:=(L9++[gd s.ents k]).length) QeR hs 3 rfl rfl rfl (hs.rd 5 rfl) (QaV Qbi _) (by simp only [QQ6,QQ7,List.length_cons,List.length_nil];omega) (by simp) (by simp) fun a25 c25 w26 hs=>?_))))))))
  replace hs:Own w no w26 [blk b1 ((vc s.known)++[(.slice a1 s.ents.length c1:Value),(.slice a2 s.ticks.length c2:Value) ]) 38,blk b3 [I7 0,.slice none 0 0,.bool false,.int .u32 0] 49,blk b5 [I7 n,.slice none 0 0,.bool ou,.int .u32 tk] 49,row (.slice a25 ((L9++[gd s.ents k]).length) c25) ((L9++[gd s.ents k]).map cec) 106 7,blk b17 (cec (gd s.ents k)) 106,row (.slice (some ⟨b23,0,none⟩) 1 1) ([gd s.ents k].map cec) 106 7]:=hs
  refine Qaa (Qad (V:=.slice a25 ((L9++[gd s.ents k]).length) c25) rfl (Qae (Qab (Qaa (QaD (a:=(k:Int)) (b:=1) (c:=((k+1:Nat):Int)) rfl rfl (Qaj (by omega) (by omega)) (Qaa (Qac (V:=I6 ((k+1:Nat):Int)) rfl (Qae ?_))))))))
  refine ⟨_,?_,_,k+1,a25,c25,L9++[gd s.ents k],ou,Qak (Qak (Qao (ds:=([8,10]++sq 35 19)) (by repeat (first|exact Agr.refl _ _|refine Agr.upd ?_ rfl|refine Agr.mix ?_ rfl))) rfl) rfl,(by omega),(Qhc (p:=(fun e:Cen=>decide (e.cart=n)&&!decide (e.kind=4))) hL9 (by omega) (by simp [c20,c21])),(by rw [← QeY (p:=(fun e:Cen=>decide (e.cart=n)&&decide (e.kind=4))) hob (by omega)];simp [c20,c21]),(by rw [QQ7,List.length_singleton];omega),rfl,hs.take 4⟩
  omega
 replace c16:=QQ2 c16
 refine QaJ (Qag (Qab (Qaa (Qac (V:=.slice an9 L9.length cn9) rfl (Qaa (Qbs (α:=List Cen) (vs:=[.slice an9 L9.length cn9,.func (.func 76) #[] #[]]) (V:=fun _=>.tuple #[]) (R:=row (.slice an9 L9.length cn9) (L9.map cec) 106 7) (R':=fun x=>row (.slice an9 L9.length cn9) (x.map cec) 106 7) (Lo:=fun _=>[]) (F:=fun x _=>x.length=L9.length/\x.Perm L9/\Qk6 (fun x y:Cen=>QaZ x.item y.item) x) Quy rfl rfl hs 3 rfl (fun S hS hlt=>Qtd _ S an9 L9.length cn9 L9 rfl (by omega) 76 Qu6 (fun x y:Cen=>QaZ x.item y.item) (Qof (fun x:Cen=>x.item)) (fun w x y=>QnQ w x y) hS hlt) fun sx28 w27 hs hF29=>(Qae (Qag (Qan ?_)))))))))
 replace hs:=hs.more (row (.slice none 0 0) (List.map lc []) 127 2) (Qba _ _ _ _)
 obtain ⟨hQl,hQp,hQs⟩:=hF29
 have hLE:L9=Qja s n:=by rw [hL9,Qcw (by omega)];rfl
 rw [hLE] at hQp
 have hobE:=hob
 rw [Qcw (by omega)] at hobE
 have hQok:∀ e∈sx28,QiF e/\1<=e.count:=fun e he=>by
  have hq:=Qo1 hrc (hQp.mem_iff.1 he)
  exact ⟨hE0 e hq.1,hq.2⟩
 refine QaC (fun J μ J' w'=>∃ (Jo:Env) (R:List Cen) (I:List Int) (an3:Option Addr) (cn3:Nat) (an6:Option Addr) (cn6:Nat) (ol:List Line),J'=upd (mix ([8,11]++sq 56 37) Jo J) 8 (.slice an3 R.length cn3)/\(Grps sx28 R I)/\(ol=I.map (Qim s n))/\(ol.length+R.length<=sx28.length)/\(∀ w':World,Rd w' (.slice an9 L9.length cn9) 7 (sx28.map cec)->Rd w' (.slice an3 R.length cn3) 7 (R.map cec))/\μ=R.length+0/\Own w no w' [blk b1 ((vc s.known)++[(.slice a1 s.ents.length c1:Value),(.slice a2 s.ticks.length c2:Value) ]) 38,blk b3 [I7 0,.slice none 0 0,.bool false,.int .u32 0] 49,blk b5 [I7 n,.slice an6 ol.length cn6,.bool ou,.int .u32 tk] 49,row (.slice an9 L9.length cn9) (sx28.map cec) 106 7,row (.slice an6 ol.length cn6) (ol.map lc) 127 2]) ?_ ?_
 ·exact ⟨_,_,sx28,[],an9,cn9,none,0,[],Qak (Qao (ds:=([8,11]++sq 56 37)) (Agr.refl _ _)) (congrArg (fun n=>Value.slice an9 n cn9) hQl.symm),(QkF _),rfl,(by simp),(fun w' h=>by rw [hQl];exact h),rfl,hs⟩
 rintro μ J' w30 ⟨Jo,R,I,an3,cn3,an6,cn6,ol,rfl,hgr,hol,hll,hvia,rfl,hs⟩
 refine Qag (Qag (Qab (Qaa (Qac (V:=.slice an3 R.length cn3) rfl (Qaa (Qa0 (n:=R.length) QbC (hvia _ (hs.rd 3 rfl)) (by simp) rfl (Qaa (QbU rfl rfl (Qae (Qam (t:=decide (0<((R.length:Nat):Int))) rfl (fun c31=>?_) (fun c31=>?_)))))))))))
 ·
  replace c31:=QQ1 c31
  refine Qap (Qan (Qag (Qab (Qaa (Qad (V:=I6 1) rfl (Qae (Qag (Qan (QaC (fun J μ J' w'=>∃ (Jo:Env) (j:Nat),J'=upd (mix ([11]++sq 59 18) Jo J) 11 (I6 (j:Int))/\(1<=j)/\(j<=R.length)/\(∀ i,i<j->(gd R i).item=(gd R 0).item)/\μ=R.length-j/\Own w no w' [blk b1 ((vc s.known)++[(.slice a1 s.ents.length c1:Value),(.slice a2 s.ticks.length c2:Value) ]) 38,blk b3 [I7 0,.slice none 0 0,.bool false,.int .u32 0] 49,blk b5 [I7 n,.slice an6 ol.length cn6,.bool ou,.int .u32 tk] 49,row (.slice an9 L9.length cn9) (sx28.map cec) 106 7,row (.slice an6 ol.length cn6) (ol.map lc) 127 2]) ?_ ?_)))))))))
  ·exact ⟨_,_,1,Qak (Qao (ds:=([11]++sq 59 18)) (Agr.refl _ _)) rfl,(Nat.le_refl _),(by omega),(fun i hi=>by rw [show i=0 by omega]),rfl,hs⟩
  rintro μ J' w32 ⟨Jo,j,rfl,hj1,hj2,hji,rfl,hs⟩
  refine Qag (Qag (QaH HM [some 59,some 60,some 61,some 62,some 63,some 64,some 65,some 66,some 67,some 68,some 69,some 70,some 71,some 72,some 73,some 74] [] [0,0,2,7,15,31,31,127,255,511,31,1055,3103,7199,16383,32767] [pv (I6 (j:Int)),pv (.slice an3 R.length cn3),pv (I6 ((R.length:Nat):Int)),pv (.bool (decide ((j:Int)<((R.length:Nat):Int)))),pv (.bool (decide ((j:Int)<((R.length:Nat):Int)))),pg ((decide ((j:Int)<((R.length:Nat):Int))) == true) (.slice an3 R.length cn3),pg ((decide ((j:Int)<((R.length:Nat):Int))) == true) (I6 (j:Int)),pg ((decide ((j:Int)<((R.length:Nat):Int))) == true) (.pointer (some ⟨bkS (.slice an3 R.length cn3),ofS (.slice an3 R.length cn3)+(j:Int).toNat*7,none⟩)),pg ((decide ((j:Int)<((R.length:Nat):Int))) == true) (.pointer (some ⟨bkS (.slice an3 R.length cn3),ofS (.slice an3 R.length cn3)+(j:Int).toNat*7+1,none⟩)),pg ((decide ((j:Int)<((R.length:Nat):Int))) == true) (I7 ((gd R j).item)),pg ((decide ((j:Int)<((R.length:Nat):Int))) == true) (.slice an3 R.length cn3),pg ((decide ((j:Int)<((R.length:Nat):Int))) == true) (.pointer (some ⟨bkS (.slice an3 R.length cn3),ofS (.slice an3 R.length cn3)+(0:Int).toNat*7,none⟩)),pg ((decide ((j:Int)<((R.length:Nat):Int))) == true) (.pointer (some ⟨bkS (.slice an3 R.length cn3),ofS (.slice an3 R.length cn3)+(0:Int).toNat*7+1,none⟩)),pg ((decide ((j:Int)<((R.length:Nat):Int))) == true) (I7 ((gd R 0).item)),pg ((decide ((j:Int)<((R.length:Nat):Int))) == true) (.bool (decide ((gd R j).item=(gd R 0).item))),pv (.bool ((decide ((j:Int)<((R.length:Nat):Int)))&&(decide ((gd R j).item=(gd R 0).item))))] (fun _ _=>_) [15] (by kernel_rfl) hs ⟨?_,?_,?_,?_,?_,?_,?_,?_,?_,?_,?_,?_,?_,?_,?_,?_,trivial⟩ ?_))
  ·exact oa [] fun D J w hs=>Qac (V:=.int .i64 (j:Int)) rfl (Zz hs)
  ·exact oa [] fun D J w hs=>Qac (V:=.slice an3 R.length cn3) rfl (Zz hs)
  ·exact oa [1] fun D J w hs=>Qa0 (n:=R.length) QbC (hvia _ (hs.rd 3 rfl)) (by simp) rfl (Zz hs)
  ·exact oa [0,2] fun D J w hs=>Qa2 rfl rfl (Zz hs)
  ·exact oa [3] fun D J w hs=>Qac (V:=.bool (decide ((j:Int)<((R.length:Nat):Int)))) rfl (Zz hs)
  ·exact og [4] fun D J w hG hs=>Qac (V:=.slice an3 R.length cn3) rfl (Zz hs)
  ·exact og [4] fun D J w hG hs=>Qac (V:=.int .i64 (j:Int)) rfl (Zz hs)
  ·refine oy [4,5,6] [5,6] fun D J w hG hs=>?_
   have hgd:=QQ1 (eq_of_beq (hG))
   exact Qaw QbC QaA.1 (hvia _ (hs.rd 3 rfl)) rfl rfl (by omega) (by rw [QQ6];omega) (Zz hs)
  ·exact oy [4,7] [7] fun D J w hG hs=>Qaf Qdc rfl (Zz hs)
  ·refine oy [4,8] [8] fun D J w hG hs=>?_
   have hgd:=QQ1 (eq_of_beq (hG))
   exact QaU (j:=1) (V:=.int .u16 ((gd R j).item)) j Qar (hvia _ (hs.rd 3 rfl)) (Qa9 (by omega)) rfl rfl (by omega) (Zz hs)
  ·exact og [4] fun D J w hG hs=>Qac (V:=.slice an3 R.length cn3) rfl (Zz hs)
  ·refine oy [4,10] [10] fun D J w hG hs=>?_
   have hgd:=QQ1 (eq_of_beq (hG))
   exact Qaw QbC QaA.1 (hvia _ (hs.rd 3 rfl)) rfl rfl (by decide) (by rw [QQ6];omega) (Zz hs)
  ·exact oy [4,11] [11] fun D J w hG hs=>Qaf Qdc rfl (Zz hs)
  ·refine oy [4,12] [12] fun D J w hG hs=>?_
   have hgd:=QQ1 (eq_of_beq (hG))
   exact QaU (j:=1) (V:=.int .u16 ((gd R 0).item)) 0 Qar (hvia _ (hs.rd 3 rfl)) (Qa9 (by omega)) rfl rfl (by omega) (Zz hs)
  ·exact oy [4,9,13] [9,13] fun D J w hG hs=>QaW rfl rfl (Zz hs)
  ·exact oa [4,14] fun D J w hs=>Qbg (h':=decide ((gd R j).item=(gd R 0).item)) rfl rfl rfl (Zz hs)
  rintro J1 w33 J2 hJ hs
  replace hJ:J2=upd (mix (sq 59 16) J1 _) 74 (.bool ((decide ((j:Int)<((R.length:Nat):Int)))&&(decide ((gd R j).item=(gd R 0).item)))):=hJ
  subst hJ
  refine Qam (t:=(decide ((j:Int)<((R.length:Nat):Int)))&&(decide ((gd R j).item=(gd R 0).item))) rfl (fun c34=>?_) (fun c34=>?_)
  ·
   have c34r:=Qcs c34
   replace c34:=QbY c34
   replace c34:=QQ1 c34
   replace c34r:=QQ1 c34r
   refine Qap (Qan (Qab (Qaa (Qac (V:=I6 (j:Int)) rfl (Qaa (QaD (a:=(j:Int)) (b:=1) (c:=((j+1:Nat):Int)) rfl rfl (Qaj (by omega) (by omega)) (Qaa (Qad (V:=I6 ((j+1:Nat):Int)) rfl (Qae ?_)))))))))
   refine ⟨_,?_,_,j+1,Qak (Qao (ds:=([11]++sq 59 18)) (by repeat (first|exact Agr.refl _ _|refine Agr.upd ?_ rfl|refine Agr.mix ?_ rfl))) rfl,(by omega),(by omega),(fun i hi=>by
 rcases Nat.lt_or_eq_of_le (Nat.le_of_lt_succ hi) with q|q
 ·exact hji i q
 ·subst q;exact c34r),rfl,hs.take 5⟩
   omega
  refine QaJ (Qag ?_)
  have hga:=QrG hrc hQp hgr hQs hj1 hj2 hji (by
          have ht:=c34
          rcases Nat.lt_or_ge j R.length with q|q
          ·right;intro h;simp [q,h] at ht
          ·left;omega)
  have hGok:∀ e∈R.take j,QiF e/\1<=e.count:=fun e he=>hQok e (QnO hgr e (List.mem_of_mem_take he))
  replace hs:=hs.more emp trivial
  refine QaH HM [some 77,some 78,some 79,some 80,some 81,some 82,some 83,some 84,some 85,some 86,some 87,some 88,some 89,none] [[],[],[],[],[],[],[],[],[],[],[87],[88]] [0,1,0,4,12,28,0,0,192,508,1020,2047,4095,8191] [pv (Pq b5 (0+1)),pv (.slice an6 ol.length cn6),pv (.slice an3 R.length cn3),pv (.pointer (some ⟨bkS (.slice an3 R.length cn3),ofS (.slice an3 R.length cn3)+(0:Int).toNat*7,none⟩)),pv (.pointer (some ⟨bkS (.slice an3 R.length cn3),ofS (.slice an3 R.length cn3)+(0:Int).toNat*7+1,none⟩)),pv (I7 ((gd R 0).item)),pv (.slice an3 R.length cn3),pv (I6 (j:Int)),pv (.slice (sla an3 0 cn3 7) ((R.take j).length) (cn3-0)),pv (.agg (lc (⟨(gd R 0).item,QeJ (R.take j)⟩:Line)).toArray),(true,fun J=>.slice (some ⟨(bOf (J 87)),0,none⟩) 1 1),(true,fun J=>.slice (aOf (J 88)) ((ol++[(⟨(gd R 0).item,QeJ (R.take j)⟩:Line)]).length) (cOf (J 88))),pv (Pq b5 (0+1)),pn] (fun D J=>[blk b1 ((vc s.known)++[(.slice a1 s.ents.length c1:Value),(.slice a2 s.ticks.length c2:Value) ]) 38,blk b3 [I7 0,.slice none 0 0,.bool false,.int .u32 0] 49,cond (D 13) (blk b5 [I7 n,.slice (aOf (J 88)) ((ol++[(⟨(gd R 0).item,QeJ (R.take j)⟩:Line)]).length) (cOf (J 88)),.bool ou,.int .u32 tk] 49) (blk b5 [I7 n,.slice an6 ol.length cn6,.bool ou,.int .u32 tk] 49),row (.slice an9 L9.length cn9) (sx28.map cec) 106 7,cond (D 11) (row (.slice (aOf (J 88)) ((ol++[(⟨(gd R 0).item,QeJ (R.take j)⟩:Line)]).length) (cOf (J 88))) ((ol++[(⟨(gd R 0).item,QeJ (R.take j)⟩:Line)]).map lc) 127 2) (row (.slice an6 ol.length cn6) (ol.map lc) 127 2),cond (D 10) (row (.slice (some ⟨(bOf (J 87)),0,none⟩) 1 1) ([(⟨(gd R 0).item,QeJ (R.take j)⟩:Line)].map lc) 127 2) (emp)]) [] (by kernel_rfl) hs ⟨?_,?_,?_,?_,?_,?_,?_,?_,?_,?_,?_,?_,?_,?_,trivial⟩ ?_
  ·exact oa [] fun D J w hs=>Qaf Qeo rfl (Zz hs)
  ·exact ob [0] [13] rfl rfl fun D J w hs=>QaP (V:=.slice an6 ol.length cn6) Qi9 hs 2 rfl rfl rfl (Zz hs)
  ·exact oa [] fun D J w hs=>Qac (V:=.slice an3 R.length cn3) rfl (Zz hs)
  ·exact oa [2] fun D J w hs=>Qaw QbC QaA.1 (hvia _ (hs.rd 3 rfl)) rfl rfl (by decide) (by rw [QQ6];omega) (Zz hs)
  ·exact oa [3] fun D J w hs=>Qaf Qdc rfl (Zz hs)
  ·exact oa [4] fun D J w hs=>QaU (j:=1) (V:=.int .u16 ((gd R 0).item)) 0 Qar (hvia _ (hs.rd 3 rfl)) (Qa9 (by omega)) rfl rfl (by omega) (Zz hs)
  ·exact oa [] fun D J w hs=>Qac (V:=.slice an3 R.length cn3) rfl (Zz hs)
  ·exact oa [] fun D J w hs=>Qac (V:=.int .i64 (j:Int)) rfl (Zz hs)
  ·exact oa [6,7] fun D J w hs=>Qk2 (l:=0) (h:=j) (m:=cn3) (n':=(R.take j).length) QcO QaA.1 (hvia _ (hs.rd 3 rfl)) rfl (.inl ⟨rfl,rfl⟩) (.inr ⟨_,_,rfl,rfl⟩) (.inl ⟨rfl,rfl⟩) (by omega) (by omega) (Nat.le_trans (show j<=R.length by omega) (Rd.roomM (hvia _ (hs.rd 3 rfl)))) (Nat.le_refl _) (by simp only [List.length_take,List.length_drop]<;>omega) (Zz hs)
  ·exact oa [5,8] fun D J w hs=>Qas (vs:=[.int .u16 ((gd R 0).item),.slice (sla an3 0 cn3 7) ((R.take j).length) (cn3-0)]) (V:=.agg (lc (⟨(gd R 0).item,QeJ (R.take j)⟩:Line)).toArray) QuM rfl rfl (QrK _ ((gd R 0).item) (sla an3 0 cn3 7) (cn3-0) (R.take j) hGok (Rd.subM (hvia _ (hs.rd 3 rfl)) 0 j cn3 (by omega) (by omega) (Nat.le_trans (show j<=R.length by omega) (Rd.roomM (hvia _ (hs.rd 3 rfl)))) (Nat.le_refl _) _ (by simp only [List.length_take,List.length_drop]<;>omega))) hs fun _ hs=>Zz hs
  ·exact oa [9] fun D J w hs=>QhI (vals:=[.agg (lc (⟨(gd R 0).item,QeJ (R.take j)⟩:Line)).toArray]) (ls:=List.map lc ([(⟨(gd R 0).item,QeJ (R.take j)⟩:Line)]:List Line)) QsR rfl rfl rfl (Qbj (enc:=lc) (fun _=>rfl) _) (QaV Qlc _) (QQ8 rfl) hs fun _ _ hs=>⟨rfl,hs.put 5 (QQ8 rfl)⟩
  ·exact ob [1,10] [13] rfl rfl fun D J w hs=>Qdb (ls':=(ol++[(⟨(gd R 0).item,QeJ (R.take j)⟩:Line)]).map lc) (n:=(ol++[(⟨(gd R 0).item,QeJ (R.take j)⟩:Line)]).length) QsR hs 4 rfl rfl rfl (hs.rd 5 rfl) (QaV Qlc _) (by simp only [QQ6,QQ7,List.length_cons,List.length_nil];omega) (by simp) (by simp) fun _ _ _ hs=>⟨rfl,hs⟩
  ·exact oa [] fun D J w hs=>Qaf Qeo rfl (Zz hs)
  ·exact oa [11,12] fun D J w hs=>QcQ (V:=.slice (aOf (J 88)) ((ol++[(⟨(gd R 0).item,QeJ (R.take j)⟩:Line)]).length) (cOf (J 88))) (cs':=[.int .u16 n,.slice (aOf (J 88)) ((ol++[(⟨(gd R 0).item,QeJ (R.take j)⟩:Line)]).length) (cOf (J 88)),.bool ou,.int .u32 tk]) Qi9 hs 2 rfl rfl rfl rfl (QQ8 rfl) rfl fun _ hs=>⟨trivial,hs⟩
  rintro J1 w39 J2 hJ hs
  replace hJ:J2=mix (sq 77 13) J1 _:=hJ
  replace hs:Own w no w39 [blk b1 ((vc s.known)++[(.slice a1 s.ents.length c1:Value),(.slice a2 s.ticks.length c2:Value) ]) 38,blk b3 [I7 0,.slice none 0 0,.bool false,.int .u32 0] 49,blk b5 [I7 n,.slice (aOf (J1 88)) ((ol++[(⟨(gd R 0).item,QeJ (R.take j)⟩:Line)]).length) (cOf (J1 88)),.bool ou,.int .u32 tk] 49,row (.slice an9 L9.length cn9) (sx28.map cec) 106 7,row (.slice (aOf (J1 88)) ((ol++[(⟨(gd R 0).item,QeJ (R.take j)⟩:Line)]).length) (cOf (J1 88))) ((ol++[(⟨(gd R 0).item,QeJ (R.take j)⟩:Line)]).map lc) 127 2,row (.slice (some ⟨(bOf (J1 87)),0,none⟩) 1 1) ([(⟨(gd R 0).item,QeJ (R.take j)⟩:Line)].map lc) 127 2]:=hs
  generalize (bOf (J1 87))=b40 at hs
  generalize (aOf (J1 88))=a41 at hs
  generalize (cOf (J1 88))=c42 at hs
  subst hJ
  refine Qab (Qaa (Qac (V:=.slice an3 R.length cn3) rfl (Qaa (Qac (V:=I6 (j:Int)) rfl (Qaa (Qk2 (l:=j) (h:=R.length) (m:=cn3) (n':=(R.drop j).length) QcO QaA.1 (hvia _ (hs.rd 3 rfl)) rfl (.inr ⟨_,_,rfl,rfl⟩) (.inl ⟨rfl,rfl⟩) (.inl ⟨rfl,rfl⟩) (by omega) (by omega) (Nat.le_trans (show R.length<=R.length by omega) (Rd.roomM (hvia _ (hs.rd 3 rfl)))) (Nat.le_refl _) (by simp only [List.length_take,List.length_drop]<;>omega) ?_))))))
  refine Qaa (Qad (V:=.slice (sla an3 j cn3 7) ((R.drop j).length) (cn3-j)) rfl (Qae ?_))
  refine ⟨_,?_,_,R.drop j,I++[(gd R 0).item],(sla an3 j cn3 7),cn3-j,a41,c42,ol++[(⟨(gd R 0).item,QeJ (R.take j)⟩:Line)],Qak (Qao (ds:=([8,11]++sq 56 37)) (by repeat (first|exact Agr.refl _ _|refine Agr.upd ?_ rfl|refine Agr.mix ?_ rfl))) rfl,hga.1,(Qly hol hga.2),(by simp only [QQ7,List.length_singleton,List.length_drop];omega),(fun w' h=>Rd.dropM (hvia w' h) j (by omega) _ (by rw [List.length_drop])),rfl,hs.take 5⟩
  (rw [List.length_drop];omega)
 replace c31:=QQ2 c31
 refine QaJ (Qag (Qab (Qaa (QaO (cs:=[I7 n,.slice an6 ol.length cn6,.bool ou,.int .u32 tk]) Qeu hs 2 rfl rfl rfl (Qaa (QcG (V:=.agg #[I7 n,.slice an6 ol.length cn6,.bool ou,.int .u32 tk]) (vs:=[I7 n,.slice an6 ol.length cn6,.bool ou,.int .u32 tk]) (cs':=[I7 n,.slice an6 ol.length cn6,.bool ou,.int .u32 tk]) Qeu.1 hs 1 rfl rfl rfl rfl rfl (QQ8 rfl) (Qat rfl (Qat rfl (Qat rfl (Qat rfl Qa1)))) (Qaz rfl) fun w43 hs=>(Qae (Qav ?_))))))))
 refine ⟨_,Qdy (cs:=[I7 n,.slice an6 ol.length cn6,.bool ou,.int .u32 tk]) Tryz.results33 Qeu hs 1 rfl rfl rfl,?_⟩
 have hV:=QqM c9 htk hobE hQp hgr (by omega) hol
 rw [hV]
 exact ⟨(an6,cn6),rfl,hs.only 4 rfl,trivial⟩
end Tt
end Go.Proofs
namespace Go.Proofs
open Go Go.Vx Go.RowKit
namespace Tt
theorem QeN (w:World) (s:Sta) (a1:Option Addr) (c1:Nat) (a2:Option Addr) (c2:Nat) (n:Int) (V:Vw) (hV:QaI s n (Qau s)=V) (hok:Qdq s) (hle:s.ents.length<=1000) (hlt:s.ticks.length<=1000) (hr1:Rd w (.slice a1 s.ents.length c1) 7 (s.ents.map cec)) (hr2:Rd w (.slice a2 s.ticks.length c2) 2 (s.ticks.map lsc)):Calls Tryz.prog 33 #[.agg ((vc s.known)++[(.slice a1 s.ents.length c1:Value),(.slice a2 s.ticks.length c2:Value) ]).toArray,.int .u16 n] w (fun e w'=>∃ x:Option Addr × Nat,e = .returned (.agg [.int .u16 (V).cart,.slice x.1 (V).lines.length x.2,.bool (V).out,.int .u32 (V).tick].toArray)/\Own w no w' [row (.slice x.1 (V).lines.length x.2) ((V).lines.map lc) 127 2]/\True):=by
 subst hV;exact QnM w s a1 c1 a2 c2 n hok hle hlt hr1 hr2
end Tt
end Go.Proofs
namespace Go.Proofs
open Go Go.Vx Go.RowKit
namespace Tt
theorem Qg8 (w:World) (p:Pst) (a1:Option Addr) (c1:Nat) (a2:Option Addr) (c2:Nat) (a3:Option Addr) (c3:Nat) (cut:Vec) (hcut:QbR cut) (n:Int) (hsortE:Qgx Tryz.prog 48 49 cec 106 7 Qj4) (hsortU:Qgz Tryz.prog 134 .u16 32) (hok:QeV p) (hle:p.base.ents.length<=400) (hlt:p.base.ticks.length<=400) (hlo:p.ops.length<=400) (hr1:Rd w (.slice a1 p.base.ents.length c1) 7 (p.base.ents.map cec)) (hr2:Rd w (.slice a2 p.base.ticks.length c2) 2 (p.base.ticks.map lsc)) (hr3:Rd w (.slice a3 p.ops.length c3) 23 (p.ops.map oc)):Calls Tryz.prog 15 #[.agg (((vc p.base.known)++[(.slice a1 p.base.ents.length c1:Value),(.slice a2 p.base.ticks.length c2:Value) ])++[(.slice a3 p.ops.length c3:Value) ]++(vc p.known)).toArray,.agg (vc cut).toArray,.int .u16 n] w (fun e w'=>∃ x:Option Addr × Nat,e = .returned (.tuple #[.agg [.int .u16 (QaG p cut n).cart,.slice x.1 (QaG p cut n).lines.length x.2,.bool (QaG p cut n).out,.int .u32 (QaG p cut n).tick].toArray,.int .i64 (Qbp p cut)])/\Own w no w' [row (.slice x.1 (QaG p cut n).lines.length x.2) ((QaG p cut n).lines.map lc) 127 2]/\True):=by
 refine Qai (n:=23) Tryz.func15 rfl Tryz.ntmps15 rfl ?_
 have hs:=Own.start w
 have ⟨hokb,hoko,hokk⟩:=hok
 have hsl:=Qc2 p cut
 have hso:=QeH (cut:=cut) hok hcut
 refine Qag (Qab (Qaa (Qa4 (V:=.agg (((vc p.base.known)++[(.slice a1 p.base.ents.length c1:Value),(.slice a2 p.base.ticks.length c2:Value) ])++[(.slice a3 p.ops.length c3:Value) ]++(vc p.known)).toArray) (cs:=((vc p.base.known)++[(.slice a1 p.base.ents.length c1:Value),(.slice a2 p.base.ticks.length c2:Value) ])++[(.slice a3 p.ops.length c3:Value) ]++(vc p.known)) rfl rfl hs fun b1 w2 hs=>(Qaa (Qa4 (V:=.agg (vc cut).toArray) (cs:=vc cut) rfl rfl hs fun b3 w4 hs=>(Qaa (QaL (cs:=[I7 0,.slice none 0 0,.bool false,.int .u32 0]) QiW rfl hs fun b5 w6 hs=>(Qaa (Qad (V:=I6 0) rfl (Qae (Qag (Qab (Qaa (QaO (cs:=((vc p.base.known)++[(.slice a1 p.base.ents.length c1:Value),(.slice a2 p.base.ticks.length c2:Value) ])++[(.slice a3 p.ops.length c3:Value) ]++(vc p.known)) QcV hs 0 rfl rfl rfl (Qaa (QaO (cs:=vc cut) Qbu hs 1 rfl rfl rfl (Qaa (Qbm (α:=(Option Addr × Nat) × (Option Addr × Nat)) (vs:=[.agg (((vc p.base.known)++[(.slice a1 p.base.ents.length c1:Value),(.slice a2 p.base.ticks.length c2:Value) ])++[(.slice a3 p.ops.length c3:Value) ]++(vc p.known)).toArray,.agg (vc cut).toArray]) (V:=fun x:(Option Addr × Nat) × (Option Addr × Nat)=>.tuple #[.agg (vc (Qah p cut).known++[(.slice x.1.1 ((Qah p cut).ents).length x.1.2:Value),(.slice x.2.1 ((Qah p cut).ticks).length x.2.2:Value)]).toArray,I6 (Qbp p cut)]) (Lo:=fun x=>[row (.slice x.1.1 ((Qah p cut).ents).length x.1.2) (((Qah p cut).ents).map cec) 106 7,row (.slice x.2.1 ((Qah p cut).ticks).length x.2.2) (((Qah p cut).ticks).map lsc) 102 2]) (F:=fun _ _=>True) Qlv rfl rfl ?hc hs fun x8 w7 hs _=>?_))))))))))))))))))
 case hc=>exact (QdW _ p a1 c1 a2 c2 a3 c3 cut hcut hsortE hsortU hok hle hlt hlo (Rd.own' hr1 hs) (Rd.own' hr2 hs) (Rd.own' hr3 hs))
 replace hs:Own w no w7 [blk b1 (((vc p.base.known)++[(.slice a1 p.base.ents.length c1:Value),(.slice a2 p.base.ticks.length c2:Value) ])++[(.slice a3 p.ops.length c3:Value) ]++(vc p.known)) 43,blk b3 (vc cut) 24,blk b5 [I7 0,.slice none 0 0,.bool false,.int .u32 0] 49,row (.slice x8.1.1 (((Qah p cut).ents).length) x8.1.2) (((Qah p cut).ents).map cec) 106 7,row (.slice x8.2.1 (((Qah p cut).ticks).length) x8.2.2) (((Qah p cut).ticks).map lsc) 102 2]:=hs
 refine Qaa (Qac (V:=.tuple #[.agg ((vc ((Qah p cut).known))++[(.slice x8.1.1 (((Qah p cut).ents).length) x8.1.2:Value),(.slice x8.2.1 (((Qah p cut).ticks).length) x8.2.2:Value) ]).toArray,I6 (Qbp p cut)]) rfl (Qaa (Qax (V:=.agg ((vc ((Qah p cut).known))++[(.slice x8.1.1 (((Qah p cut).ents).length) x8.1.2:Value),(.slice x8.2.1 (((Qah p cut).ticks).length) x8.2.2:Value) ]).toArray) rfl rfl (Qaa (Qax (V:=I6 (Qbp p cut)) rfl rfl (Qaa (QaL (cs:=(vc vzero)++[(.slice none 0 0:Value),(.slice none 0 0:Value) ]) Qfr rfl hs fun b9 w10 hs=>(Qaa (QcG (V:=.agg ((vc ((Qah p cut).known))++[(.slice x8.1.1 (((Qah p cut).ents).length) x8.1.2:Value),(.slice x8.2.1 (((Qah p cut).ticks).length) x8.2.2:Value) ]).toArray) (vs:=(vc ((Qah p cut).known))++[(.slice x8.1.1 (((Qah p cut).ents).length) x8.1.2:Value),(.slice x8.2.1 (((Qah p cut).ticks).length) x8.2.2:Value) ]) (cs':=(vc ((Qah p cut).known))++[(.slice x8.1.1 (((Qah p cut).ents).length) x8.1.2:Value),(.slice x8.2.1 (((Qah p cut).ticks).length) x8.2.2:Value) ]) QbS.1 hs 5 rfl rfl rfl rfl rfl (QQ8 rfl) (Qbh (QbQ _) (Qat rfl (Qat rfl Qa1))) (Qaz rfl) fun w11 hs=>(Qaa (Qad (V:=I6 (Qbp p cut)) rfl (Qae (Qag (Qag (Qab (Qaa (Qac (V:=I6 (Qbp p cut)) rfl (Qaa (QcC rfl rfl (Qae (Qam (t:=!decide (Qbp p cut=0)) rfl (fun c12=>?_) (fun c12=>?_))))))))))))))))))))))
 ·
  replace c12:=Qby c12
  replace c12:=QQ2 c12
  refine Qag (Qab (Qaa (QbI (vs:=[]) (cs:=[I7 0,.slice none 0 0,.bool false,.int .u32 0]) Qtb (rfl) rfl (Qaa (Qac (V:=I6 (Qbp p cut)) rfl (Qaa (QcG (V:=.agg #[I7 0,.slice none 0 0,.bool false,.int .u32 0]) (vs:=[I7 0,.slice none 0 0,.bool false,.int .u32 0]) (cs':=[I7 0,.slice none 0 0,.bool false,.int .u32 0]) Qeu.1 hs 2 rfl rfl rfl rfl rfl (QQ8 rfl) (Qat rfl (Qat rfl (Qat rfl (Qat rfl Qa1)))) (Qaz rfl) fun w13 hs=>(Qaa (Qad (V:=I6 (Qbp p cut)) rfl (Qae (Qav ?_)))))))))))
  refine ⟨_,Qci (cs:=[I7 0,.slice none 0 0,.bool false,.int .u32 0]) (V:=I6 (Qbp p cut)) Tryz.results15 Qeu hs 2 rfl rfl rfl rfl,?_⟩
  rw [Qn5 c12]
  exact ⟨(none,0),rfl,(hs.take 0).more _ (Qba _ _ 127 2),trivial⟩
 replace c12:=Qbr c12
 replace c12:=QQ1 c12
 refine Qap (Qag (Qab (Qaa (QaO (cs:=(vc ((Qah p cut).known))++[(.slice x8.1.1 (((Qah p cut).ents).length) x8.1.2:Value),(.slice x8.2.1 (((Qah p cut).ticks).length) x8.2.2:Value) ]) QbS hs 5 rfl rfl rfl (Qaa (Qac (V:=I7 n) rfl (Qaa (Qbm (α:=Option Addr × Nat) (vs:=[.agg ((vc ((Qah p cut).known))++[(.slice x8.1.1 (((Qah p cut).ents).length) x8.1.2:Value),(.slice x8.2.1 (((Qah p cut).ticks).length) x8.2.2:Value) ]).toArray,I7 n]) (V:=fun x=>.agg #[I7 ((QaI (Qah p cut) n (Qau (Qah p cut))).cart),.slice x.1 (((QaI (Qah p cut) n (Qau (Qah p cut))).lines).length) x.2,.bool ((QaI (Qah p cut) n (Qau (Qah p cut))).out),.int .u32 ((QaI (Qah p cut) n (Qau (Qah p cut))).tick)]) (Lo:=fun x=>[row (.slice x.1 ((QaI (Qah p cut) n (Qau (Qah p cut))).lines).length x.2) (((QaI (Qah p cut) n (Qau (Qah p cut))).lines).map lc) 127 2]) (F:=fun _ _=>True) QoS rfl rfl ?hc hs fun x15 w14 hs _=>?_))))))))
 case hc=>exact (QeN _ (Qah p cut) x8.1.1 x8.1.2 x8.2.1 x8.2.2 n (QaI (Qah p cut) n (Qau (Qah p cut)):Vw) (rfl) hso (by omega) (by omega) (hs.rd 3 rfl) (hs.rd 4 rfl))
 refine Qaa (QcG (V:=.agg #[I7 ((QaI (Qah p cut) n (Qau (Qah p cut))).cart),.slice x15.1 (((QaI (Qah p cut) n (Qau (Qah p cut))).lines).length) x15.2,.bool ((QaI (Qah p cut) n (Qau (Qah p cut))).out),.int .u32 ((QaI (Qah p cut) n (Qau (Qah p cut))).tick)]) (vs:=[I7 ((QaI (Qah p cut) n (Qau (Qah p cut))).cart),.slice x15.1 (((QaI (Qah p cut) n (Qau (Qah p cut))).lines).length) x15.2,.bool ((QaI (Qah p cut) n (Qau (Qah p cut))).out),.int .u32 ((QaI (Qah p cut) n (Qau (Qah p cut))).tick)]) (cs':=[I7 ((QaI (Qah p cut) n (Qau (Qah p cut))).cart),.slice x15.1 (((QaI (Qah p cut) n (Qau (Qah p cut))).lines).length) x15.2,.bool ((QaI (Qah p cut) n (Qau (Qah p cut))).out),.int .u32 ((QaI (Qah p cut) n (Qau (Qah p cut))).tick)]) Qeu.1 hs 2 rfl rfl rfl rfl rfl (QQ8 rfl) (Qat rfl (Qat rfl (Qat rfl (Qat rfl Qa1)))) (Qaz rfl) fun w16 hs=>?_)
 replace hs:Own w no w16 [blk b1 (((vc p.base.known)++[(.slice a1 p.base.ents.length c1:Value),(.slice a2 p.base.ticks.length c2:Value) ])++[(.slice a3 p.ops.length c3:Value) ]++(vc p.known)) 43,blk b3 (vc cut) 24,blk b5 [I7 ((QaI (Qah p cut) n (Qau (Qah p cut))).cart),.slice x15.1 (((QaI (Qah p cut) n (Qau (Qah p cut))).lines).length) x15.2,.bool ((QaI (Qah p cut) n (Qau (Qah p cut))).out),.int .u32 ((QaI (Qah p cut) n (Qau (Qah p cut))).tick)] 49,row (.slice x8.1.1 (((Qah p cut).ents).length) x8.1.2) (((Qah p cut).ents).map cec) 106 7,row (.slice x8.2.1 (((Qah p cut).ticks).length) x8.2.2) (((Qah p cut).ticks).map lsc) 102 2,blk b9 ((vc ((Qah p cut).known))++[(.slice x8.1.1 (((Qah p cut).ents).length) x8.1.2:Value),(.slice x8.2.1 (((Qah p cut).ticks).length) x8.2.2:Value) ]) 38,row (.slice x15.1 (((QaI (Qah p cut) n (Qau (Qah p cut))).lines).length) x15.2) (((QaI (Qah p cut) n (Qau (Qah p cut))).lines).map lc) 127 2]:=hs
 refine Qaa (Qad (V:=I6 0) rfl (Qae (Qav ?_)))
 refine ⟨_,Qci (cs:=[I7 ((QaI (Qah p cut) n (Qau (Qah p cut))).cart),.slice x15.1 (((QaI (Qah p cut) n (Qau (Qah p cut))).lines).length) x15.2,.bool ((QaI (Qah p cut) n (Qau (Qah p cut))).out),.int .u32 ((QaI (Qah p cut) n (Qau (Qah p cut))).tick)]) (V:=I6 0) Tryz.results15 Qeu hs 2 rfl rfl rfl rfl,?_⟩
 rw [Qge c12,c12]
 exact ⟨(x15.1,x15.2),rfl,hs.only 6 rfl,trivial⟩
end Tt
end Go.Proofs
namespace Go.Proofs
open Go Go.Vx Go.RowKit
namespace Tt
theorem QhP (w:World) (s:Sta) (a1:Option Addr) (c1:Nat) (a2:Option Addr) (c2:Nat) (hok:Qdq s) (hle:s.ents.length<=1000) (hlt:s.ticks.length<=1000) (hr1:Rd w (.slice a1 s.ents.length c1) 7 (s.ents.map cec)) (hr2:Rd w (.slice a2 s.ticks.length c2) 2 (s.ticks.map lsc)):Calls Tryz.prog 63 #[.agg ((vc s.known)++[(.slice a1 s.ents.length c1:Value),(.slice a2 s.ticks.length c2:Value) ]).toArray] w (fun e w'=>∃ x:Option Addr × Nat,e = .returned (.slice x.1 (Qay s).length x.2)/\Own w no w' [row (.slice x.1 (Qay s).length x.2) ((Qay s).map (ic .u16)) 32 1]/\True):=by
 refine Qai (n:=23) Tryz.func63 rfl Tryz.ntmps63 rfl ?_
 have hs:=Own.start w
 have ⟨hv0,hE0,hT0⟩:=hok
 refine Qag (Qab (Qaa (Qa4 (V:=.agg ((vc s.known)++[(.slice a1 s.ents.length c1:Value),(.slice a2 s.ticks.length c2:Value) ]).toArray) (cs:=(vc s.known)++[(.slice a1 s.ents.length c1:Value),(.slice a2 s.ticks.length c2:Value) ]) rfl rfl hs fun b1 w2 hs=>(Qaa (Qad (V:=.slice none 0 0) rfl (Qae (Qag (Qag (Qab (Qaa (QaO (cs:=(vc s.known)++[(.slice a1 s.ents.length c1:Value),(.slice a2 s.ticks.length c2:Value) ]) QbS hs 0 rfl rfl rfl (Qaa (Qas (vs:=[.agg ((vc s.known)++[(.slice a1 s.ents.length c1:Value),(.slice a2 s.ticks.length c2:Value) ]).toArray]) (V:=.bool (Qau s)) Qoo rfl rfl ?hc hs fun w3 hs=>?_)))))))))))))
 case hc=>exact (QeK _ s a1 c1 a2 c2 hok (by omega) (by omega) (Rd.own' hr1 hs) (Rd.own' hr2 hs))
 refine Qaa (Qbx rfl (Qae (Qam (t:=!(Qau s)) rfl (fun c4=>?_) (fun c4=>?_))))
 ·
  replace c4:=Qby c4
  refine Qag (Qab (Qaa (Qad (V:=.slice none 0 0) rfl (Qae (Qav ?_)))))
  refine ⟨_,Qaq (V:=.slice none 0 0) Tryz.results63 rfl,?_⟩
  have hX:Qay s=[]:=by unfold Qay;rw [if_neg (by rw [c4];decide)]
  rw [hX]
  exact ⟨(none,0),rfl,(hs.take 0).more _ (Qba _ _ _ _),trivial⟩
 replace c4:=Qbr c4
 refine Qap (Qag (Qab (Qaa (Qad (V:=.slice none 0 0) rfl (Qae (Qag (Qag (Qab (Qaa (Qaf QcA rfl (Qaa (QaP (V:=.slice a2 s.ticks.length c2) Qfd hs 0 rfl rfl rfl (Qaa (Qa0 (n:=s.ticks.length) Qea (Rd.own' hr2 hs) (by simp) rfl (Qaa (Qac (V:=I6 0) rfl (Qae (Qan ?_))))))))))))))))))
 replace hs:=hs.more (row (.slice none 0 0) (List.map (ic .u16) []) 32 1) (Qba _ _ _ _)
 refine QaC (fun J μ J' w'=>∃ (Jo:Env) (k:Nat) (a9:Option Addr) (c9:Nat) (L9:List Int),J'=upd (upd (mix ([3,5]++sq 12 10) Jo J) 12 (I6 (k:Int))) 3 (.slice a9 L9.length c9)/\(k<=s.ticks.length)/\(L9=(s.ticks.take k).map (·.cart))/\(L9.length<=k)/\μ=s.ticks.length-k/\Own w no w' [blk b1 ((vc s.known)++[(.slice a1 s.ents.length c1:Value),(.slice a2 s.ticks.length c2:Value) ]) 38,row (.slice a9 L9.length c9) (L9.map (ic .u16)) 32 1]) ?_ ?_
 ·exact ⟨_,_,0,none,0,[],Qak (Qak (Qao (ds:=([3,5]++sq 12 10)) (Agr.refl _ _)) rfl) rfl,(by omega),rfl,(Nat.le_refl _),rfl,hs⟩
 rintro μ J' w5 ⟨Jo,k,a9,c9,L9,rfl,hk,hL9,hl9,rfl,hs⟩
 refine Qag (Qab (Qaa (Qa2 rfl rfl (Qae (Qag (Qam (t:=decide ((k:Int)<((s.ticks.length:Nat):Int))) rfl (fun c6=>?_) (fun c6=>?_)))))))
 ·
  replace c6:=QQ1 c6
  refine Qap (Qag (Qan (Qag (Qab (Qaa (Qaw Qea QbN.1 (Rd.own' hr2 hs) rfl rfl (by omega) (by rw [QQ6];omega) (Qaa (Qbc (j:=0) (vs:=lsc (gd s.ticks k)) k QbN (Rd.own' hr2 hs) (Qa9 (by omega)) rfl rfl rfl (by omega) (Qaa (QaL (cs:=lsc (⟨0,0⟩:Lst)) QjR rfl hs fun b7 w8 hs=>(Qaa (QcG (V:=.agg (lsc (gd s.ticks k)).toArray) (vs:=lsc (gd s.ticks k)) (cs':=lsc (gd s.ticks k)) QbN.1 hs 2 rfl rfl rfl rfl rfl (QQ8 rfl) (Qcd _) (Qaz rfl) fun w9 hs=>(Qae (Qab (Qaa (Qac (V:=.slice a9 L9.length c9) rfl (Qaa (Qaf Qd7 rfl (Qaa (QaP (V:=I7 ((gd s.ticks k).cart)) Qar hs 2 rfl rfl rfl (Qaa (QhI (vals:=[I7 ((gd s.ticks k).cart)]) (ls:=List.map (ic .u16) ([(gd s.ticks k).cart]:List Int)) Qnn rfl rfl rfl (Qbj (enc:=(ic .u16)) (fun _=>rfl) _) (QaV (Qfk .u16) _) (QQ8 rfl) hs fun b10 w11 hs=>?_))))))))))))))))))))))
  replace hs:Own w no w11 [blk b1 ((vc s.known)++[(.slice a1 s.ents.length c1:Value),(.slice a2 s.ticks.length c2:Value) ]) 38,row (.slice a9 L9.length c9) (L9.map (ic .u16)) 32 1,blk b7 (lsc (gd s.ticks k)) 102,row (.slice (some ⟨b10,0,none⟩) 1 1) ([(gd s.ticks k).cart].map (ic .u16)) 32 1]:=hs
  refine Qaa (Qdb (ls':=(L9++[(gd s.ticks k).cart]).map (ic .u16)) (n:=(L9++[(gd s.ticks k).cart]).length) Qnn hs 1 rfl rfl rfl (hs.rd 3 rfl) (QaV (Qfk .u16) _) (by simp only [QQ6,QQ7,List.length_cons,List.length_nil];omega) (by simp) (by simp) fun a12 c12 w13 hs=>(Qaa (Qad (V:=.slice a12 ((L9++[(gd s.ticks k).cart]).length) c12) rfl (Qae (Qab (Qaa (QaD (a:=(k:Int)) (b:=1) (c:=((k+1:Nat):Int)) rfl rfl (Qaj (by omega) (by omega)) (Qaa (Qac (V:=I6 ((k+1:Nat):Int)) rfl (Qae ?_))))))))))
  refine ⟨_,?_,_,k+1,a12,c12,L9++[(gd s.ticks k).cart],Qak (Qak (Qao (ds:=([3,5]++sq 12 10)) (by repeat (first|exact Agr.refl _ _|refine Agr.upd ?_ rfl|refine Agr.mix ?_ rfl))) rfl) rfl,(by omega),(QjE (f:=fun x:Lst=>x.cart) hL9 (by omega)),(by rw [QQ7,List.length_singleton];omega),rfl,hs.take 2⟩
  omega
 replace c6:=QQ2 c6
 refine QaJ (Qag (Qab (Qaa (Qac (V:=.slice a9 L9.length c9) rfl (Qaa (Qad (V:=.slice a9 L9.length c9) rfl (Qae (Qav ?_))))))))
 refine ⟨_,Qaq (V:=.slice a9 L9.length c9) Tryz.results63 rfl,?_⟩
 have hX:L9=Qay s:=by unfold Qay;rw [if_pos c4,hL9,Qcw (by omega)]
 rw [hX] at hs ⊢
 exact ⟨(a9,c9),rfl,hs.only 1 rfl,trivial⟩
end Tt
end Go.Proofs
namespace Go.Proofs
open Go Go.Vx Go.RowKit
namespace Tt
theorem Qo4 (w:World) (a:Option Addr) (c:Nat) (l:List Int) (g:Nat) (caps:List Value) (hg:En Tryz.prog g) (p:Int->Bool) (hp:∀ (w1:World) (L1:List Res),Own w no w1 L1->∀ x∈l,Calls Tryz.prog g ([(.int .u16 x:Value)]++caps).toArray w1 (fun e w'=>e = .returned (.bool (p x))/\Own w1 no w' [])) (hr:Rd w (.slice a l.length c) 1 (l.map (ic .u16))):Calls Tryz.prog 110 #[.slice a l.length c,.func (.func g) #[] caps.toArray] w (fun e w'=>e = .returned (.int .i64 (Qen p l))/\Own w no w' []):=by
 refine Qai (n:=19) Tryz.func110 rfl Tryz.ntmps110 rfl ?_
 have hs:=Own.start w
 have hn:=hr.sml
 refine Qag (Qab (Qaa (Qad (V:=I6 0) rfl (Qae (Qag (Qag (Qab (Qaa (Qac (V:=.slice a l.length c) rfl (Qaa (Qa0 (n:=l.length) QaK (Rd.own' hr hs) (by simp) rfl (Qaa (Qac (V:=I6 0) rfl (Qae (Qan (QaC (fun J μ J' w'=>∃ (Jo:Env) (k:Nat),J'=upd (mix ([4,5]++sq 8 11) Jo J) 8 (I6 (k:Int))/\(k<=l.length)/\(∀ j:Nat,j<k->p (gd l j)=false)/\μ=l.length-k/\Own w no w' []) ?_ ?_))))))))))))))))
 ·exact ⟨_,_,0,Qak (Qao (ds:=([4,5]++sq 8 11)) (Agr.refl _ _)) rfl,(by omega),(fun j hj=>absurd hj (Nat.not_lt_zero j)),rfl,hs⟩
 rintro μ J' w1 ⟨Jo,k,rfl,hk,hno,rfl,hs⟩
 refine Qag (Qab (Qaa (Qa2 rfl rfl (Qae (Qag (Qam (t:=decide ((k:Int)<((l.length:Nat):Int))) rfl (fun c2=>?_) (fun c2=>?_)))))))
 ·
  replace c2:=QQ1 c2
  refine Qap (Qag (Qan (Qag (Qab (Qaa (Qac (V:=I6 (k:Int)) rfl (Qaa (Qad (V:=I6 (k:Int)) rfl (Qae (Qag (Qab (Qaa (Qac (V:=.func (.func g) #[] caps.toArray) rfl (Qaa (Qac (V:=.slice a l.length c) rfl (Qaa (Qac (V:=I6 (k:Int)) rfl (Qaa (Qaw QaK Qar.1 (Rd.own' hr hs) rfl rfl (by omega) (by rw [QQ6];omega) (Qaa (QaU (j:=0) (V:=I7 (gd l k)) k Qar (Rd.own' hr hs) (Qa9 (by omega)) rfl rfl (by omega) (Qaa (Qe9 (vs:=[I7 (gd l k)]) (cs:=caps) (V:=.bool (p (gd l k))) hg rfl rfl (hp _ _ hs (gd l k) (Qbz (by omega))) hs fun w3 hs=>(Qae (Qam (t:=p (gd l k)) rfl (fun c4=>?_) (fun c4=>?_))))))))))))))))))))))))))
  ·
   refine Qag (Qab (Qaa (Qac (V:=I6 (k:Int)) rfl (Qaa (Qad (V:=I6 (k:Int)) rfl (Qae (Qav ?_)))))))
   refine ⟨_,Qaq (V:=I6 (k:Int)) Tryz.results110 rfl,(Zr hs ?_)⟩
   exact congrArg (Value.int .i64) (Qjb (by omega) hno c4).symm
  refine Qap (Qab (Qaa (QaD (a:=(k:Int)) (b:=1) (c:=(k:Int)+1) rfl rfl (QbE (by omega) (by omega)) (Qaa (Qac (V:=I6 ((k:Int)+1)) rfl (Qae ?_))))))
  refine ⟨_,?_,_,k+1,Qak (Qao (ds:=([4,5]++sq 8 11)) (by repeat (first|exact Agr.refl _ _|refine Agr.upd ?_ rfl|refine Agr.mix ?_ rfl))) rfl,(by omega),(Qdg hno c4),rfl,hs.take 0⟩
  omega
 replace c2:=QQ2 c2
 refine QaJ (Qag (Qab (Qaa (Qad (V:=I6 (-1)) rfl (Qae (Qav ?_))))))
 refine ⟨_,Qaq (V:=I6 (-1)) Tryz.results110 rfl,(Zr hs ?_)⟩
 exact congrArg (Value.int .i64) (QmF fun j hj=>hno j (by omega)).symm
end Tt
end Go.Proofs
namespace Go.Proofs
open Go Go.Vx Go.RowKit
namespace Tt
theorem QnE (w:World) (S:Nat->Prop) (a:Option Addr) (c:Nat) (l:List Int) (g:Nat) (caps:List Value) (hg:En Tryz.prog g) (p:Int->Bool) (hp:∀ (w1:World) (L1:List Res),Own w S w1 L1->∀ x∈l,Calls Tryz.prog g ([(.int .u16 x:Value)]++caps).toArray w1 (fun e w'=>e = .returned (.bool (p x))/\Own w1 no w' [])) (hR:(row (.slice a l.length c) (l.map (ic .u16)) 32 1).holds w S) (hlt:∀ b,S b->b<w.heap.size):Calls Tryz.prog 67 #[.slice a l.length c,.func (.func g) #[] caps.toArray] w (fun e w'=>∃ x:Unit,e = .returned (.slice a (l.filter fun x=>!p x).length c)/\Own w S w' [row (.slice a (l.filter fun x=>!p x).length c) ((l.filter fun x=>!p x).map (ic .u16)) 32 1]/\True):=by
 refine Qai (n:=42) Tryz.func67 rfl Tryz.ntmps67 rfl ?_
 have hs:=Own.lent hR hlt
 have hn:=(hs.rd 0 rfl).sml
 have hlc:=(hs.rd 0 rfl).roomM
 refine Qag (Qab (Qaa (Qad (V:=.slice none 0 0) rfl (Qae (Qag (Qab (Qaa (Qac (V:=.slice a l.length c) rfl (Qaa (Qac (V:=.func (.func g) #[] caps.toArray) rfl (Qaa (Qas (vs:=[.slice a l.length c,.func (.func g) #[] caps.toArray]) (V:=I6 (Qen p l)) QtK rfl rfl ?hc hs fun w1 hs=>?_))))))))))))
 case hc=>exact (Qo4 _ a c l g caps hg p (fun w1 L1 h=>hp w1 _ (hs.call h)) (hs.rd 0 rfl))
 refine Qaa (Qad (V:=I6 (Qen p l)) rfl (Qae (Qag (Qag ?_))))
 rcases Qkh (p:=p) (l:=l) with hk2|hk2
 ·
  obtain ⟨hf1,hfl⟩:=hk2
  refine Qab (Qaa (QaX (V:=I6 (Qen p l)) (V':=I6 (-1)) (Qac (V:=I6 (Qen p l)) rfl ⟨rfl,rfl⟩) (congrArg (Value.int .i64) hf1) (Qaa (QaX (V:=.bool (decide ((-1:Int) = -1))) (V':=.bool true) (QaW rfl rfl ⟨rfl,rfl⟩) (congrArg Value.bool (QQ3 rfl)) (Qae (QcB rfl ?_))))))
  refine Qag (Qab (Qaa (Qac (V:=.slice a l.length c) rfl (Qaa (Qad (V:=.slice a l.length c) rfl (Qae (Qav ?_)))))))
  refine ⟨_,Qaq (V:=.slice a l.length c) Tryz.results67 rfl,?_⟩
  rw [hfl]
  exact ⟨(),rfl,hs.take 1,trivial⟩
 obtain ⟨k0,hf1,hk0l,hpk,hft⟩:=hk2
 refine Qab (Qaa (QaX (V:=I6 (Qen p l)) (V':=I6 (k0:Int)) (Qac (V:=I6 (Qen p l)) rfl ⟨rfl,rfl⟩) (congrArg (Value.int .i64) hf1) (Qaa (QaX (V:=.bool (decide ((k0:Int) = -1))) (V':=.bool false) (QaW rfl rfl ⟨rfl,rfl⟩) (congrArg Value.bool (QQ4 (by omega))) (Qae (Qb1 rfl ?_))))))
 refine Qap (Qag (Qag (Qab (Qaa (QaX (V:=I6 (Qen p l)) (V':=I6 (k0:Int)) (Qac (V:=I6 (Qen p l)) rfl ⟨rfl,rfl⟩) (congrArg (Value.int .i64) hf1) (Qaa (QaD (a:=(k0:Int)) (b:=1) (c:=((k0+1:Nat):Int)) rfl rfl (Qaj (by omega) (by omega)) (Qaa (Qad (V:=I6 ((k0+1:Nat):Int)) rfl (Qae (Qan (QaC (fun J μ J' w'=>∃ (Jo:Env) (i:Nat) (j:Nat) (m:List Int),J'=upd (upd (mix ([5,6,7]++sq 16 20) Jo J) 5 (I6 (i:Int))) 6 (I6 (j:Int))/\(i<j)/\(j<=l.length)/\(Moved p l m i j)/\μ=l.length-j/\Own w S w' [row (.slice a l.length c) (m.map (ic .u16)) 32 1]) ?_ ?_))))))))))))
 ·exact ⟨_,_,k0,k0+1,l,Qak (Qak (Qao (ds:=([5,6,7]++sq 16 20)) (Agr.refl _ _)) (congrArg (Value.int .i64) hf1)) rfl,(by omega),(by omega),(Qf2 hk0l hpk hft),rfl,hs⟩
 rintro μ J' w2 ⟨Jo,i,j,m,rfl,hij,hj,hmv,rfl,hs⟩
 have hml:=hmv.1
 refine Qag (Qag (Qab (Qaa (Qac (V:=I6 (j:Int)) rfl (Qaa (Qac (V:=.slice a l.length c) rfl (Qaa (Qa0 (n:=l.length) QaK (hs.rd 0 rfl) (by simp [hmv.1]) rfl (Qaa (Qa2 rfl rfl (Qae (Qam (t:=decide ((j:Int)<((l.length:Nat):Int))) rfl (fun c3=>?_) (fun c3=>?_)))))))))))))
 ·
  replace c3:=QQ1 c3
  refine Qap (Qag (Qan (Qag (Qab (Qaa (Qac (V:=.slice a l.length c) rfl (Qaa (Qac (V:=I6 (j:Int)) rfl (Qaa (Qaw QaK Qar.1 (hs.rd 0 rfl) rfl rfl (by omega) (by rw [QQ6];omega) (Qaa (QaU (j:=0) (V:=I7 (gd m j)) j Qar (hs.rd 0 rfl) (Qa9 (by omega)) rfl rfl (by omega) (Qaa (Qad (V:=I7 (gd m j)) rfl (Qae (Qag (Qab (Qaa (Qac (V:=.func (.func g) #[] caps.toArray) rfl (Qaa (Qac (V:=I7 (gd m j)) rfl (Qaa (Qe9 (vs:=[I7 (gd m j)]) (cs:=caps) (V:=.bool (p (gd m j))) hg rfl rfl (hp _ _ hs (gd m j) (by rw [hmv.2.2 _ (Nat.le_refl _)];exact Qbz (by omega))) hs fun w4 hs=>(Qaa (Qbx rfl (Qae (Qam (t:=!(p (gd m j))) rfl (fun c5=>?_) (fun c5=>?_))))))))))))))))))))))))))))
  ·
   replace c5:=Qby c5
   refine Qag (Qab (Qaa (Qac (V:=.slice a l.length c) rfl (Qaa (Qac (V:=I6 (i:Int)) rfl (Qaa (Qac (V:=I7 (gd m j)) rfl (Qaa (Qaw QaK Qar.1 (hs.rd 0 rfl) rfl rfl (by omega) (by rw [QQ6];omega) (Qaa (QtE (z:=gd m j) (vs:=[I7 (gd m j)]) i 0 Qar.1 hs 0 rfl rfl (by omega) (by first|omega|(simp only [List.length_set];omega)) rfl rfl rfl rfl (QQ8 rfl) ((Qfk .u16) _) (Qat rfl Qa1) fun w6 hs=>(Qae (Qab (Qaa (Qac (V:=I6 (i:Int)) rfl (Qaa (QaD (a:=(i:Int)) (b:=1) (c:=((i+1:Nat):Int)) rfl rfl (Qaj (by omega) (by omega)) (Qaa (Qad (V:=I6 ((i+1:Nat):Int)) rfl (Qae (Qab (Qaa (Qac (V:=I6 (j:Int)) rfl (Qaa (QaD (a:=(j:Int)) (b:=1) (c:=((j+1:Nat):Int)) rfl rfl (Qaj (by omega) (by omega)) (Qaa (Qad (V:=I6 ((j+1:Nat):Int)) rfl (Qae ?_))))))))))))))))))))))))))))
   refine ⟨_,?_,_,i+1,j+1,m.set i (gd m j),Qak (Qak (Qao (ds:=([5,6,7]++sq 16 20)) (by repeat (first|exact Agr.refl _ _|refine Agr.upd ?_ rfl|refine Agr.mix ?_ rfl))) rfl) rfl,(by omega),(by omega),(QgJ hmv (by omega) (by omega) c5),rfl,hs.take 1⟩
   omega
  replace c5:=Qbr c5
  refine Qap (Qab (Qaa (Qac (V:=I6 (j:Int)) rfl (Qaa (QaD (a:=(j:Int)) (b:=1) (c:=((j+1:Nat):Int)) rfl rfl (Qaj (by omega) (by omega)) (Qaa (Qad (V:=I6 ((j+1:Nat):Int)) rfl (Qae ?_))))))))
  refine ⟨_,?_,_,i,j+1,m,Qak (Qak (Qao (ds:=([5,6,7]++sq 16 20)) (by repeat (first|exact Agr.refl _ _|refine Agr.upd ?_ rfl|refine Agr.mix ?_ rfl))) rfl) rfl,(by omega),(by omega),(Qg5 hmv (by omega) c5),rfl,hs.take 1⟩
  omega
 replace c3:=QQ2 c3
 refine QaJ (Qag (Qab (Qaa (Qac (V:=.slice a l.length c) rfl (Qaa (Qac (V:=I6 (i:Int)) rfl (Qaa (Qk2 (l:=i) (h:=l.length) (m:=c) (n':=(m.drop i).length) QpF Qar.1 (hs.rd 0 rfl) rfl (.inr ⟨_,_,rfl,rfl⟩) (.inl ⟨rfl,rfl⟩) (.inl ⟨rfl,rfl⟩) (by omega) (by omega) (Nat.le_trans (show l.length<=m.length by omega) (Rd.roomM (hs.rd 0 rfl))) (Nat.le_refl _) (by simp only [List.length_take,List.length_drop]<;>omega) ?_))))))))
 refine Qaa (Qkd Qnn hs 0 rfl rfl (by rw [QQ6]<;>omega) (by simp only [QQ6,List.length_drop]<;>omega) (by intro v hv;have e:=Qml hv Qux;subst e;exact (by intro u hu;simp [Value.cells] at hu;subst hu;rfl)) fun w7 hs=>(Qae (Qag (Qab (Qaa (Qac (V:=.slice a l.length c) rfl (Qaa (Qac (V:=I6 (i:Int)) rfl (Qaa (QdI (l:=0) (h:=i) (n':=i) QpF Qar.1 (by omega) rfl (.inl ⟨rfl,rfl⟩) (.inr ⟨_,_,rfl,rfl⟩) (by omega) (by omega) (by omega) (Qaa (Qad (V:=.slice (sla a 0 c 1) i (c-0)) rfl (Qae (Qav ?_))))))))))))))
 refine ⟨_,Qaq (V:=.slice (sla a 0 c 1) i (c-0)) Tryz.results67 rfl,?_⟩
 have he:=Qh7 hmv (by omega)
 have hil:i=(l.filter fun x=>!p x).length:=by rw [← he,List.length_take,hmv.1];omega
 replace hs:=hs.take 1
 simp only [List.set_cons_zero,List.take_succ_cons,List.take_zero,← List.map_take,he] at hs
 rw [← hil]
 refine ⟨(),?_,hs,trivial⟩
 rw [QeU,Nat.sub_zero]
end Tt
end Go.Proofs
namespace Go.Proofs
open Go Go.Vx Go.RowKit
namespace Tt
theorem Qtk (w:World) (n:Int) (bs bn bi:Nat) (s:Sta) (a1:Option Addr) (c1:Nat) (a2:Option Addr) (c2:Nat) (now idle:Int) (hnw:0<=idle/\idle<=now/\now<4294967296) (hok:Qdq s) (hle:s.ents.length<=1000) (hlt:s.ticks.length<=1000) (hcs:Qb5 w bs ((vc s.known)++[(.slice a1 s.ents.length c1:Value),(.slice a2 s.ticks.length c2:Value) ])) (hcn:Qb5 w bn [(.int .u32 now:Value)]) (hci:Qb5 w bi [(.int .u32 idle:Value)]) (hr1:Rd w (.slice a1 s.ents.length c1) 7 (s.ents.map cec)) (hr2:Rd w (.slice a2 s.ticks.length c2) 2 (s.ticks.map lsc)):Calls Tryz.prog 68 #[.int .u16 n,.pointer (some ⟨bs,0,none⟩),.pointer (some ⟨bn,0,none⟩),.pointer (some ⟨bi,0,none⟩)] w (fun e w'=>e = .returned (.bool (Qfa (QaI s n (Qau s)) now idle))/\Own w no w' []):=by
 refine Qai (n:=26) Tryz.func68 rfl Tryz.ntmps68 rfl ?_
 have hs:=Own.start w
 have ⟨hnw1,hnw2,hnw3⟩:=hnw
 refine Qag (Qab (Qaa (Qad (V:=.bool false) rfl (Qae (Qag (Qab (Qaa (Qmj (vs:=(vc s.known)++[(.slice a1 s.ents.length c1:Value),(.slice a2 s.ticks.length c2:Value) ]) QbS (hcs.own' hs) rfl rfl rfl (Qaa (Qac (V:=I7 n) rfl (Qaa (Qbm (α:=Option Addr × Nat) (vs:=[.agg ((vc s.known)++[(.slice a1 s.ents.length c1:Value),(.slice a2 s.ticks.length c2:Value) ]).toArray,I7 n]) (V:=fun x=>.agg #[I7 ((QaI s n (Qau s)).cart),.slice x.1 (((QaI s n (Qau s)).lines).length) x.2,.bool ((QaI s n (Qau s)).out),.int .u32 ((QaI s n (Qau s)).tick)]) (Lo:=fun x=>[row (.slice x.1 ((QaI s n (Qau s)).lines).length x.2) (((QaI s n (Qau s)).lines).map lc) 127 2]) (F:=fun _ _=>True) QoS rfl rfl ?hc hs fun x2 w1 hs _=>?_))))))))))))
 case hc=>exact (QeN _ s a1 c1 a2 c2 n (QaI s n (Qau s):Vw) (rfl) hok hle hlt (Rd.own' hr1 hs) (Rd.own' hr2 hs))
 refine Qaa (QaL (cs:=[I7 0,.slice none 0 0,.bool false,.int .u32 0]) QiW rfl hs fun b3 w4 hs=>(Qaa (QcG (V:=.agg #[I7 ((QaI s n (Qau s)).cart),.slice x2.1 (((QaI s n (Qau s)).lines).length) x2.2,.bool ((QaI s n (Qau s)).out),.int .u32 ((QaI s n (Qau s)).tick)]) (vs:=[I7 ((QaI s n (Qau s)).cart),.slice x2.1 (((QaI s n (Qau s)).lines).length) x2.2,.bool ((QaI s n (Qau s)).out),.int .u32 ((QaI s n (Qau s)).tick)]) (cs':=[I7 ((QaI s n (Qau s)).cart),.slice x2.1 (((QaI s n (Qau s)).lines).length) x2.2,.bool ((QaI s n (Qau s)).out),.int .u32 ((QaI s n (Qau s)).tick)]) Qeu.1 hs 1 rfl rfl rfl rfl rfl (QQ8 rfl) (Qat rfl (Qat rfl (Qat rfl (Qat rfl Qa1)))) (Qaz rfl) fun w5 hs=>(Qae (Qag (Qbq [some 10,some 11,some 12,some 13,some 14,some 15,some 16,some 17,some 18,some 19,some 20,some 21,some 22,some 23,some 24,some 25,some 5] [] [0,1,3,7,15,31,63,127,255,511,1023,511,511,6655,16383,32767,65535] [pv (Pq b3 (0+1)),pv (.slice x2.1 (((QaI s n (Qau s)).lines).length) x2.2),pv (I6 ((((QaI s n (Qau s)).lines).length:Nat):Int)),pv (.bool (decide (((((QaI s n (Qau s)).lines).length:Nat):Int)=0))),pv (.bool (decide (((((QaI s n (Qau s)).lines).length:Nat):Int)=0))),pg ((decide (((((QaI s n (Qau s)).lines).length:Nat):Int)=0)) == false) (Pq b3 (0+2)),pg ((decide (((((QaI s n (Qau s)).lines).length:Nat):Int)=0)) == false) (.bool ((QaI s n (Qau s)).out)),pv (.bool ((decide (((((QaI s n (Qau s)).lines).length:Nat):Int)=0))||((QaI s n (Qau s)).out))),pv (.bool ((decide (((((QaI s n (Qau s)).lines).length:Nat):Int)=0))||((QaI s n (Qau s)).out))),pg (((decide (((((QaI s n (Qau s)).lines).length:Nat):Int)=0))||((QaI s n (Qau s)).out)) == false) (Pq b3 (0+3)),pg (((decide (((((QaI s n (Qau s)).lines).length:Nat):Int)=0))||((QaI s n (Qau s)).out)) == false) (.int .u32 ((QaI s n (Qau s)).tick)),pg (((decide (((((QaI s n (Qau s)).lines).length:Nat):Int)=0))||((QaI s n (Qau s)).out)) == false) (.int .u32 now),pg (((decide (((((QaI s n (Qau s)).lines).length:Nat):Int)=0))||((QaI s n (Qau s)).out)) == false) (.int .u32 idle),pg (((decide (((((QaI s n (Qau s)).lines).length:Nat):Int)=0))||((QaI s n (Qau s)).out)) == false) (.int .u32 (now-idle)),pg (((decide (((((QaI s n (Qau s)).lines).length:Nat):Int)=0))||((QaI s n (Qau s)).out)) == false) (.bool (decide (now-idle<(QaI s n (Qau s)).tick))),pv (.bool (((decide (((((QaI s n (Qau s)).lines).length:Nat):Int)=0))||((QaI s n (Qau s)).out))||(decide (now-idle<(QaI s n (Qau s)).tick)))),pv (.bool (((decide (((((QaI s n (Qau s)).lines).length:Nat):Int)=0))||((QaI s n (Qau s)).out))||(decide (now-idle<(QaI s n (Qau s)).tick))))] (fun _ _=>_) [16] (by kernel_rfl) hs ⟨?_,?_,?_,?_,?_,?_,?_,?_,?_,?_,?_,?_,?_,?_,?_,?_,?_,trivial⟩ ?_))))))
 ·exact oa [] fun D J w hs=>Qaf Qeo rfl (Zz hs)
 ·exact oa [0] fun D J w hs=>QaP (V:=.slice x2.1 (((QaI s n (Qau s)).lines).length) x2.2) Qi9 hs 1 rfl rfl rfl (Zz hs)
 ·exact oa [1] fun D J w hs=>Qa0 (n:=((QaI s n (Qau s)).lines).length) Qdx (hs.rd 0 rfl) (by simp) rfl (Zz hs)
 ·exact oa [2] fun D J w hs=>QaW rfl rfl (Zz hs)
 ·exact oa [3] fun D J w hs=>Qac (V:=.bool (decide (((((QaI s n (Qau s)).lines).length:Nat):Int)=0))) rfl (Zz hs)
 ·exact og [4] fun D J w hG hs=>Qaf Qek rfl (Zz hs)
 ·exact oy [4,5] [5] fun D J w hG hs=>QaP (V:=.bool ((QaI s n (Qau s)).out)) Qrs hs 1 rfl rfl rfl (Zz hs)
 ·exact oa [4,6] fun D J w hs=>Qb2 (h':=(QaI s n (Qau s)).out) rfl rfl rfl (Zz hs)
 ·exact oa [7] fun D J w hs=>Qac (V:=.bool ((decide (((((QaI s n (Qau s)).lines).length:Nat):Int)=0))||((QaI s n (Qau s)).out))) rfl (Zz hs)
 ·exact og [8] fun D J w hG hs=>Qaf QiE rfl (Zz hs)
 ·exact oy [8,9] [9] fun D J w hG hs=>QaP (V:=.int .u32 ((QaI s n (Qau s)).tick)) QaN hs 1 rfl rfl rfl (Zz hs)
 ·exact og [8] fun D J w hG hs=>QnR (V:=.int .u32 now) QaN (hcn.own' hs) rfl rfl (Zz hs)
 ·exact og [8] fun D J w hG hs=>QnR (V:=.int .u32 idle) QaN (hci.own' hs) rfl rfl (Zz hs)
 ·exact oy [8,11,12] [11,12] fun D J w hG hs=>Qa3 (a:=now) (b:=idle) (c:=now-idle) rfl rfl (Qgt (by omega) (by omega)) (Zz hs)
 ·exact oy [8,10,13] [10,13] fun D J w hG hs=>QbU rfl rfl (Zz hs)
 ·exact oa [8,14] fun D J w hs=>Qb2 (h':=decide (now-idle<(QaI s n (Qau s)).tick)) rfl rfl rfl (Zz hs)
 ·exact oa [15] fun D J w hs=>Qad (V:=.bool (((decide (((((QaI s n (Qau s)).lines).length:Nat):Int)=0))||((QaI s n (Qau s)).out))||(decide (now-idle<(QaI s n (Qau s)).tick)))) rfl (Zz hs)
 rintro J1 w6 J2 hJ hs
 replace hJ:J2=upd (mix (sq 10 16++[5]) J1 _) 5 (.bool (((decide (((((QaI s n (Qau s)).lines).length:Nat):Int)=0))||((QaI s n (Qau s)).out))||(decide (now-idle<(QaI s n (Qau s)).tick)))):=hJ
 subst hJ
 refine Qav ?_
 refine ⟨_,Qaq (V:=.bool (((decide (((((QaI s n (Qau s)).lines).length:Nat):Int)=0))||((QaI s n (Qau s)).out))||(decide (now-idle<(QaI s n (Qau s)).tick)))) Tryz.results68 rfl,(Zr hs ?_)⟩
 rfl
end Tt
end Go.Proofs
namespace Go.Proofs
open Go Go.Vx Go.RowKit
namespace Tt
theorem Ql2 (w:World) (p:Pst) (a1:Option Addr) (c1:Nat) (a2:Option Addr) (c2:Nat) (a3:Option Addr) (c3:Nat) (cut:Vec) (hcut:QbR cut) (now idle:Int) (hb2:(0<=now/\now<4294967296)/\0<=idle) (hsortE:Qgx Tryz.prog 48 49 cec 106 7 Qj4) (hsortU:Qgz Tryz.prog 134 .u16 32) (hok:QeV p) (hle:p.base.ents.length<=400) (hlt:p.base.ticks.length<=400) (hlo:p.ops.length<=400) (hr1:Rd w (.slice a1 p.base.ents.length c1) 7 (p.base.ents.map cec)) (hr2:Rd w (.slice a2 p.base.ticks.length c2) 2 (p.base.ticks.map lsc)) (hr3:Rd w (.slice a3 p.ops.length c3) 23 (p.ops.map oc)):Calls Tryz.prog 25 #[.agg (((vc p.base.known)++[(.slice a1 p.base.ents.length c1:Value),(.slice a2 p.base.ticks.length c2:Value) ])++[(.slice a3 p.ops.length c3:Value) ]++(vc p.known)).toArray,.agg (vc cut).toArray,.int .u32 now,.int .u32 idle] w (fun e w'=>∃ x:Option Addr × Nat,e = .returned (.tuple #[.slice x.1 (abR p cut now idle).length x.2,.int .i64 (abI p cut now idle)])/\Own w no w' [row (.slice x.1 (abR p cut now idle).length x.2) ((abR p cut now idle).map (ic .u16)) 32 1]/\True):=by
 refine Qai (n:=30) Tryz.func25 rfl Tryz.ntmps25 rfl ?_
 have hs:=Own.start w
 have ⟨hokb,hoko,hokk⟩:=hok
 have hsl:=Qc2 p cut
 have hso:=QeH (cut:=cut) hok hcut
 have hcl:=QfY (Qah p cut)
 refine Qag (Qab (Qaa (Qa4 (V:=.agg (((vc p.base.known)++[(.slice a1 p.base.ents.length c1:Value),(.slice a2 p.base.ticks.length c2:Value) ])++[(.slice a3 p.ops.length c3:Value) ]++(vc p.known)).toArray) (cs:=((vc p.base.known)++[(.slice a1 p.base.ents.length c1:Value),(.slice a2 p.base.ticks.length c2:Value) ])++[(.slice a3 p.ops.length c3:Value) ]++(vc p.known)) rfl rfl hs fun b1 w2 hs=>(Qaa (Qa4 (V:=.agg (vc cut).toArray) (cs:=vc cut) rfl rfl hs fun b3 w4 hs=>(Qaa (Qa4 (V:=.int .u32 now) (cs:=[.int .u32 now]) rfl rfl hs fun b5 w6 hs=>(Qaa (Qa4 (V:=.int .u32 idle) (cs:=[.int .u32 idle]) rfl rfl hs fun b7 w8 hs=>?_)))))))))
 replace hs:Own w no w8 [blk b1 (((vc p.base.known)++[(.slice a1 p.base.ents.length c1:Value),(.slice a2 p.base.ticks.length c2:Value) ])++[(.slice a3 p.ops.length c3:Value) ]++(vc p.known)) 43,blk b3 (vc cut) 24,blk b5 [.int .u32 now] 22,blk b7 [.int .u32 idle] 22]:=hs
 refine Qaa (Qad (V:=.slice none 0 0) rfl (Qaa (Qad (V:=I6 0) rfl (Qae (Qag (Qab (Qaa (QaO (cs:=((vc p.base.known)++[(.slice a1 p.base.ents.length c1:Value),(.slice a2 p.base.ticks.length c2:Value) ])++[(.slice a3 p.ops.length c3:Value) ]++(vc p.known)) QcV hs 0 rfl rfl rfl (Qaa (QaO (cs:=vc cut) Qbu hs 1 rfl rfl rfl (Qaa (Qbm (α:=(Option Addr × Nat) × (Option Addr × Nat)) (vs:=[.agg (((vc p.base.known)++[(.slice a1 p.base.ents.length c1:Value),(.slice a2 p.base.ticks.length c2:Value) ])++[(.slice a3 p.ops.length c3:Value) ]++(vc p.known)).toArray,.agg (vc cut).toArray]) (V:=fun x:(Option Addr × Nat) × (Option Addr × Nat)=>.tuple #[.agg (vc (Qah p cut).known++[(.slice x.1.1 ((Qah p cut).ents).length x.1.2:Value),(.slice x.2.1 ((Qah p cut).ticks).length x.2.2:Value)]).toArray,I6 (Qbp p cut)]) (Lo:=fun x=>[row (.slice x.1.1 ((Qah p cut).ents).length x.1.2) (((Qah p cut).ents).map cec) 106 7,row (.slice x.2.1 ((Qah p cut).ticks).length x.2.2) (((Qah p cut).ticks).map lsc) 102 2]) (F:=fun _ _=>True) Qlv rfl rfl ?hc hs fun x10 w9 hs _=>?_))))))))))))
 case hc=>exact (QdW _ p a1 c1 a2 c2 a3 c3 cut hcut hsortE hsortU hok hle hlt hlo (Rd.own' hr1 hs) (Rd.own' hr2 hs) (Rd.own' hr3 hs))
 refine Qaa (Qac (V:=.tuple #[.agg ((vc ((Qah p cut).known))++[(.slice x10.1.1 (((Qah p cut).ents).length) x10.1.2:Value),(.slice x10.2.1 (((Qah p cut).ticks).length) x10.2.2:Value) ]).toArray,I6 (Qbp p cut)]) rfl (Qaa (Qax (V:=.agg ((vc ((Qah p cut).known))++[(.slice x10.1.1 (((Qah p cut).ents).length) x10.1.2:Value),(.slice x10.2.1 (((Qah p cut).ticks).length) x10.2.2:Value) ]).toArray) rfl rfl (Qaa (Qax (V:=I6 (Qbp p cut)) rfl rfl (Qaa (QaL (cs:=(vc vzero)++[(.slice none 0 0:Value),(.slice none 0 0:Value) ]) Qfr rfl hs fun b11 w12 hs=>(Qaa (QcG (V:=.agg ((vc ((Qah p cut).known))++[(.slice x10.1.1 (((Qah p cut).ents).length) x10.1.2:Value),(.slice x10.2.1 (((Qah p cut).ticks).length) x10.2.2:Value) ]).toArray) (vs:=(vc ((Qah p cut).known))++[(.slice x10.1.1 (((Qah p cut).ents).length) x10.1.2:Value),(.slice x10.2.1 (((Qah p cut).ticks).length) x10.2.2:Value) ]) (cs':=(vc ((Qah p cut).known))++[(.slice x10.1.1 (((Qah p cut).ents).length) x10.1.2:Value),(.slice x10.2.1 (((Qah p cut).ticks).length) x10.2.2:Value) ]) QbS.1 hs 6 rfl rfl rfl rfl rfl (QQ8 rfl) (Qbh (QbQ _) (Qat rfl (Qat rfl Qa1))) (Qaz rfl) fun w13 hs=>(Qaa (Qad (V:=I6 (Qbp p cut)) rfl (Qae (Qag (Qan (Qag (Qab (Qaa (Qac (V:=I6 (Qbp p cut)) rfl (Qaa (QcC rfl rfl (Qaa (Qad (V:=.bool (!decide (Qbp p cut=0))) rfl (Qae (Qam (t:=!decide (Qbp p cut=0)) rfl (fun c14=>?_) (fun c14=>?_)))))))))))))))))))))))))
 ·
  replace c14:=Qby c14
  replace c14:=QQ2 c14
  refine Qag (Qab (Qaa (Qac (V:=I6 (Qbp p cut)) rfl (Qaa (Qad (V:=.slice none 0 0) rfl (Qaa (Qad (V:=I6 (Qbp p cut)) rfl (Qae (Qav ?_)))))))))
  refine ⟨_,QbF (U:=.slice none 0 0) (V:=I6 (Qbp p cut)) Tryz.results25 rfl rfl,?_⟩
  have hX:abI p cut now idle=Qbp p cut:=Qum c14
  rw [Qo3 (by rw [hX];exact c14),hX]
  exact ⟨(none,0),rfl,(hs.take 0).more _ (Qba _ _ _ _),trivial⟩
 replace c14:=Qbr c14
 replace c14:=QQ1 c14
 refine Qag (Qab (Qaa (QaP (V:=.int .u32 idle) QaN hs 3 rfl rfl rfl (Qaa (QaP (V:=.int .u32 now) QaN hs 2 rfl rfl rfl (Qaa (QbU rfl rfl (Qaa (Qad (V:=.bool (decide (now<idle))) rfl (Qae (Qam (t:=decide (now<idle)) rfl (fun c15=>?_) (fun c15=>?_))))))))))))
 ·
  replace c15:=QQ1 c15
  refine Qag (Qab (Qaa (Qad (V:=.slice none 0 0) rfl (Qaa (Qad (V:=I6 2) rfl (Qae (Qav ?_)))))))
  refine ⟨_,QbF (U:=.slice none 0 0) (V:=I6 2) Tryz.results25 rfl rfl,?_⟩
  have hX:abI p cut now idle=2:=QuU c14 c15
  rw [Qo3 (by rw [hX];decide),hX]
  exact ⟨(none,0),rfl,(hs.take 0).more _ (Qba _ _ _ _),trivial⟩
 replace c15:=QQ2 c15
 refine Qap (Qag ?_)
 have hnow:0<=idle/\idle<=now/\now<4294967296:=by omega
 refine Qab (Qaa (QaO (cs:=(vc ((Qah p cut).known))++[(.slice x10.1.1 (((Qah p cut).ents).length) x10.1.2:Value),(.slice x10.2.1 (((Qah p cut).ticks).length) x10.2.2:Value) ]) QbS hs 6 rfl rfl rfl (Qaa (Qbm (vs:=[.agg ((vc ((Qah p cut).known))++[(.slice x10.1.1 (((Qah p cut).ents).length) x10.1.2:Value),(.slice x10.2.1 (((Qah p cut).ticks).length) x10.2.2:Value) ]).toArray]) (V:=fun x:Option Addr × Nat=>.slice x.1 (Qay (Qah p cut)).length x.2) QsG rfl rfl (QhP _ (Qah p cut) x10.1.1 x10.1.2 x10.2.1 x10.2.2 hso (by omega) (by omega) (hs.rd 4 rfl) (hs.rd 5 rfl)) hs fun x16 w17 hs _=>?_))))
 replace hs:Own w no w17 [blk b1 (((vc p.base.known)++[(.slice a1 p.base.ents.length c1:Value),(.slice a2 p.base.ticks.length c2:Value) ])++[(.slice a3 p.ops.length c3:Value) ]++(vc p.known)) 43,blk b3 (vc cut) 24,blk b5 [.int .u32 now] 22,blk b7 [.int .u32 idle] 22,row (.slice x10.1.1 (((Qah p cut).ents).length) x10.1.2) (((Qah p cut).ents).map cec) 106 7,row (.slice x10.2.1 (((Qah p cut).ticks).length) x10.2.2) (((Qah p cut).ticks).map lsc) 102 2,blk b11 ((vc ((Qah p cut).known))++[(.slice x10.1.1 (((Qah p cut).ents).length) x10.1.2:Value),(.slice x10.2.1 (((Qah p cut).ticks).length) x10.2.2:Value) ]) 38,row (.slice x16.1 ((Qay (Qah p cut)).length) x16.2) ((Qay (Qah p cut)).map (ic .u16)) 32 1]:=hs
 refine Qaa (QcX (cs:=[Pq b11 0,Pq b5 0,Pq b7 0]) rfl rfl (Qaa (Qjl (α:=Unit) (vs:=[.slice x16.1 ((Qay (Qah p cut)).length) x16.2,.func (.func 68) #[] #[Pq b11 0,Pq b5 0,Pq b7 0]]) (V:=fun _=>.slice x16.1 ((Qay (Qah p cut)).filter fun x=>!(fun n=>Qfa (Qa5 p cut n) now idle) x).length x16.2) (R:=row (.slice x16.1 ((Qay (Qah p cut)).length) x16.2) ((Qay (Qah p cut)).map (ic .u16)) 32 1) (R':=fun _=>row (.slice x16.1 ((Qay (Qah p cut)).filter fun x=>!(fun n=>Qfa (Qa5 p cut n) now idle) x).length x16.2) (((Qay (Qah p cut)).filter fun x=>!(fun n=>Qfa (Qa5 p cut n) now idle) x).map (ic .u16)) 32 1) (Lo:=fun _=>[]) (F:=fun _ _=>True) QuA rfl rfl hs 7 rfl (fun S hS hlS hK=>QnE _ S x16.1 x16.2 (Qay (Qah p cut)) 68 [Pq b11 0,Pq b5 0,Pq b7 0] QuJ (fun n=>Qfa (Qa5 p cut n) now idle) (fun w1 L1 h x hx=>Qtk w1 x b11 b5 b7 (Qah p cut) x10.1.1 x10.1.2 x10.2.1 x10.2.2 now idle hnow hso (by omega) (by omega) ((hK 6 (by decide) _ rfl).cells h) ((hK 2 (by decide) _ rfl).cells h) ((hK 3 (by decide) _ rfl).cells h) ((hK 4 (by decide) _ rfl).rd h) ((hK 5 (by decide) _ rfl).rd h)) hS hlS) fun _ w18 hs _=>(Qaa (Qad (V:=.slice x16.1 (((Qay (Qah p cut)).filter fun x=>!(fun n=>Qfa (Qa5 p cut n) now idle) x).length) x16.2) rfl (Qaa (Qad (V:=I6 0) rfl (Qae (Qav ?_)))))))))
 refine ⟨_,QbF (U:=.slice x16.1 (((Qay (Qah p cut)).filter fun x=>!(fun n=>Qfa (Qa5 p cut n) now idle) x).length) x16.2) (V:=I6 0) Tryz.results25 rfl rfl,?_⟩
 have hX:abI p cut now idle=0:=QtS c14 c15
 rw [QgW hX,hX]
 exact ⟨(x16.1,x16.2),rfl,hs.only 7 rfl,trivial⟩
end Tt
end Go.Proofs
namespace Go.Proofs
open Go Go.Vx Go.RowKit
namespace Tt
theorem QfD (w:World) (S:Nat->Prop) (b:Nat) (L:List Dif) (x:Dif) (hR:(Qeg 60 83 b L).holds w S) (hlS:∀ x,S x->x<w.heap.size) (hL:L.length<=100000000):Calls Tryz.prog 65 #[.agg (dfc x).toArray,.pointer (some ⟨b,0,none⟩)] w (fun e w'=>∃ x_:Unit,e = .returned (.tuple #[])/\Own w S w' [Qeg 60 83 b (L++[x])]/\True):=by
 refine Qai (n:=7) Tryz.func65 rfl Tryz.ntmps65 rfl ?_
 obtain ⟨a0,c0,hs⟩:=QoU hR hlS
 refine Qag (Qab (Qaa (Qa4 (V:=.agg (dfc x).toArray) (cs:=dfc x) rfl rfl hs fun b1 w2 hs=>(Qae (Qab (Qaa (QaP (V:=.slice a0 L.length c0) QqN hs 0 rfl rfl rfl (Qaa (QaO (cs:=dfc x) QiU hs 2 rfl rfl rfl (Qaa (QhI (vals:=[.agg (dfc x).toArray]) (ls:=List.map dfc ([x]:List Dif)) Qsm rfl rfl rfl (Qbj (enc:=dfc) (fun _=>rfl) _) (QaV Qjd _) (QQ8 rfl) hs fun b3 w4 hs=>(Qaa (Qdb (ls':=(L++[x]).map dfc) (n:=(L++[x]).length) Qsm hs 1 rfl rfl rfl (hs.rd 3 rfl) (QaV Qjd _) (by simp only [QQ6,QQ7,List.length_cons,List.length_nil];omega) (by simp) (by simp) fun a5 c5 w6 hs=>(Qaa (QcQ (V:=.slice a5 ((L++[x]).length) c5) (cs':=[.slice a5 ((L++[x]).length) c5]) QqN hs 0 rfl rfl rfl rfl (QQ8 rfl) rfl fun w7 hs=>?_)))))))))))))))
 replace hs:Own w S w7 [blk b [.slice a5 ((L++[x]).length) c5] 60,row (.slice a5 ((L++[x]).length) c5) ((L++[x]).map dfc) 83 5,blk b1 (dfc x) 83,row (.slice (some ⟨b3,0,none⟩) 1 1) ([x].map dfc) 83 5]:=hs
 refine Qae ?_
 refine ⟨_,Qbd Tryz.results65,?_⟩
 exact ⟨(),rfl,Qpk (hs.two 0 1 (by decide) rfl rfl),trivial⟩
end Tt
end Go.Proofs
