/- A part of a proof: what functions of the program compute, and plain facts on that. -/
import Derived.Test.YtbjbjboehjdcaaaGreatCutsFoldP4
set_option linter.unusedVariables false
set_option linter.unusedSimpArgs false
set_option maxHeartbeats 4000000
set_option maxRecDepth 100000
namespace Go.Proofs
open Go Go.Vx Go.RowKit
open Tryz
namespace Tt
theorem QmK (w:World) (p:Pst) (a1:Option Addr) (c1:Nat) (a2:Option Addr) (c2:Nat) (a3:Option Addr) (c3:Nat) (hok:Qee p) (hle:p.base.ents.length<=400) (hlt:p.base.ticks.length<=400) (hlo:p.ops.length<=400) (hr1:Rd w (.slice a1 p.base.ents.length c1) 7 (p.base.ents.map cec)) (hr2:Rd w (.slice a2 p.base.ticks.length c2) 2 (p.base.ticks.map lsc)) (hr3:Rd w (.slice a3 p.ops.length c3) 23 (p.ops.map oc)):Calls prog 59 #[.agg (((vc p.base.known)++[(.slice a1 p.base.ents.length c1:Value),(.slice a2 p.base.ticks.length c2:Value) ])++[(.slice a3 p.ops.length c3:Value) ]++(vc p.known)).toArray] w (fun e w'=>e = .returned (.bool (Qcy p))/\Own w no w' []):=by
 refine Qah (n:=45) func59 rfl ntmps59 rfl ?_
 have Y:=Own.start w
 have ⟨hokb,hoko,hokk⟩:=hok
 have hn3:=hr3.sml
 refine Qae (Qab (Qaa (QaY (V:=.agg (((vc p.base.known)++[(.slice a1 p.base.ents.length c1:Value),(.slice a2 p.base.ticks.length c2:Value) ])++[(.slice a3 p.ops.length c3:Value) ]++(vc p.known)).toArray) (cs:=((vc p.base.known)++[(.slice a1 p.base.ents.length c1:Value),(.slice a2 p.base.ticks.length c2:Value) ])++[(.slice a3 p.ops.length c3:Value) ]++(vc p.known)) rfl rfl Y fun b1 w2 Y=>(Qaa (Qam (.bool false) (Qad (Qae (Qab (Qaa (QfJ rfl Y dv uv fun mr3 w4 Y=>(Qaa (Qam (.map (some mr3)) (Qad (Qae (Qae (Qab (Qaa (Qac QiA rfl (Qaa (QaN (.slice a3 p.ops.length c3) Qj5 Y 0 (Qaa (Qa5 (n:=p.ops.length) QbG (Rd.own' hr3 Y) (by simp) rfl (Qaa (Qaf (I6 0) (Qad (Qal (QaE (fun J μ J' w'=>∃ (Jo:Env) (k:Nat) (sm:List (Dot × Unit)),J'=upd (mix ([2,5,6,7]++sq 12 30) Jo J) 12 (I6 (k:Int))/\(k<=p.ops.length)/\(∀ j:Nat,j<k->Qld p.base.known p.ops j=false)/\(sm=QiF (p.ops.take k))/\μ=p.ops.length-k/\Own w no w' [blk b1 (((vc p.base.known)++[(.slice a1 p.base.ents.length c1:Value),(.slice a2 p.base.ticks.length c2:Value) ])++[(.slice a3 p.ops.length c3:Value) ]++(vc p.known)) 43,QfC mr3 dv uv sm]) ?_ ?_)))))))))))))))))))))))))))
 ·exact ⟨_,_,0,[],Qai (Qao (ds:=([2,5,6,7]++sq 12 30)) (Agr.refl _ _)) rfl,(by omega),(fun j hj=>absurd hj (Nat.not_lt_zero j)),rfl,rfl,Y⟩
 rintro μ J' w5 ⟨Jo,k,sm,rfl,hk,hbo,hsm,rfl,Y⟩
 refine Qae (Qab (Qaa (Qa0 rfl rfl (Qad (Qae (Qak (t:=decide ((k:Int)<((p.ops.length:Nat):Int))) rfl (fun c6=>?_) (fun c6=>?_)))))))
 ·
  replace c6:=QQ1 c6
  refine Qap (Qae (Qal (Qae (Qab (Qaa (Qax QbG Qa3.1 (Rd.own' hr3 Y) rfl rfl (by omega) (by rw [QQ6];omega) (Qaa (Qa9 (j:=0) (vs:=oc (gd p.ops k)) k Qa3 (Rd.own' hr3 Y) (Qa4 (by omega)) rfl rfl rfl (by omega) (Qaa (QaJ (cs:=oc (⟨(⟨0,0⟩:Dot),0,0,0,0,0,vzero⟩:Opn)) QhZ rfl Y fun b7 w8 Y=>(Qaa (Qcz (V:=.agg (oc (gd p.ops k)).toArray) (vs:=oc (gd p.ops k)) (cs':=oc (gd p.ops k)) Qa3.1 Y 2 rfl rfl rfl rfl rfl (QQ8 rfl) (QcX _) (Qaz rfl) fun w9 Y=>?_))))))))))))
  replace Y:=Ow [blk b1 (((vc p.base.known)++[(.slice a1 p.base.ents.length c1:Value),(.slice a2 p.base.ticks.length c2:Value) ])++[(.slice a3 p.ops.length c3:Value) ]++(vc p.known)) 43,QfC mr3 dv uv sm,blk b7 (oc (gd p.ops k)) 98] Y
  refine Qad (Qae ?_)
  have hOk:=hoko _ (Qbo (l:=p.ops) (i:=k) (by omega))
  have hdk:=hOk.1
  refine Qab (Qaa (Qaf (.map (some mr3)) (Qaa (Qac Qa7 rfl (Qaa (QbT (vs:=dc ((gd p.ops k).dot)) QcV Y 2 rfl rfl rfl rfl (Qaa (QgU (k:=(gd p.ops k).dot) QkR Qqf Qky (Y.mapf 1 rfl) rfl rfl (Qaa (Qaf (.tuple #[.agg #[],.bool ((mget ((gd p.ops k).dot) sm).isSome)]) (Qaa (QaC (V:=.agg #[]) rfl rfl (Qaa (QaC (V:=.bool ((mget ((gd p.ops k).dot) sm).isSome)) rfl rfl (Qaa (QaJ (cs:=[]) Qky rfl Y fun b10 w11 Y=>(Qaa (Qcz (V:=.agg #[]) (vs:=[]) (cs':=[]) Qrq.1 Y 3 rfl rfl rfl rfl rfl (QQ8 rfl) Qa2 (Qaz rfl) fun w12 Y=>(Qaa (Qam (.bool ((mget ((gd p.ops k).dot) sm).isSome)) (Qad (Qae (Qae (Qbv (so 23 14) [] [0,1,3,7,15,31,63,127,255,511,127,1151,4095,8191] [pv (.bool ((mget ((gd p.ops k).dot) sm).isSome)),pv (.bool ((mget ((gd p.ops k).dot) sm).isSome)),pg (((mget ((gd p.ops k).dot) sm).isSome) == false) (.agg (oc (gd p.ops k)).toArray),pg (((mget ((gd p.ops k).dot) sm).isSome) == false) (.bool (Qbh (gd p.ops k) 16)),pg (((mget ((gd p.ops k).dot) sm).isSome) == false) (.bool (!(Qbh (gd p.ops k) 16))),pv (.bool (((mget ((gd p.ops k).dot) sm).isSome)||(!(Qbh (gd p.ops k) 16)))),pv (.bool (((mget ((gd p.ops k).dot) sm).isSome)||(!(Qbh (gd p.ops k) 16)))),pg ((((mget ((gd p.ops k).dot) sm).isSome)||(!(Qbh (gd p.ops k) 16))) == false) (Pq b1 (0+0)),pg ((((mget ((gd p.ops k).dot) sm).isSome)||(!(Qbh (gd p.ops k) 16))) == false) (Pq b1 (0+0+0)),pg ((((mget ((gd p.ops k).dot) sm).isSome)||(!(Qbh (gd p.ops k) 16))) == false) (.agg (vc p.base.known).toArray),pg ((((mget ((gd p.ops k).dot) sm).isSome)||(!(Qbh (gd p.ops k) 16))) == false) (Pq b7 (0+0)),pg ((((mget ((gd p.ops k).dot) sm).isSome)||(!(Qbh (gd p.ops k) 16))) == false) (.agg (dc ((gd p.ops k).dot)).toArray),pg ((((mget ((gd p.ops k).dot) sm).isSome)||(!(Qbh (gd p.ops k) 16))) == false) (.bool (QbD p.base.known ((gd p.ops k).dot))),pv (.bool ((((mget ((gd p.ops k).dot) sm).isSome)||(!(Qbh (gd p.ops k) 16)))||(QbD p.base.known ((gd p.ops k).dot))))] (fun _ _=>_) [13] (by kernel_rfl) Y ⟨?_,?_,?_,?_,?_,?_,?_,?_,?_,?_,?_,?_,?_,?_,trivial⟩ ?_))))))))))))))))))))))))
  ·exact oi [] fun Y=>Qaf (.bool ((mget ((gd p.ops k).dot) sm).isSome)) (Zz Y)
  ·exact oi [0] fun Y=>Qaf (.bool ((mget ((gd p.ops k).dot) sm).isSome)) (Zz Y)
  ·exact ogi [1] fun hG Y=>QaK (cs:=oc (gd p.ops k)) Qa3 Y 2 rfl rfl rfl (Zz Y)
  ·exact oyi [1,2] [2] fun hG Y=>Qas (vs:=[.agg (oc (gd p.ops k)).toArray,.int .i64 16]) (V:=.bool (Qbh (gd p.ops k) 16)) Qr2 rfl rfl (QiQ _ (gd p.ops k) 16 (by assumption)) Y fun _ Y=>Zz Y
  ·exact oyi [1,3] [3] fun hG Y=>QbB rfl (Zz Y)
  ·exact oi [1,4] fun Y=>QbP (h':=!(Qbh (gd p.ops k) 16)) rfl rfl rfl (Zz Y)
  ·exact oi [5] fun Y=>Qaf (.bool (((mget ((gd p.ops k).dot) sm).isSome)||(!(Qbh (gd p.ops k) 16)))) (Zz Y)
  ·exact ogi [6] fun hG Y=>Qac Qe4 rfl (Zz Y)
  ·exact oyi [6,7] [7] fun hG Y=>Qac Qeo rfl (Zz Y)
  ·exact oyi [6,8] [8] fun hG Y=>QbT (vs:=vc p.base.known) QbC Y 0 rfl rfl rfl rfl (Zz Y)
  ·exact ogi [6] fun hG Y=>Qac Qa7 rfl (Zz Y)
  ·exact oyi [6,10] [10] fun hG Y=>QbT (vs:=dc ((gd p.ops k).dot)) QcV Y 2 rfl rfl rfl rfl (Zz Y)
  ·exact oyi [6,9,11] [9,11] fun hG Y=>Qas (vs:=[.agg (vc p.base.known).toArray,.agg (dc ((gd p.ops k).dot)).toArray]) (V:=.bool (QbD p.base.known ((gd p.ops k).dot))) QoV rfl rfl (Qgw _ p.base.known ((gd p.ops k).dot) (by first|assumption|exact QcN (by omega) (by omega) (by omega) (by omega))) Y fun _ Y=>Zz Y
  ·exact oi [6,12] fun Y=>QbP (h':=QbD p.base.known ((gd p.ops k).dot)) rfl rfl rfl (Zz Y)
  rintro J1 w15 J2 hJ Y
  replace hJ:J2=upd (mix (sq 23 14) J1 _) 36 (.bool ((((mget ((gd p.ops k).dot) sm).isSome)||(!(Qbh (gd p.ops k) 16)))||(QbD p.base.known ((gd p.ops k).dot)))):=hJ
  subst hJ
  refine Qak (t:=(((mget ((gd p.ops k).dot) sm).isSome)||(!(Qbh (gd p.ops k) 16)))||(QbD p.base.known ((gd p.ops k).dot))) rfl (fun c16=>?_) (fun c16=>?_)
  ·
   refine Qae (Qab (Qaa (Qam (.bool false) (Qad (Qav ?_)))))
   refine ⟨_,Qan (V:=.bool false) results59 rfl,(Zr Y (congrArg Value.bool (Qhv (i:=k) (by omega) ?_).symm))⟩
   unfold Qld
   rw [← QiJ,← hsm]
   have hq:=c16
   revert hq
   cases Qbh (gd p.ops k) 16<;>cases QbD p.base.known (gd p.ops k).dot<;>cases (mget (gd p.ops k).dot sm).isSome<;>simp
  have c16r:=Qfa c16
  replace c16:=Qe8 c16
  have c16rr:=Qfa c16
  replace c16:=Qe8 c16
  replace c16rr:=Qbd c16rr
  refine Qap (Qab (Qaa (Qaf (.map (some mr3)) (Qaa (Qac Qa7 rfl (Qaa (QbT (vs:=dc ((gd p.ops k).dot)) QcV Y 2 rfl rfl rfl rfl (Qaa (QbI (vs:=[]) (cs:=[]) QrI (rfl) rfl (Qaa (QfA (k:=(gd p.ops k).dot) (v:=()) QkR Qqf Y 1 rfl rfl rfl rfl fun w17 Y=>(Qad (Qab (Qaa (QaB (a:=(k:Int)) (b:=1) (c:=((k+1:Nat):Int)) rfl rfl (Qaj (by omega) (by omega)) (Qaa (Qaf (I6 ((k+1:Nat):Int)) (Qad ?_))))))))))))))))))
  have hbk:Qld p.base.known p.ops k=false:=by
   unfold Qld
   rw [c16rr,c16r,← QiJ,← hsm,c16];rfl
  refine ⟨_,?_,_,k+1,mput ((gd p.ops k).dot) () sm,Qai (Qao (ds:=([2,5,6,7]++sq 12 30)) (by repeat (first|exact Agr.refl _ _|refine Agr.upd ?_ rfl|refine Agr.mix ?_ rfl))) rfl,(by omega),(Qdo hbo hbk),(by rw [Qlz (by omega),← hsm]),rfl,Y.take 2⟩
  omega
 replace c6:=QQ2 c6
 refine QaI (Qae (Qab (Qaa (Qac Qe4 rfl (Qaa (QbT (vs:=(vc p.base.known)++[(.slice a1 p.base.ents.length c1:Value),(.slice a2 p.base.ticks.length c2:Value) ]) Qb4 Y 0 rfl rfl rfl rfl (Qaa (Qas (vs:=[.agg ((vc p.base.known)++[(.slice a1 p.base.ents.length c1:Value),(.slice a2 p.base.ticks.length c2:Value) ]).toArray]) (V:=.bool (Qaw p.base)) Qqo rfl rfl ?hc Y fun w18 Y=>?_))))))))
 case hc=>exact (Qfb _ p.base a1 c1 a2 c2 hokb (by omega) (by omega) (Rd.own' hr1 Y) (Rd.own' hr2 Y))
 refine Qaa (Qam (.bool (Qaw p.base)) (Qad (Qav ?_)))
 refine ⟨_,Qan (V:=.bool (Qaw p.base)) results59 rfl,(Zr Y ?_)⟩
 exact congrArg Value.bool (QgX fun j hj=>hbo j (by omega)).symm
theorem Qox (w:World) (p:Pst) (a1:Option Addr) (c1:Nat) (a2:Option Addr) (c2:Nat) (a3:Option Addr) (c3:Nat) (cut:Vec) (hcut:QbH cut) (hok:Qee p) (hle:p.base.ents.length<=400) (hlt:p.base.ticks.length<=400) (hlo:p.ops.length<=400) (hr1:Rd w (.slice a1 p.base.ents.length c1) 7 (p.base.ents.map cec)) (hr2:Rd w (.slice a2 p.base.ticks.length c2) 2 (p.base.ticks.map lsc)) (hr3:Rd w (.slice a3 p.ops.length c3) 23 (p.ops.map oc)):Calls prog 17 #[.agg (((vc p.base.known)++[(.slice a1 p.base.ents.length c1:Value),(.slice a2 p.base.ticks.length c2:Value) ])++[(.slice a3 p.ops.length c3:Value) ]++(vc p.known)).toArray,.agg (vc cut).toArray] w (fun e w'=>e = .returned (.int .i64 (Qbu p cut))/\Own w no w' []):=by
 refine Qah (n:=26) func17 rfl ntmps17 rfl ?_
 have Y:=Own.start w
 have ⟨hokb,hoko,hokk⟩:=hok
 refine Qae (Qab (Qaa (QaY (V:=.agg (((vc p.base.known)++[(.slice a1 p.base.ents.length c1:Value),(.slice a2 p.base.ticks.length c2:Value) ])++[(.slice a3 p.ops.length c3:Value) ]++(vc p.known)).toArray) (cs:=((vc p.base.known)++[(.slice a1 p.base.ents.length c1:Value),(.slice a2 p.base.ticks.length c2:Value) ])++[(.slice a3 p.ops.length c3:Value) ]++(vc p.known)) rfl rfl Y fun b1 w2 Y=>(Qaa (QaY (V:=.agg (vc cut).toArray) (cs:=vc cut) rfl rfl Y fun b3 w4 Y=>(Qaa (Qam (I6 0) (Qad (Qae (Qal (Qae (Qab (Qaa (QaK (cs:=((vc p.base.known)++[(.slice a1 p.base.ents.length c1:Value),(.slice a2 p.base.ticks.length c2:Value) ])++[(.slice a3 p.ops.length c3:Value) ]++(vc p.known)) QdB Y 0 rfl rfl rfl (Qaa (Qas (vs:=[.agg (((vc p.base.known)++[(.slice a1 p.base.ents.length c1:Value),(.slice a2 p.base.ticks.length c2:Value) ])++[(.slice a3 p.ops.length c3:Value) ]++(vc p.known)).toArray]) (V:=.bool (Qcy p)) QxL rfl rfl ?hc Y fun w5 Y=>?_))))))))))))))))
 case hc=>exact (QmK _ p a1 c1 a2 c2 a3 c3 hok hle hlt hlo (Rd.own' hr1 Y) (Rd.own' hr2 Y) (Rd.own' hr3 Y))
 refine Qaa (QbB rfl (Qaa (Qam (.bool (!(Qcy p))) (Qad (Qak (t:=!(Qcy p)) rfl (fun c6=>?_) (fun c6=>?_))))))
 ·
  replace c6:=QbE c6
  refine Qae (Qab (Qaa (Qam (I6 2) (Qad (Qav ?_)))))
  refine ⟨_,Qan (V:=I6 2) results17 rfl,(Zr Y (congrArg (Value.int .i64) ?_))⟩
  unfold Qbu
  rw [c6];rfl
 replace c6:=Qbd c6
 refine Qae (Qab (Qaa (QaK (cs:=vc cut) QbC Y 1 rfl rfl rfl (Qaa (Qas (vs:=[.agg (vc cut).toArray,I6 16]) (V:=.bool (QaQ cut 16)) QtF rfl rfl ?hc Y fun w7 Y=>?_)))))
 case hc=>exact (QgW _ cut 16 (by first|assumption|exact Qch))
 refine Qaa (QbB rfl (Qaa (Qam (.bool (!(QaQ cut 16))) (Qad (Qak (t:=!(QaQ cut 16)) rfl (fun c8=>?_) (fun c8=>?_))))))
 ·
  replace c8:=QbE c8
  refine Qae (Qab (Qaa (Qam (I6 13) (Qad (Qav ?_)))))
  refine ⟨_,Qan (V:=I6 13) results17 rfl,(Zr Y (congrArg (Value.int .i64) ?_))⟩
  unfold Qbu
  rw [c6,c8];rfl
 replace c8:=Qbd c8
 refine Qae (Qab (Qaa (QaK (cs:=vc cut) QbC Y 1 rfl rfl rfl (Qaa (Qac Qix rfl (Qaa (QbT (vs:=vc p.known) QbC Y 0 rfl rfl rfl rfl (Qaa (Qas (vs:=[.agg (vc cut).toArray,.agg (vc p.known).toArray]) (V:=.bool (vle cut p.known)) Qq5 rfl rfl ?hc Y fun w9 Y=>?_)))))))))
 case hc=>exact (Qfc _ cut p.known)
 refine Qaa (QbB rfl (Qaa (Qam (.bool (!(vle cut p.known))) (Qad (Qak (t:=!(vle cut p.known)) rfl (fun c10=>?_) (fun c10=>?_))))))
 ·
  replace c10:=QbE c10
  refine Qae (Qab (Qaa (Qam (I6 11) (Qad (Qav ?_)))))
  refine ⟨_,Qan (V:=I6 11) results17 rfl,(Zr Y (congrArg (Value.int .i64) ?_))⟩
  unfold Qbu
  rw [c6,c8,c10];rfl
 replace c10:=Qbd c10
 refine Qae (Qab (Qaa (Qac Qe4 rfl (Qaa (Qac Qeo rfl (Qaa (QbT (vs:=vc p.base.known) QbC Y 0 rfl rfl rfl rfl (Qaa (QaK (cs:=vc cut) QbC Y 1 rfl rfl rfl (Qaa (Qas (vs:=[.agg (vc p.base.known).toArray,.agg (vc cut).toArray]) (V:=.bool (vle p.base.known cut)) Qq5 rfl rfl ?hc Y fun w11 Y=>?_)))))))))))
 case hc=>exact (Qfc _ p.base.known cut)
 refine Qaa (QbB rfl (Qaa (Qam (.bool (!(vle p.base.known cut))) (Qad (Qak (t:=!(vle p.base.known cut)) rfl (fun c12=>?_) (fun c12=>?_))))))
 ·
  replace c12:=QbE c12
  refine Qae (Qab (Qaa (Qam (I6 12) (Qad (Qav ?_)))))
  refine ⟨_,Qan (V:=I6 12) results17 rfl,(Zr Y (congrArg (Value.int .i64) ?_))⟩
  unfold Qbu
  rw [c6,c8,c10,c12];rfl
 replace c12:=Qbd c12
 refine Qap (Qae (Qab (Qaa (Qam (I6 0) (Qad (Qav ?_))))))
 refine ⟨_,Qan (V:=I6 0) results17 rfl,(Zr Y (congrArg (Value.int .i64) ?_))⟩
 unfold Qbu
 rw [c6,c8,c10,c12];rfl
end Tt
end Go.Proofs
namespace Go.Proofs
open Go Go.Vx Go.RowKit
open Tryz
namespace Tt
theorem QqL (w:World) (x:Cen):Calls prog 47 #[.agg (cec x).toArray] w (fun e w'=>e = .returned (.agg (oc (QaG x)).toArray)/\Own w no w' []):=by
 refine Qah (n:=14) func47 rfl ntmps47 rfl ?_
 have Y:=Own.start w
 refine Qae (Qab (Qaa (QaY (V:=.agg (cec x).toArray) (cs:=cec x) rfl rfl Y fun b1 w2 Y=>(Qaa (QaJ (cs:=oc (⟨(⟨0,0⟩:Dot),0,0,0,0,0,vzero⟩:Opn)) QhZ rfl Y fun b3 w4 Y=>(Qad (Qae (Qab (Qaa (Qac QbX rfl (Qaa (QbT (vs:=dc x.dot) QcV Y 0 rfl rfl rfl rfl (Qaa (Qac QeR rfl (Qaa (QaN (.int .u8 x.kind) QcI Y 0 (Qaa (Qac QdE rfl (Qaa (QaN (I7 x.cart) Qar Y 0 (Qaa (Qac QdJ rfl (Qaa (QaN (I7 x.item) Qar Y 0 (Qaa (Qac QeC rfl (Qaa (QaN (I7 x.qty) Qar Y 0 (Qaa (QcQ (vs:=[(0,.agg (dc x.dot).toArray),(1,.int .u8 x.kind),(2,I7 x.cart),(3,I7 x.item),(4,I7 x.qty)]) (cs:=oc (⟨x.dot,x.kind,x.cart,x.item,x.qty,0,vzero⟩:Opn)) [dc (⟨0,0⟩:Dot),[(.int .u8 0:Value)],[(I7 0:Value)],[(I7 0:Value)],[(I7 0:Value)],[(.int .u32 0:Value)],vc vzero] [dc x.dot,[(.int .u8 x.kind:Value)],[(I7 x.cart:Value)],[(I7 x.item:Value)],[(I7 x.qty:Value)],[(.int .u32 0:Value)],vc vzero] QtQ rfl (rfl) rfl rfl (Qaa (Qcz (V:=.agg (oc (⟨x.dot,x.kind,x.cart,x.item,x.qty,0,vzero⟩:Opn)).toArray) (vs:=oc (⟨x.dot,x.kind,x.cart,x.item,x.qty,0,vzero⟩:Opn)) (cs':=oc (⟨x.dot,x.kind,x.cart,x.item,x.qty,0,vzero⟩:Opn)) Qa3.1 Y 1 rfl rfl rfl rfl rfl (QQ8 rfl) (QcX _) (Qaz rfl) fun w5 Y=>(Qad (Qav ?_))))))))))))))))))))))))))))))))))
 refine ⟨_,QcA (cs:=oc (⟨x.dot,x.kind,x.cart,x.item,x.qty,0,vzero⟩:Opn)) results47 Qa3 Y 1 rfl rfl rfl,(Zr Y ?_)⟩
 rfl
theorem order_ok (w:World) (x y:Cen):Calls prog 49 #[.agg (cec x).toArray,.agg (cec y).toArray] w (fun e w'=>e = .returned (.int .i64 (Qb1 x y))/\Own w no w' []):=by
 refine Qah (n:=26) func49 rfl ntmps49 rfl ?_
 have Y:=Own.start w
 refine Qae (Qab (Qaa (QaY (V:=.agg (cec x).toArray) (cs:=cec x) rfl rfl Y fun b1 w2 Y=>(Qaa (QaY (V:=.agg (cec y).toArray) (cs:=cec y) rfl rfl Y fun b3 w4 Y=>(Qaa (Qam (I6 0) (Qad (Qae ?_)))))))))
 replace Y:=Y.more emp trivial
 refine QaH HM (so 5 21++[some 4]) [[],[],[],[],[],[],[],[],[],[],[],[],[],[],[],[],[],[],[],[24]] [0,1,0,4,15,0,32,96,0,256,768,2047,0,4096,12288,0,32768,98304,262143,524287,1048575,2097151] [pv (Pq b1 (0+0)),pv (I7 x.cart),pv (Pq b3 (0+0)),pv (I7 y.cart),pv (I6 (QaR x.cart y.cart)),pv (Pq b1 (0+4)),pv (Pq b1 (0+4+0)),pv (.int .u8 x.dot.rep),pv (Pq b3 (0+4)),pv (Pq b3 (0+4+0)),pv (.int .u8 y.dot.rep),pv (I6 (QaR x.dot.rep y.dot.rep)),pv (Pq b1 (0+4)),pv (Pq b1 (0+4+1)),pv (.int .u32 x.dot.seq),pv (Pq b3 (0+4)),pv (Pq b3 (0+4+1)),pv (.int .u32 y.dot.seq),pv (I6 (QaR x.dot.seq y.dot.seq)),(true,fun J=>.slice (some ⟨(bOf (J 24)),0,none⟩) 3 3),pv (I6 (orI [QaR x.cart y.cart,QaR x.dot.rep y.dot.rep,QaR x.dot.seq y.dot.seq])),pv (I6 (orI [QaR x.cart y.cart,QaR x.dot.rep y.dot.rep,QaR x.dot.seq y.dot.seq]))] (fun D J=>[blk b1 (cec x) 106,blk b3 (cec y) 106,cond (D 19) (row (.slice (some ⟨(bOf (J 24)),0,none⟩) 3 3) ([QaR x.cart y.cart,QaR x.dot.rep y.dot.rep,QaR x.dot.seq y.dot.seq].map (ic .i64)) 3 1) (emp)]) [21] (by kernel_rfl) Y ⟨?_,?_,?_,?_,?_,?_,?_,?_,?_,?_,?_,?_,?_,?_,?_,?_,?_,?_,?_,?_,?_,?_,trivial⟩ ?_
 ·exact oi [] fun Y=>Qac QdE rfl (Zz Y)
 ·exact oi [0] fun Y=>QaN (.int .u16 x.cart) Qar Y 0 (Zz Y)
 ·exact oi [] fun Y=>Qac QdE rfl (Zz Y)
 ·exact oi [2] fun Y=>QaN (.int .u16 y.cart) Qar Y 1 (Zz Y)
 ·exact oi [1,3] fun Y=>Qas (vs:=[.int .u16 x.cart,.int .u16 y.cart]) (V:=.int .i64 (QaR x.cart y.cart)) Qqr rfl rfl (Qdm _ x.cart y.cart) Y fun _ Y=>Zz Y
 ·exact oi [] fun Y=>Qac QbX rfl (Zz Y)
 ·exact oi [5] fun Y=>Qac QbJ rfl (Zz Y)
 ·exact oi [6] fun Y=>QaN (.int .u8 x.dot.rep) QcI Y 0 (Zz Y)
 ·exact oi [] fun Y=>Qac QbX rfl (Zz Y)
 ·exact oi [8] fun Y=>Qac QbJ rfl (Zz Y)
 ·exact oi [9] fun Y=>QaN (.int .u8 y.dot.rep) QcI Y 1 (Zz Y)
 ·exact oi [7,10] fun Y=>Qas (vs:=[.int .u8 x.dot.rep,.int .u8 y.dot.rep]) (V:=.int .i64 (QaR x.dot.rep y.dot.rep)) Qrh rfl rfl (QdG _ x.dot.rep y.dot.rep) Y fun _ Y=>Zz Y
 ·exact oi [] fun Y=>Qac QbX rfl (Zz Y)
 ·exact oi [12] fun Y=>Qac QbN rfl (Zz Y)
 ·exact oi [13] fun Y=>QaN (.int .u32 x.dot.seq) QaU Y 0 (Zz Y)
 ·exact oi [] fun Y=>Qac QbX rfl (Zz Y)
 ·exact oi [15] fun Y=>Qac QbN rfl (Zz Y)
 ·exact oi [16] fun Y=>QaN (.int .u32 y.dot.seq) QaU Y 1 (Zz Y)
 ·exact oi [14,17] fun Y=>Qas (vs:=[.int .u32 x.dot.seq,.int .u32 y.dot.seq]) (V:=.int .i64 (QaR x.dot.seq y.dot.seq)) Qql rfl rfl (Qdk _ x.dot.seq y.dot.seq) Y fun _ Y=>Zz Y
 ·exact oi [4,11,18] fun Y=>Qho (vals:=[.int .i64 (QaR x.cart y.cart),.int .i64 (QaR x.dot.rep y.dot.rep),.int .i64 (QaR x.dot.seq y.dot.seq)]) (ls:=List.map (ic .i64) ([QaR x.cart y.cart,QaR x.dot.rep y.dot.rep,QaR x.dot.seq y.dot.seq]:List Int)) QkI rfl rfl rfl (Qbn (enc:=(ic .i64)) (fun _=>rfl) _) (QaW (QfB .i64) _) (QQ8 rfl) Y fun _ _ Y=>⟨rfl,Y.put 2 (QQ8 rfl)⟩
 ·exact oa [19] fun D J w Y=>Qas (vs:=[.slice (some ⟨(bOf (J 24)),0,none⟩) 3 3]) (V:=.int .i64 (orI [QaR x.cart y.cart,QaR x.dot.rep y.dot.rep,QaR x.dot.seq y.dot.seq])) Qpg rfl rfl (Qpr _ (some ⟨(bOf (J 24)),0,none⟩) 3 [QaR x.cart y.cart,QaR x.dot.rep y.dot.rep,QaR x.dot.seq y.dot.seq] (Y.rd 2 rfl)) Y fun _ Y=>Zz Y
 ·exact oi [20] fun Y=>Qam (.int .i64 (orI [QaR x.cart y.cart,QaR x.dot.rep y.dot.rep,QaR x.dot.seq y.dot.seq])) (Zz Y)
 rintro J1 w10 J2 hJ Y
 replace hJ:J2=upd (mix (sq 5 21++[4]) J1 _) 4 (I6 (orI [QaR x.cart y.cart,QaR x.dot.rep y.dot.rep,QaR x.dot.seq y.dot.seq])):=hJ
 replace Y:Own w no w10 [blk b1 (cec x) 106,blk b3 (cec y) 106,row (.slice (some ⟨(bOf (J1 24)),0,none⟩) 3 3) ([QaR x.cart y.cart,QaR x.dot.rep y.dot.rep,QaR x.dot.seq y.dot.seq].map (ic .i64)) 3 1]:=Y
 generalize (bOf (J1 24))=b11 at Y
 subst hJ
 refine Qav ?_
 refine ⟨_,Qan (V:=I6 (orI [QaR x.cart y.cart,QaR x.dot.rep y.dot.rep,QaR x.dot.seq y.dot.seq])) results49 rfl,(Zr Y ?_)⟩
 rfl
theorem Qlj (w:World) (b:Bool):Calls prog 106 #[.bool b] w (fun e w'=>e = .returned (.int .u32 (Qfh b))/\Own w no w' []):=by
 refine Qah (n:=4) func106 rfl ntmps106 rfl ?_
 have Y:=Own.start w
 refine Qae (Qab (Qaa (Qam (.int .u32 0) (Qad (Qae (Qae (Qab (Qaa (Qaf (.bool b) (Qad (Qak (t:=b) rfl (fun c1=>?_) (fun c1=>?_))))))))))))
 ·
  refine Qae (Qab (Qaa (Qam (.int .u32 1) (Qad (Qav ?_)))))
  refine ⟨_,Qan (V:=.int .u32 1) results106 rfl,(Zr Y ?_)⟩
  cases b<;>simp_all [Qfh]
 refine Qap (Qae (Qab (Qaa (Qam (.int .u32 0) (Qad (Qav ?_))))))
 refine ⟨_,Qan (V:=.int .u32 0) results106 rfl,(Zr Y ?_)⟩
 cases b<;>simp_all [Qfh]
end Tt
end Go.Proofs
namespace Go.Proofs
open Go Go.Vx Go.RowKit
open Tryz
namespace Tt
theorem Qqu (w:World) (a:Option Addr) (c:Nat) (l:List Opn) (g:Nat) (caps:List Value) (hg:En prog g) (p:Opn->Bool) (hp:∀ (w1:World) (L1:List Res),Own w no w1 L1->∀ x∈l,Calls prog g ([(.agg (oc x).toArray:Value)]++caps).toArray w1 (fun e w'=>e = .returned (.bool (p x))/\Own w1 no w' [])) (hr:Rd w (.slice a l.length c) 23 (l.map oc)):Calls prog 89 #[.slice a l.length c,.func (.func g) #[] caps.toArray] w (fun e w'=>e = .returned (.int .i64 (Qe7 p l))/\Own w no w' []):=by
 refine Qah (n:=19) func89 rfl ntmps89 rfl ?_
 have Y:=Own.start w
 have hn:=hr.sml
 refine Qae (Qab (Qaa (Qam (I6 0) (Qad (Qae (Qae (Qab (Qaa (Qaf (.slice a l.length c) (Qaa (Qa5 (n:=l.length) QbG (Rd.own' hr Y) (by simp) rfl (Qaa (Qaf (I6 0) (Qad (Qal (QaE (fun J μ J' w'=>∃ (Jo:Env) (k:Nat),J'=upd (mix ([4,5]++sq 8 11) Jo J) 8 (I6 (k:Int))/\(k<=l.length)/\(∀ j:Nat,j<k->p (gd l j)=false)/\μ=l.length-k/\Own w no w' []) ?_ ?_))))))))))))))))
 ·exact ⟨_,_,0,Qai (Qao (ds:=([4,5]++sq 8 11)) (Agr.refl _ _)) rfl,(by omega),(fun j hj=>absurd hj (Nat.not_lt_zero j)),rfl,Y⟩
 rintro μ J' w1 ⟨Jo,k,rfl,hk,hno,rfl,Y⟩
 refine Qae (Qab (Qaa (Qa0 rfl rfl (Qad (Qae (Qak (t:=decide ((k:Int)<((l.length:Nat):Int))) rfl (fun c2=>?_) (fun c2=>?_)))))))
 ·
  replace c2:=QQ1 c2
  refine Qap (Qae (Qal (Qae (Qab (Qaa (Qaf (I6 (k:Int)) (Qaa (Qam (I6 (k:Int)) (Qad (Qae (Qab (Qaa (Qaf (.func (.func g) #[] caps.toArray) (Qaa (Qaf (.slice a l.length c) (Qaa (Qaf (I6 (k:Int)) (Qaa (Qax QbG Qa3.1 (Rd.own' hr Y) rfl rfl (by omega) (by rw [QQ6];omega) (Qaa (Qa9 (j:=0) (vs:=oc (gd l k)) k Qa3 (Rd.own' hr Y) (Qa4 (by omega)) rfl rfl rfl (by omega) (Qaa (Qfu (vs:=[.agg (oc (gd l k)).toArray]) (cs:=caps) (V:=.bool (p (gd l k))) hg rfl rfl (hp _ _ Y (gd l k) (Qbo (by omega))) Y fun w3 Y=>(Qad (Qak (t:=p (gd l k)) rfl (fun c4=>?_) (fun c4=>?_))))))))))))))))))))))))))
  ·
   refine Qae (Qab (Qaa (Qaf (I6 (k:Int)) (Qaa (Qam (I6 (k:Int)) (Qad (Qav ?_)))))))
   refine ⟨_,Qan (V:=I6 (k:Int)) results89 rfl,(Zr Y ?_)⟩
   exact congrArg (Value.int .i64) (QjR (by omega) hno c4).symm
  refine Qap (Qab (Qaa (QaB (a:=(k:Int)) (b:=1) (c:=(k:Int)+1) rfl rfl (Qbx (by omega) (by omega)) (Qaa (Qaf (I6 ((k:Int)+1)) (Qad ?_))))))
  refine ⟨_,?_,_,k+1,Qai (Qao (ds:=([4,5]++sq 8 11)) (by repeat (first|exact Agr.refl _ _|refine Agr.upd ?_ rfl|refine Agr.mix ?_ rfl))) rfl,(by omega),(Qdo hno c4),rfl,Y.take 0⟩
  omega
 replace c2:=QQ2 c2
 refine QaI (Qae (Qab (Qaa (Qam (I6 (-1)) (Qad (Qav ?_))))))
 refine ⟨_,Qan (V:=I6 (-1)) results89 rfl,(Zr Y ?_)⟩
 exact congrArg (Value.int .i64) (Qoy fun j hj=>hno j (by omega)).symm
theorem QpA (w:World) (a:Option Addr) (c:Nat) (l:List Opn) (g:Nat) (caps:List Value) (hg:En prog g) (p:Opn->Bool) (hp:∀ (w1:World) (L1:List Res),Own w no w1 L1->∀ x∈l,Calls prog g ([(.agg (oc x).toArray:Value)]++caps).toArray w1 (fun e w'=>e = .returned (.bool (p x))/\Own w1 no w' [])) (hr:Rd w (.slice a l.length c) 23 (l.map oc)):Calls prog 44 #[.slice a l.length c,.func (.func g) #[] caps.toArray] w (fun e w'=>e = .returned (.bool (l.any p))/\Own w no w' []):=by
 refine Qah (n:=9) func44 rfl ntmps44 rfl ?_
 have Y:=Own.start w
 have hn:=hr.sml
 refine Qae (Qab (Qaa (Qam (.bool false) (Qad (Qae (Qab (Qaa (Qaf (.slice a l.length c) (Qaa (Qaf (.func (.func g) #[] caps.toArray) (Qaa (Qas (vs:=[.slice a l.length c,.func (.func g) #[] caps.toArray]) (V:=I6 (Qe7 p l)) Qwr rfl rfl ?hc Y fun w1 Y=>?_))))))))))))
 case hc=>exact (Qqu _ a c l g caps hg p (fun w1 L1 h=>hp w1 _ (Y.call h)) (Rd.own' hr Y))
 refine Qaa (QcZ rfl rfl (Qaa (Qam (.bool (decide (0<=Qe7 p l))) (Qad (Qav ?_)))))
 refine ⟨_,Qan (V:=.bool (decide (0<=Qe7 p l))) results44 rfl,(Zr Y ?_)⟩
 exact congrArg Value.bool Qsx
theorem QlW (w:World) (o:Opn) (x:Cen) (bx:Nat) (hx:QcS x.dot) (hc:QbW w bx (cec x)):Calls prog 45 #[.agg (oc o).toArray,.pointer (some ⟨bx,0,none⟩)] w (fun e w'=>e = .returned (.bool (Qay o (QaG x)))/\Own w no w' []):=by
 refine Qah (n:=8) func45 rfl ntmps45 rfl ?_
 have Y:=Own.start w
 refine Qae (Qab (Qaa (QaY (V:=.agg (oc o).toArray) (cs:=oc o) rfl rfl Y fun b1 w2 Y=>(Qaa (Qam (.bool false) (Qad (Qae (QaH HM (so 4 4++[some 3]) [] [0,0,2,7,15] [pv (.agg (oc o).toArray),pv (.agg (cec x).toArray),pv (.agg (oc (QaG x)).toArray),pv (.bool (Qay o (QaG x))),pv (.bool (Qay o (QaG x)))] (fun _ _=>_) [4] (by kernel_rfl) Y ⟨?_,?_,?_,?_,?_,trivial⟩ ?_))))))))
 ·exact oi [] fun Y=>QaK (cs:=oc o) Qa3 Y 0 rfl rfl rfl (Zz Y)
 ·exact oi [] fun Y=>QkK (vs:=cec x) QaF (hc.own' Y) rfl rfl rfl (Zz Y)
 ·exact oi [1] fun Y=>Qas (vs:=[.agg (cec x).toArray]) (V:=.agg (oc (QaG x)).toArray) Qxi rfl rfl (QqL _ x) Y fun _ Y=>Zz Y
 ·exact oi [0,2] fun Y=>Qas (vs:=[.agg (oc o).toArray,.agg (oc (QaG x)).toArray]) (V:=.bool (Qay o (QaG x))) QsG rfl rfl (Qid _ o (QaG x) hx) Y fun _ Y=>Zz Y
 ·exact oi [3] fun Y=>Qam (.bool (Qay o (QaG x))) (Zz Y)
 rintro J1 w5 J2 hJ Y
 replace hJ:J2=upd (mix [4,5,6,7,3] J1 _) 3 (.bool (Qay o (QaG x))):=hJ
 subst hJ
 refine Qav ?_
 refine ⟨_,Qan (V:=.bool (Qay o (QaG x))) results45 rfl,(Zr Y ?_)⟩
 rfl
theorem QnV (w:World) (x:Cen) (bx:Nat) (a:Option Addr) (c:Nat) (l:List Opn) (hx:QcS x.dot) (hc:QbW w bx [(.slice a l.length c:Value)]) (hr:Rd w (.slice a l.length c) 23 (l.map oc)):Calls prog 43 #[.agg (cec x).toArray,.pointer (some ⟨bx,0,none⟩)] w (fun e w'=>e = .returned (.bool (l.any fun o=>Qay o (QaG x)))/\Own w no w' []):=by
 refine Qah (n:=7) func43 rfl ntmps43 rfl ?_
 have Y:=Own.start w
 refine Qae (Qab (Qaa (QaY (V:=.agg (cec x).toArray) (cs:=cec x) rfl rfl Y fun b1 w2 Y=>(Qaa (Qam (.bool false) (Qad (Qae (Qab (Qaa (Qnm (V:=.slice a l.length c) Qj5 (hc.own' Y) rfl rfl (Qaa (QcL (cs:=[Pq b1 0]) rfl rfl (Qaa (Qas (vs:=[.slice a l.length c,.func (.func 45) #[] #[Pq b1 0]]) (V:=.bool (l.any (fun o=>Qay o (QaG x)))) Quk rfl rfl ?hc Y fun w3 Y=>?_))))))))))))))
 case hc=>exact (QpA _ a c l 45 [.pointer (some ⟨b1,0,none⟩)] QxP (fun o=>Qay o (QaG x)) (fun w1 L1 h o _=>QlW w1 o x b1 hx ((Y.cellsf 0 rfl).own' h)) (Rd.own' hr Y))
 refine Qaa (Qam (.bool (l.any (fun o=>Qay o (QaG x)))) (Qad (Qav ?_)))
 refine ⟨_,Qan (V:=.bool (l.any (fun o=>Qay o (QaG x)))) results43 rfl,(Zr Y ?_)⟩
 rfl
end Tt
end Go.Proofs
namespace Go.Proofs
open Go Go.Vx Go.RowKit
open Tryz
namespace Tt
theorem Qn4 (w:World) (S:Nat->Prop) (bx r l:Nat) (lm:List (Int × Tal)) (R:List Value->Res) (ok:List Value->Value->Prop) (hok:∀ (pre:List Int) (k:Int),pre.length<lm.length->k∈lm.map (·.1)->ok (pre.map (Value.int .u16)) ((Value.int .u16) k)) (hy:QhN prog l R ok) (hR:(R []).holds w S) (hlt:∀ x,S x->x<w.heap.size) (hSb:¬S bx) (hSr:¬S r) (hc:QbW w bx [.map (some r)]) (hm:Qiy w r (Value.int .u16) tv lm):Calls prog 135 #[.func (.yield l) #[] #[],.pointer (some ⟨bx,0,none⟩)] w (fun e w'=>∃ v xs,e = .returned v/\xs.Perm ((lm.map (·.1)).map (Value.int .u16))/\Own w S w' [R xs]):=by
 refine Qah (n:=14) func135 rfl ntmps135 rfl ?_
 have Y:=Own.lent hR hlt
 obtain ⟨es,clock,hm0,hE⟩:=hm
 refine Qae (Qab (Qaa (Qnm (V:=.map (some r)) Qwv (QbW.own hc Y hSb) rfl rfl ?_)))
 have hat:=Y.at hm0 hSr
 refine Qaa (QoS Qlo hat Y rfl fun it w1 Y=>(Qad (Qal (QaE (fun J μ J' w'=>∃ (Jo:Env) (pre:List Int) (seen:Array Nat),J'=mix ([3]++sq 6 8) Jo J/\(((left es seen).map (·.key)++pre.map (Value.int .u16)).Perm ((lm.map (·.1)).map (Value.int .u16)))/\μ=(left es seen).length/\Own w S w' [R (pre.map (Value.int .u16)),QjW it r clock seen]) ?_ ?_))))
 ·exact ⟨_,_,[],#[],Qao (ds:=([3]++sq 6 8)) (Agr.refl _ _),(by rw [Qi8,hE.keys];simp),rfl,Y⟩
 rintro μ J' w2 ⟨Jo,pre,seen,rfl,hp,rfl,Y⟩
 refine Qae (Qab (Qaa (Qr5 (seen:=seen) (Y.at hm0 hSr) hE.old Y 1 rfl rfl (fun h0=>?_) (fun e3 ha w4 Y=>?_))))
 ·
  refine Qaa (QaC (V:=.bool false) rfl rfl (Qad (Qae (Qce rfl ?_))))
  refine QaI ?_
  refine ⟨_,Qbl results135,?_⟩
  rw [h0] at hp
  exact ⟨_,pre.map (Value.int .u16),rfl,hp,Y.only 0 rfl⟩
 obtain ⟨k,hk,hkey⟩:=QkC hE (Qgk ha)
 refine Qaa (QaC (V:=.bool true) rfl rfl (Qad (Qae (QcO rfl ?_))))
 refine Qap (Qal (Qae (Qab (Qaa (Qkn (V:=(Value.int .u16) k) (Y.at hm0 hSr) hE.inc (Qgk ha) hkey Y 1 rfl rfl (Qaa (QaC (V:=I7 k) rfl rfl (Qaa (Qam (I7 k) (Qad (Qae (Qab (Qaa (Qaf (.func (.yield l) #[] #[]) (Qaa (Qaf (I7 k) ?_))))))))))))))))
 have hst:=QiW hE ha hkey hp
 refine Qaa (Qk4 (R:=R) (pre:=pre.map (Value.int .u16)) (v:=(Value.int .u16) k) hy rfl rfl (hok pre k hst.2.2 hk) Y 0 rfl fun w5 Y=>(Qaa (QbB rfl (Qad (Qce rfl ?_)))))
 refine Qap ?_
 have e1:(pre++[k]).map (Value.int .u16)=pre.map (Value.int .u16)++[(Value.int .u16) k]:=by simp
 rw [← e1] at Y
 refine ⟨_,?_,_,pre++[k],seen.push e3.born,Qao (ds:=([3]++sq 6 8)) (by repeat (first|exact Agr.refl _ _|refine Agr.upd ?_ rfl|refine Agr.mix ?_ rfl)),hst.1,rfl,Y.take 2⟩
 exact hst.2.1
theorem Qrk (w:World) (r:Nat):Calls prog 85 #[.map (some r)] w (fun e w'=>∃ x:Nat,e = .returned (.func (.func 135) #[] #[.pointer (some ⟨x,0,none⟩)])/\Own w no w' [blk x [.map (some r)] 145]/\True):=by
 refine Qah (n:=4) func85 rfl ntmps85 rfl ?_
 have Y:=Own.start w
 refine Qae (Qab (Qaa (QaY (V:=.map (some r)) (cs:=[.map (some r)]) rfl rfl Y fun b1 w2 Y=>(Qaa (Qam .nilFunc (Qad (Qae (Qab (Qaa (QcL (cs:=[Pq b1 0]) rfl rfl (Qaa (Qam (.func (.func 135) #[] #[Pq b1 0]) (Qad (Qav ?_))))))))))))))
 refine ⟨_,Qan (V:=.func (.func 135) #[] #[Pq b1 0]) results85 rfl,?_⟩
 exact ⟨b1,rfl,Y.only 0 rfl,trivial⟩
theorem Qwc {w:World} {bx r N:Nat} {lm:List (Int × Tal)} (hc:QbW w bx [.map (some r)]) (hm:Qiy w r (Value.int .u16) tv lm) (hN:lm.length<=N) :
  Gives prog 135 [.pointer (some ⟨bx,0,none⟩)] (okS (Value.int .u16) N) (fun xs=>xs.Perm ((lm.map (·.1)).map (Value.int .u16))) w:=by
 rintro l w1 R S ⟨L1,hs1⟩ hlt hS hR hy
 have hb:bx<w.heap.size:=World.block_lt_of_cell? _ _ (hc 0 _ rfl)
 have hr:r<w.heap.size:=by obtain ⟨es,clock,h,_⟩:=hm;exact (Array.getElem?_eq_some_iff.1 h).1
 exact Qn4 w1 S bx r l lm R (okS (Value.int .u16) N) (fun pre k hp _=>⟨⟨k,rfl⟩,by rw [QQ6];omega⟩) hy hR hlt (fun h=>hS _ h hb) (fun h=>hS _ h hr) (hc.own' hs1) (hm.own' hs1)
theorem QmH (w:World) (f N:Nat) (caps:List Value) (hf:En prog f) (hN:N*3<=140737488355328) (G:List Value->Prop) (hcall:Gives prog f caps (okS (Value.int .u16) N) G w):Calls prog 159 #[.slice none 0 0,.func (.func f) #[] caps.toArray] w (fun e w'=>∃ x:List Int × Option Addr × Nat,e = .returned (.slice x.2.1 x.1.length x.2.2)/\Own w no w' [row (.slice x.2.1 x.1.length x.2.2) (x.1.map (ic .u16)) 32 1]/\G (x.1.map (Value.int .u16))/\x.1.length<=N):=by
 refine QjM (n:=13) func159 rfl ntmps159 rfl ?_
 have Y:=Own.start w
 refine Qog (Qab (Qaa (QaY (V:=.slice none 0 0) (cs:=[.slice none 0 0]) rfl rfl Y fun b1 w2 Y=>(Qaa (Qam (.slice none 0 0) (Qad (QsF (Qog (Qab (Qaa (Qaf (.func (.func f) #[] caps.toArray) (Qad (QpB ?_)))))))))))))
 replace Y:=Y.more (row (.slice none 0 0) (List.map (ic .u16) []) 32 1) (Qbi _ _ _ _)
 replace Y:=Y.join 0 1 (by decide) rfl rfl
 replace Y:=Y.conv 0 rfl (R':=Qw7 N b1 69 32 1 (ic .u16) (Value.int .u16) []) (fun S h=>⟨⟨([],none,0),rfl,Nat.zero_le _⟩,h⟩)
 refine Qjj (caps:=caps) (ok:=okS (Value.int .u16) N) (G:=G) rfl rfl hf Y 0 (Qw7 N b1 69 32 1 (ic .u16) (Value.int .u16)) rfl ?_ hcall ?_
 ·rintro l fn dd pre x w2 S ⟨⟨d,rfl⟩,hpN⟩ Y
  refine Qab (Qaa (Qam (I7 d) (Qad ?_)))
  refine ⟨[],Y,?_⟩
  intro w3 Y
  obtain ⟨⟨⟨l0,a0,c0⟩,hx,hxN⟩,Y⟩:=Y.unpack 0 rfl
  replace Y:=Y.split 0 rfl
  dsimp only at hx
  have hlen:=congrArg List.length hx
  rw [QQ6] at hlen
  refine Qal (Qab (Qaa (QaN (.slice a0 l0.length c0) Qtt Y 0 (Qaa (Qaf (I7 d) (Qaa (Qho (vals:=[I7 d]) (ls:=List.map (ic .u16) ([d]:List Int)) Qno rfl rfl rfl (Qbn (enc:=(ic .u16)) (fun _=>rfl) _) (QaW (QfB .u16) _) (QQ8 rfl) Y fun b3 w4 Y=>(Qaa (Qdj (ls':=(l0++[d]).map (ic .u16)) (n:=(l0++[d]).length) Qno Y 2 rfl rfl rfl (Y.rd 3 rfl) (QaW (QfB .u16) _) (by simp only [QQ6,QQ7,List.length_cons,List.length_nil];omega) (by simp) (by simp) fun a5 c5 w6 Y=>(Qaa (Qcs (V:=.slice a5 ((l0++[d]).length) c5) (cs':=[.slice a5 ((l0++[d]).length) c5]) Qtt Y 0 rfl rfl rfl rfl (QQ8 rfl) rfl fun w7 Y=>(Qad ?_))))))))))))
  replace Y:=Y.join 0 2 (by decide) rfl rfl
  replace Y:=Y.conv 0 rfl (R':=Qw7 N b1 69 32 1 (ic .u16) (Value.int .u16) (pre++[(Value.int .u16) d])) (fun S h=>⟨⟨(l0++[d],a5,c5),by rw [List.map_append,hx];rfl,by rw [QQ7];exact hpN⟩,h⟩)
  exact Y.take 2
 rintro xs dd w3 hG Y
 obtain ⟨⟨⟨l1,a1,c1⟩,hx,hxN⟩,Y⟩:=Y.unpack 0 rfl
 dsimp only at hx
 subst hx
 replace Y:=Y.split 0 rfl
 refine QxH (Qae (Qab (Qaa (QaN (.slice a1 l1.length c1) Qtt Y 0 (Qaa (Qam (.slice a1 l1.length c1) (Qad (Qav (Qn7 (V:=.slice a1 l1.length c1) Y 2 rfl (fun w=>Qan (V:=.slice a1 l1.length c1) results159 rfl) fun w Y=>?_)))))))))
 exact ⟨(l1,a1,c1),rfl,Y.only 3 rfl,hG,by simpa using hxN⟩
end Tt
end Go.Proofs
namespace Go.Proofs
open Go Go.Vx Go.RowKit
open Tryz
namespace Tt
theorem Qkj (w:World) (f N:Nat) (caps:List Value) (hf:En prog f) (hN:N*3<=140737488355328) (G:List Value->Prop) (hcall:Gives prog f caps (okS (Value.int .u16) N) G w):Calls prog 133 #[.func (.func f) #[] caps.toArray] w (fun e w'=>∃ x:List Int × Option Addr × Nat,e = .returned (.slice x.2.1 x.1.length x.2.2)/\Own w no w' [row (.slice x.2.1 x.1.length x.2.2) (x.1.map (ic .u16)) 32 1]/\G (x.1.map (Value.int .u16))/\x.1.length<=N):=by
 refine Qah (n:=5) func133 rfl ntmps133 rfl ?_
 have Y:=Own.start w
 refine Qae (Qab (Qaa (Qam (.slice none 0 0) (Qad (Qae (Qab (Qaa (Qaf (.func (.func f) #[] caps.toArray) (Qaa (Qbr (vs:=[.slice none 0 0,.func (.func f) #[] caps.toArray]) Qv6 rfl rfl (QmH _ f N caps hf hN G hcall) Y fun x1 w2 Y hF3=>(Qaa (Qam (.slice x1.2.1 x1.1.length x1.2.2) (Qad (Qav ?_))))))))))))))
 refine ⟨_,Qan (V:=.slice x1.2.1 x1.1.length x1.2.2) results133 rfl,?_⟩
 exact ⟨(x1.1,x1.2.1,x1.2.2),rfl,Y.only 0 rfl,hF3⟩
theorem Qhu (w:World) (f N:Nat) (caps:List Value) (hf:En prog f) (hN:N*3<=140737488355328) (G:List Value->Prop) (hcall:Gives prog f caps (okS (Value.int .u16) N) G w) (hsortU:Qg2 prog 134 .u16 32):Calls prog 84 #[.func (.func f) #[] caps.toArray] w (fun e w'=>∃ x:List Int × Option Addr × Nat,e = .returned (.slice x.2.1 x.1.length x.2.2)/\Own w no w' [row (.slice x.2.1 x.1.length x.2.2) (x.1.map (ic .u16)) 32 1]/\∃ m,G (m.map (Value.int .u16))/\x.1=QaO m):=by
 refine Qah (n:=9) func84 rfl ntmps84 rfl ?_
 have Y:=Own.start w
 refine Qae (Qab (Qaa (Qam (.slice none 0 0) (Qad (Qae (Qab (Qaa (Qaf (.func (.func f) #[] caps.toArray) (Qaa (Qbr (vs:=[.func (.func f) #[] caps.toArray]) Qvt rfl rfl (Qkj _ f N caps hf hN G hcall) Y fun x1 w2 Y hF3=>(Qaa (Qam (.slice x1.2.1 x1.1.length x1.2.2) (Qad (Qae ?_))))))))))))))
 have hn:=hF3.2
 refine Qab (Qaa (Qaf (.slice x1.2.1 x1.1.length x1.2.2) (Qaa (QbF (vs:=[.slice x1.2.1 x1.1.length x1.2.2]) (V:=fun _:Unit=>.tuple #[]) (R:=row (.slice x1.2.1 x1.1.length x1.2.2) (x1.1.map (ic .u16)) 32 1) (R':=fun _=>row (.slice x1.2.1 x1.1.length x1.2.2) ((QaO x1.1).map (ic .u16)) 32 1) (Lo:=fun _=>[]) (F:=fun _ _=>True) QvE rfl rfl Y 0 rfl (fun S hS hlt=>(hsortU _ S _ _ _ hS hlt (by omega)).mono fun e w' ⟨he,ho⟩=>⟨(),he,ho,trivial⟩) fun _ w4 Y _=>(Qad (Qae (Qab (Qaa (Qaf (.slice x1.2.1 x1.1.length x1.2.2) (Qaa (Qam (.slice x1.2.1 x1.1.length x1.2.2) (Qad (Qav ?_)))))))))))))
 refine ⟨_,Qan (V:=.slice x1.2.1 x1.1.length x1.2.2) results84 rfl,?_⟩
 have hl:x1.1.length=(QaO x1.1).length:=(Qeq _).symm
 refine ⟨(QaO x1.1,x1.2.1,x1.2.2),by rw [hl],?_,⟨x1.1,hF3.1,rfl⟩⟩
 have ho:=Y.only 0 rfl
 rw [hl] at ho
 exact ho
end Tt
end Go.Proofs
namespace Go.Proofs
open Go Go.Vx Go.RowKit
open Tryz
namespace Tt
theorem QnT (w:World) (S:Nat->Prop) (bx r l:Nat) (lm:List (Int × Int)) (R:List Value->Res) (ok:List Value->Value->Prop) (hok:∀ (pre:List Int) (k:Int),pre.length<lm.length->k∈lm.map (·.1)->ok (pre.map (Value.int .u16)) ((Value.int .u16) k)) (hy:QhN prog l R ok) (hR:(R []).holds w S) (hlt:∀ x,S x->x<w.heap.size) (hSb:¬S bx) (hSr:¬S r) (hc:QbW w bx [.map (some r)]) (hm:Qiy w r (Value.int .u16) (Value.int .u32) lm):Calls prog 148 #[.func (.yield l) #[] #[],.pointer (some ⟨bx,0,none⟩)] w (fun e w'=>∃ v xs,e = .returned v/\xs.Perm ((lm.map (·.1)).map (Value.int .u16))/\Own w S w' [R xs]):=by
 refine Qah (n:=14) func148 rfl ntmps148 rfl ?_
 have Y:=Own.lent hR hlt
 obtain ⟨es,clock,hm0,hE⟩:=hm
 refine Qae (Qab (Qaa (Qnm (V:=.map (some r)) Quj (QbW.own hc Y hSb) rfl rfl ?_)))
 have hat:=Y.at hm0 hSr
 refine Qaa (QoS Qjx hat Y rfl fun it w1 Y=>(Qad (Qal (QaE (fun J μ J' w'=>∃ (Jo:Env) (pre:List Int) (seen:Array Nat),J'=mix ([3]++sq 6 8) Jo J/\(((left es seen).map (·.key)++pre.map (Value.int .u16)).Perm ((lm.map (·.1)).map (Value.int .u16)))/\μ=(left es seen).length/\Own w S w' [R (pre.map (Value.int .u16)),QjW it r clock seen]) ?_ ?_))))
 ·exact ⟨_,_,[],#[],Qao (ds:=([3]++sq 6 8)) (Agr.refl _ _),(by rw [Qi8,hE.keys];simp),rfl,Y⟩
 rintro μ J' w2 ⟨Jo,pre,seen,rfl,hp,rfl,Y⟩
 refine Qae (Qab (Qaa (Qr5 (seen:=seen) (Y.at hm0 hSr) hE.old Y 1 rfl rfl (fun h0=>?_) (fun e3 ha w4 Y=>?_))))
 ·
  refine Qaa (QaC (V:=.bool false) rfl rfl (Qad (Qae (Qce rfl ?_))))
  refine QaI ?_
  refine ⟨_,Qbl results148,?_⟩
  rw [h0] at hp
  exact ⟨_,pre.map (Value.int .u16),rfl,hp,Y.only 0 rfl⟩
 obtain ⟨k,hk,hkey⟩:=QkC hE (Qgk ha)
 refine Qaa (QaC (V:=.bool true) rfl rfl (Qad (Qae (QcO rfl ?_))))
 refine Qap (Qal (Qae (Qab (Qaa (Qkn (V:=(Value.int .u16) k) (Y.at hm0 hSr) hE.inc (Qgk ha) hkey Y 1 rfl rfl (Qaa (QaC (V:=I7 k) rfl rfl (Qaa (Qam (I7 k) (Qad (Qae (Qab (Qaa (Qaf (.func (.yield l) #[] #[]) (Qaa (Qaf (I7 k) ?_))))))))))))))))
 have hst:=QiW hE ha hkey hp
 refine Qaa (Qk4 (R:=R) (pre:=pre.map (Value.int .u16)) (v:=(Value.int .u16) k) hy rfl rfl (hok pre k hst.2.2 hk) Y 0 rfl fun w5 Y=>(Qaa (QbB rfl (Qad (Qce rfl ?_)))))
 refine Qap ?_
 have e1:(pre++[k]).map (Value.int .u16)=pre.map (Value.int .u16)++[(Value.int .u16) k]:=by simp
 rw [← e1] at Y
 refine ⟨_,?_,_,pre++[k],seen.push e3.born,Qao (ds:=([3]++sq 6 8)) (by repeat (first|exact Agr.refl _ _|refine Agr.upd ?_ rfl|refine Agr.mix ?_ rfl)),hst.1,rfl,Y.take 2⟩
 exact hst.2.1
theorem QqO (w:World) (r:Nat):Calls prog 96 #[.map (some r)] w (fun e w'=>∃ x:Nat,e = .returned (.func (.func 148) #[] #[.pointer (some ⟨x,0,none⟩)])/\Own w no w' [blk x [.map (some r)] 100]/\True):=by
 refine Qah (n:=4) func96 rfl ntmps96 rfl ?_
 have Y:=Own.start w
 refine Qae (Qab (Qaa (QaY (V:=.map (some r)) (cs:=[.map (some r)]) rfl rfl Y fun b1 w2 Y=>(Qaa (Qam .nilFunc (Qad (Qae (Qab (Qaa (QcL (cs:=[Pq b1 0]) rfl rfl (Qaa (Qam (.func (.func 148) #[] #[Pq b1 0]) (Qad (Qav ?_))))))))))))))
 refine ⟨_,Qan (V:=.func (.func 148) #[] #[Pq b1 0]) results96 rfl,?_⟩
 exact ⟨b1,rfl,Y.only 0 rfl,trivial⟩
theorem Qvr {w:World} {bx r N:Nat} {lm:List (Int × Int)} (hc:QbW w bx [.map (some r)]) (hm:Qiy w r (Value.int .u16) (Value.int .u32) lm) (hN:lm.length<=N) :
  Gives prog 148 [.pointer (some ⟨bx,0,none⟩)] (okS (Value.int .u16) N) (fun xs=>xs.Perm ((lm.map (·.1)).map (Value.int .u16))) w:=by
 rintro l w1 R S ⟨L1,hs1⟩ hlt hS hR hy
 have hb:bx<w.heap.size:=World.block_lt_of_cell? _ _ (hc 0 _ rfl)
 have hr:r<w.heap.size:=by obtain ⟨es,clock,h,_⟩:=hm;exact (Array.getElem?_eq_some_iff.1 h).1
 exact QnT w1 S bx r l lm R (okS (Value.int .u16) N) (fun pre k hp _=>⟨⟨k,rfl⟩,by rw [QQ6];omega⟩) hy hR hlt (fun h=>hS _ h hb) (fun h=>hS _ h hr) (hc.own' hs1) (hm.own' hs1)
theorem Qn8 (w:World) (r:Nat) (m:List (Int × Int)) (hm:Qiy w r (Value.int .u16) (Value.int .u32) m) (hlm:m.length<=100000) (hsortU:Qg2 prog 134 .u16 32):Calls prog 50 #[.map (some r)] w (fun e w'=>∃ x:Option Addr × Nat,e = .returned (.slice x.1 (QaO (m.map (·.1))).length x.2)/\Own w no w' [row (.slice x.1 (QaO (m.map (·.1))).length x.2) ((QaO (m.map (·.1))).map (ic .u16)) 32 1]/\True):=by
 refine Qah (n:=6) func50 rfl ntmps50 rfl ?_
 have Y:=Own.start w
 refine Qae (Qab (Qaa (Qam (.slice none 0 0) (Qad (Qae (Qab (Qaa (Qaf (.map (some r)) (Qaa (Qbr (vs:=[.map (some r)]) (V:=fun x:Nat=>.func (.func 148) #[] #[Pq x 0]) Qx1 rfl rfl (QqO _ r) Y fun x1 w2 Y _=>(Qaa (Qbr (vs:=[.func (.func 148) #[] #[Pq x1 0]]) (V:=fun x:Option Addr × Nat=>.slice x.1 (QaO (m.map (·.1))).length x.2) (Lo:=fun x=>[row (.slice x.1 (QaO (m.map (·.1))).length x.2) ((QaO (m.map (·.1))).map (ic .u16)) 32 1]) (F:=fun _ _=>True) Quq rfl rfl ?hc Y fun x3 w4 Y hF5=>?_))))))))))))
 case hc=>exact ((Qhu _ 148 1000000 [.pointer (some ⟨x1,0,none⟩)] Qvs (by decide) (fun xs=>xs.Perm ((m.map (·.1)).map (Value.int .u16))) (Qvr (Y.cellsf 0 rfl) (Qiy.own hm Y (fun h=>h)) (by omega)) hsortU).mono fun e w' ⟨y,he,ho,m0,hm0,hy⟩=>by
   have hy2:y.1=QaO (m.map (·.1)):=by rw [hy];exact QiP hm0
   rw [hy2] at he ho
   exact ⟨(y.2.1,y.2.2),he,ho,trivial⟩)
 refine Qaa (Qam (.slice x3.1 ((QaO (m.map (·.1))).length) x3.2) (Qad (Qav ?_)))
 refine ⟨_,Qan (V:=.slice x3.1 ((QaO (m.map (·.1))).length) x3.2) results50 rfl,?_⟩
 exact ⟨(x3.1,x3.2),rfl,Y.only 1 rfl,trivial⟩
end Tt
end Go.Proofs
namespace Go.Proofs
open Go Go.Vx Go.RowKit
open Tryz
namespace Tt
theorem QoM (w:World) (a:Option Addr) (c:Nat) (l:List Cen) (g:Nat) (caps:List Value) (hg:En prog g) (p:Cen->Bool) (hp:∀ (w1:World) (L1:List Res),Own w no w1 L1->∀ x∈l,Calls prog g ([(.agg (cec x).toArray:Value)]++caps).toArray w1 (fun e w'=>e = .returned (.bool (p x))/\Own w1 no w' [])) (hr:Rd w (.slice a l.length c) 7 (l.map cec)):Calls prog 88 #[.slice a l.length c,.func (.func g) #[] caps.toArray] w (fun e w'=>e = .returned (.int .i64 (Qe7 p l))/\Own w no w' []):=by
 refine Qah (n:=19) func88 rfl ntmps88 rfl ?_
 have Y:=Own.start w
 have hn:=hr.sml
 refine Qae (Qab (Qaa (Qam (I6 0) (Qad (Qae (Qae (Qab (Qaa (Qaf (.slice a l.length c) (Qaa (Qa5 (n:=l.length) QbK (Rd.own' hr Y) (by simp) rfl (Qaa (Qaf (I6 0) (Qad (Qal (QaE (fun J μ J' w'=>∃ (Jo:Env) (k:Nat),J'=upd (mix ([4,5]++sq 8 11) Jo J) 8 (I6 (k:Int))/\(k<=l.length)/\(∀ j:Nat,j<k->p (gd l j)=false)/\μ=l.length-k/\Own w no w' []) ?_ ?_))))))))))))))))
 ·exact ⟨_,_,0,Qai (Qao (ds:=([4,5]++sq 8 11)) (Agr.refl _ _)) rfl,(by omega),(fun j hj=>absurd hj (Nat.not_lt_zero j)),rfl,Y⟩
 rintro μ J' w1 ⟨Jo,k,rfl,hk,hno,rfl,Y⟩
 refine Qae (Qab (Qaa (Qa0 rfl rfl (Qad (Qae (Qak (t:=decide ((k:Int)<((l.length:Nat):Int))) rfl (fun c2=>?_) (fun c2=>?_)))))))
 ·
  replace c2:=QQ1 c2
  refine Qap (Qae (Qal (Qae (Qab (Qaa (Qaf (I6 (k:Int)) (Qaa (Qam (I6 (k:Int)) (Qad (Qae (Qab (Qaa (Qaf (.func (.func g) #[] caps.toArray) (Qaa (Qaf (.slice a l.length c) (Qaa (Qaf (I6 (k:Int)) (Qaa (Qax QbK QaF.1 (Rd.own' hr Y) rfl rfl (by omega) (by rw [QQ6];omega) (Qaa (Qa9 (j:=0) (vs:=cec (gd l k)) k QaF (Rd.own' hr Y) (Qa4 (by omega)) rfl rfl rfl (by omega) (Qaa (Qfu (vs:=[.agg (cec (gd l k)).toArray]) (cs:=caps) (V:=.bool (p (gd l k))) hg rfl rfl (hp _ _ Y (gd l k) (Qbo (by omega))) Y fun w3 Y=>(Qad (Qak (t:=p (gd l k)) rfl (fun c4=>?_) (fun c4=>?_))))))))))))))))))))))))))
  ·
   refine Qae (Qab (Qaa (Qaf (I6 (k:Int)) (Qaa (Qam (I6 (k:Int)) (Qad (Qav ?_)))))))
   refine ⟨_,Qan (V:=I6 (k:Int)) results88 rfl,(Zr Y ?_)⟩
   exact congrArg (Value.int .i64) (QjR (by omega) hno c4).symm
  refine Qap (Qab (Qaa (QaB (a:=(k:Int)) (b:=1) (c:=(k:Int)+1) rfl rfl (Qbx (by omega) (by omega)) (Qaa (Qaf (I6 ((k:Int)+1)) (Qad ?_))))))
  refine ⟨_,?_,_,k+1,Qai (Qao (ds:=([4,5]++sq 8 11)) (by repeat (first|exact Agr.refl _ _|refine Agr.upd ?_ rfl|refine Agr.mix ?_ rfl))) rfl,(by omega),(Qdo hno c4),rfl,Y.take 0⟩
  omega
 replace c2:=QQ2 c2
 refine QaI (Qae (Qab (Qaa (Qam (I6 (-1)) (Qad (Qav ?_))))))
 refine ⟨_,Qan (V:=I6 (-1)) results88 rfl,(Zr Y ?_)⟩
 exact congrArg (Value.int .i64) (Qoy fun j hj=>hno j (by omega)).symm
end Tt
end Go.Proofs
namespace Go.Proofs
open Go Go.Vx Go.RowKit
open Tryz
namespace Tt
theorem Qi7 (w:World) (S:Nat->Prop) (a:Option Addr) (c:Nat) (l:List Cen) (g:Nat) (caps:List Value) (hg:En prog g) (p:Cen->Bool) (hp:∀ (w1:World) (L1:List Res),Own w S w1 L1->∀ x∈l,Calls prog g ([(.agg (cec x).toArray:Value)]++caps).toArray w1 (fun e w'=>e = .returned (.bool (p x))/\Own w1 no w' [])) (hR:(row (.slice a l.length c) (l.map cec) 106 7).holds w S) (hlt:∀ b,S b->b<w.heap.size):Calls prog 42 #[.slice a l.length c,.func (.func g) #[] caps.toArray] w (fun e w'=>∃ x:Unit,e = .returned (.slice a (l.filter fun x=>!p x).length c)/\Own w S w' [row (.slice a (l.filter fun x=>!p x).length c) ((l.filter fun x=>!p x).map cec) 106 7]/\True):=by
 refine Qah (n:=42) func42 rfl ntmps42 rfl ?_
 have Y:=Own.lent hR hlt
 have hn:=(Y.rd 0 rfl).sml
 have hlc:=(Y.rd 0 rfl).roomM
 refine Qae (Qab (Qaa (Qam (.slice none 0 0) (Qad (Qae (Qab (Qaa (Qaf (.slice a l.length c) (Qaa (Qaf (.func (.func g) #[] caps.toArray) (Qaa (Qas (vs:=[.slice a l.length c,.func (.func g) #[] caps.toArray]) (V:=I6 (Qe7 p l)) QxO rfl rfl ?hc Y fun w1 Y=>?_))))))))))))
 case hc=>exact (QoM _ a c l g caps hg p (fun w1 L1 h=>hp w1 _ (Y.call h)) (Y.rd 0 rfl))
 refine Qaa (Qam (I6 (Qe7 p l)) (Qad (Qae (Qae ?_))))
 rcases Qlh (p:=p) (l:=l) with hk2|hk2
 ·
  obtain ⟨hf1,hfl⟩:=hk2
  refine Qab (Qaa (Qa8 (V:=I6 (Qe7 p l)) (V':=I6 (-1)) (Qaf (I6 (Qe7 p l)) ⟨rfl,rfl⟩) (congrArg (Value.int .i64) hf1) (Qaa (Qa8 (V:=.bool (decide ((-1:Int) = -1))) (V':=.bool true) (QaT rfl rfl ⟨rfl,rfl⟩) (congrArg Value.bool (QQ3 rfl)) (Qad (QcO rfl ?_))))))
  refine Qae (Qab (Qaa (Qaf (.slice a l.length c) (Qaa (Qam (.slice a l.length c) (Qad (Qav ?_)))))))
  refine ⟨_,Qan (V:=.slice a l.length c) results42 rfl,?_⟩
  rw [hfl]
  exact ⟨(),rfl,Y.take 1,trivial⟩
 obtain ⟨k0,hf1,hk0l,hpk,hft⟩:=hk2
 refine Qab (Qaa (Qa8 (V:=I6 (Qe7 p l)) (V':=I6 (k0:Int)) (Qaf (I6 (Qe7 p l)) ⟨rfl,rfl⟩) (congrArg (Value.int .i64) hf1) (Qaa (Qa8 (V:=.bool (decide ((k0:Int) = -1))) (V':=.bool false) (QaT rfl rfl ⟨rfl,rfl⟩) (congrArg Value.bool (QQ4 (by omega))) (Qad (Qce rfl ?_))))))
 refine Qap (Qae (Qae (Qab (Qaa (Qa8 (V:=I6 (Qe7 p l)) (V':=I6 (k0:Int)) (Qaf (I6 (Qe7 p l)) ⟨rfl,rfl⟩) (congrArg (Value.int .i64) hf1) (Qaa (QaB (a:=(k0:Int)) (b:=1) (c:=((k0+1:Nat):Int)) rfl rfl (Qaj (by omega) (by omega)) (Qaa (Qam (I6 ((k0+1:Nat):Int)) (Qad (Qal (QaE (fun J μ J' w'=>∃ (Jo:Env) (i:Nat) (j:Nat) (m:List Cen),J'=upd (upd (mix ([5,6,7]++sq 16 20) Jo J) 5 (I6 (i:Int))) 6 (I6 (j:Int))/\(i<j)/\(j<=l.length)/\(Moved p l m i j)/\μ=l.length-j/\Own w S w' [row (.slice a l.length c) (m.map cec) 106 7]) ?_ ?_))))))))))))
 ·exact ⟨_,_,k0,k0+1,l,Qai (Qai (Qao (ds:=([5,6,7]++sq 16 20)) (Agr.refl _ _)) (congrArg (Value.int .i64) hf1)) rfl,(by omega),(by omega),(QgC hk0l hpk hft),rfl,Y⟩
 rintro μ J' w2 ⟨Jo,i,j,m,rfl,hij,hj,hmv,rfl,Y⟩
 have hml:=hmv.1
 refine Qae (Qae (Qab (Qaa (Qaf (I6 (j:Int)) (Qaa (Qaf (.slice a l.length c) (Qaa (Qa5 (n:=l.length) QbK (Y.rd 0 rfl) (by simp [hmv.1]) rfl (Qaa (Qa0 rfl rfl (Qad (Qak (t:=decide ((j:Int)<((l.length:Nat):Int))) rfl (fun c3=>?_) (fun c3=>?_)))))))))))))
 ·
  replace c3:=QQ1 c3
  refine Qap (Qae (Qal (Qae (Qab (Qaa (Qaf (.slice a l.length c) (Qaa (Qaf (I6 (j:Int)) (Qaa (Qax QbK QaF.1 (Y.rd 0 rfl) rfl rfl (by omega) (by rw [QQ6];omega) (Qaa (Qa9 (j:=0) (vs:=cec (gd m j)) j QaF (Y.rd 0 rfl) (Qa4 (by omega)) rfl rfl rfl (by omega) (Qaa (QaJ (cs:=cec (⟨0,0,0,0,(⟨0,0⟩:Dot),0⟩:Cen)) Qgb rfl Y fun b4 w5 Y=>(Qaa (Qcz (V:=.agg (cec (gd m j)).toArray) (vs:=cec (gd m j)) (cs':=cec (gd m j)) QaF.1 Y 1 rfl rfl rfl rfl rfl (QQ8 rfl) (Qby _) (Qaz rfl) fun w6 Y=>(Qad (Qae (Qab (Qaa (Qaf (.func (.func g) #[] caps.toArray) (Qaa (QaK (cs:=cec (gd m j)) QaF Y 1 rfl rfl rfl (Qaa (Qfu (vs:=[.agg (cec (gd m j)).toArray]) (cs:=caps) (V:=.bool (p (gd m j))) hg rfl rfl (hp _ _ Y (gd m j) (by rw [hmv.2.2 _ (Nat.le_refl _)];exact Qbo (by omega))) Y fun w7 Y=>(Qaa (QbB rfl (Qad (Qak (t:=!(p (gd m j))) rfl (fun c8=>?_) (fun c8=>?_))))))))))))))))))))))))))))))
  ·
   replace c8:=QbE c8
   refine Qae (Qab (Qaa (Qaf (.slice a l.length c) (Qaa (Qaf (I6 (i:Int)) (Qaa (QaK (cs:=cec (gd m j)) QaF Y 1 rfl rfl rfl (Qaa (Qax QbK QaF.1 (Y.rd 0 rfl) rfl rfl (by omega) (by rw [QQ6];omega) (Qaa (Qh8 (z:=gd m j) i QaF.1 Y 0 rfl rfl rfl (by first|omega|(simp only [List.length_set];omega)) rfl rfl rfl (Qby _) fun w9 Y=>?_)))))))))))
   replace Y:=Ow [row (.slice a l.length c) ((m.set i (gd m j)).map cec) 106 7,blk b4 (cec (gd m j)) 106] Y
   refine Qad (Qab (Qaa (Qaf (I6 (i:Int)) (Qaa (QaB (a:=(i:Int)) (b:=1) (c:=((i+1:Nat):Int)) rfl rfl (Qaj (by omega) (by omega)) (Qaa (Qam (I6 ((i+1:Nat):Int)) (Qad (Qab (Qaa (Qaf (I6 (j:Int)) (Qaa (QaB (a:=(j:Int)) (b:=1) (c:=((j+1:Nat):Int)) rfl rfl (Qaj (by omega) (by omega)) (Qaa (Qam (I6 ((j+1:Nat):Int)) (Qad ?_))))))))))))))))
   refine ⟨_,?_,_,i+1,j+1,m.set i (gd m j),Qai (Qai (Qao (ds:=([5,6,7]++sq 16 20)) (by repeat (first|exact Agr.refl _ _|refine Agr.upd ?_ rfl|refine Agr.mix ?_ rfl))) rfl) rfl,(by omega),(by omega),(Qhr hmv (by omega) (by omega) c8),rfl,Y.take 1⟩
   omega
  replace c8:=Qbd c8
  refine Qap (Qab (Qaa (Qaf (I6 (j:Int)) (Qaa (QaB (a:=(j:Int)) (b:=1) (c:=((j+1:Nat):Int)) rfl rfl (Qaj (by omega) (by omega)) (Qaa (Qam (I6 ((j+1:Nat):Int)) (Qad ?_))))))))
  refine ⟨_,?_,_,i,j+1,m,Qai (Qai (Qao (ds:=([5,6,7]++sq 16 20)) (by repeat (first|exact Agr.refl _ _|refine Agr.upd ?_ rfl|refine Agr.mix ?_ rfl))) rfl) rfl,(by omega),(by omega),(QhR hmv (by omega) c8),rfl,Y.take 1⟩
  omega
 replace c3:=QQ2 c3
 refine QaI (Qae (Qab (Qaa (Qaf (.slice a l.length c) (Qaa (Qaf (I6 (i:Int)) (Qaa (QlO (l:=i) (h:=l.length) (m:=c) (n':=(m.drop i).length) Qdi QaF.1 (Y.rd 0 rfl) rfl (.inr ⟨_,_,rfl,rfl⟩) (.inl ⟨rfl,rfl⟩) (.inl ⟨rfl,rfl⟩) (by omega) (by omega) (Nat.le_trans (show l.length<=m.length by omega) (Rd.roomM (Y.rd 0 rfl))) (Nat.le_refl _) (by simp only [List.length_take,List.length_drop]<;>omega) ?_))))))))
 refine Qaa (Qk8 QfD Y 0 rfl rfl (by rw [QQ6]<;>omega) (by simp only [QQ6,List.length_drop]<;>omega) (by intro v hv;have e:=Qnl hv Qgb;subst e;exact (Qby _)) fun w10 Y=>(Qad (Qae (Qab (Qaa (Qaf (.slice a l.length c) (Qaa (Qaf (I6 (i:Int)) (Qaa (Qed (l:=0) (h:=i) (n':=i) Qdi QaF.1 (by omega) rfl (.inl ⟨rfl,rfl⟩) (.inr ⟨_,_,rfl,rfl⟩) (by omega) (by omega) (by omega) (Qaa (Qam (.slice (sla a 0 c 7) i (c-0)) (Qad (Qav ?_))))))))))))))
 refine ⟨_,Qan (V:=.slice (sla a 0 c 7) i (c-0)) results42 rfl,?_⟩
 have he:=Qjq hmv (by omega)
 have hil:i=(l.filter fun x=>!p x).length:=by rw [← he,List.length_take,hmv.1];omega
 replace Y:=Y.take 1
 simp only [List.set_cons_zero,List.take_succ_cons,List.take_zero,← List.map_take,he] at Y
 rw [← hil]
 refine ⟨(),?_,Y,trivial⟩
 rw [QfI,Nat.sub_zero]
end Tt
end Go.Proofs
namespace Go.Proofs
open Go Go.Vx Go.RowKit
open Tryz
namespace Tt
theorem Qek (w:World) (p:Pst) (a1:Option Addr) (c1:Nat) (a2:Option Addr) (c2:Nat) (a3:Option Addr) (c3:Nat) (cut:Vec) (hcut:QbH cut) (hsortE:Qhn prog 48 49 cec 106 7 Qlk) (hsortU:Qg2 prog 134 .u16 32) (hok:Qee p) (hle:p.base.ents.length<=400) (hlt:p.base.ticks.length<=400) (hlo:p.ops.length<=400) (hr1:Rd w (.slice a1 p.base.ents.length c1) 7 (p.base.ents.map cec)) (hr2:Rd w (.slice a2 p.base.ticks.length c2) 2 (p.base.ticks.map lsc)) (hr3:Rd w (.slice a3 p.ops.length c3) 23 (p.ops.map oc)):Calls prog 12 #[.agg (((vc p.base.known)++[(.slice a1 p.base.ents.length c1:Value),(.slice a2 p.base.ticks.length c2:Value) ])++[(.slice a3 p.ops.length c3:Value) ]++(vc p.known)).toArray,.agg (vc cut).toArray] w (fun e w'=>∃ x:(Option Addr × Nat) × (Option Addr × Nat),e = .returned (.tuple #[.agg (vc (Qag p cut).known++[(.slice x.1.1 (Qag p cut).ents.length x.1.2:Value),(.slice x.2.1 (Qag p cut).ticks.length x.2.2:Value)]).toArray,.int .i64 (Qbu p cut)])/\Own w no w' [row (.slice x.1.1 (Qag p cut).ents.length x.1.2) ((Qag p cut).ents.map cec) 106 7,row (.slice x.2.1 (Qag p cut).ticks.length x.2.2) ((Qag p cut).ticks.map lsc) 102 2]/\True):=by
 refine Qah (n:=126) func12 rfl ntmps12 rfl ?_
 have Y:=Own.start w
 have ⟨hokb,hoko,hokk⟩:=hok
 have hn1:=hr1.sml
 have hn2:=hr2.sml
 have hn3:=hr3.sml
 refine Qae (Qab (Qaa (QaY (V:=.agg (((vc p.base.known)++[(.slice a1 p.base.ents.length c1:Value),(.slice a2 p.base.ticks.length c2:Value) ])++[(.slice a3 p.ops.length c3:Value) ]++(vc p.known)).toArray) (cs:=((vc p.base.known)++[(.slice a1 p.base.ents.length c1:Value),(.slice a2 p.base.ticks.length c2:Value) ])++[(.slice a3 p.ops.length c3:Value) ]++(vc p.known)) rfl rfl Y fun b1 w2 Y=>(Qaa (QaY (V:=.agg (vc cut).toArray) (cs:=vc cut) rfl rfl Y fun b3 w4 Y=>(Qaa (QaJ (cs:=(vc vzero)++[(.slice none 0 0:Value),(.slice none 0 0:Value) ]) Qgg rfl Y fun b5 w6 Y=>(Qaa (Qam (I6 0) (Qad (Qae (Qae (Qab (Qaa (QaK (cs:=((vc p.base.known)++[(.slice a1 p.base.ents.length c1:Value),(.slice a2 p.base.ticks.length c2:Value) ])++[(.slice a3 p.ops.length c3:Value) ]++(vc p.known)) QdB Y 0 rfl rfl rfl (Qaa (QaK (cs:=vc cut) QbC Y 1 rfl rfl rfl (Qaa (Qas (vs:=[.agg (((vc p.base.known)++[(.slice a1 p.base.ents.length c1:Value),(.slice a2 p.base.ticks.length c2:Value) ])++[(.slice a3 p.ops.length c3:Value) ]++(vc p.known)).toArray,.agg (vc cut).toArray]) (V:=I6 (Qbu p cut)) QvQ rfl rfl ?hc Y fun w7 Y=>?_)))))))))))))))))))
 case hc=>exact (Qox _ p a1 c1 a2 c2 a3 c3 cut hcut hok hle hlt hlo (Rd.own' hr1 Y) (Rd.own' hr2 Y) (Rd.own' hr3 Y))
 refine Qaa (Qam (I6 (Qbu p cut)) (Qad (Qae (Qab (Qaa (Qaf (I6 (Qbu p cut)) (Qaa (Qck rfl rfl (Qad (Qak (t:=!decide (Qbu p cut=0)) rfl (fun c8=>?_) (fun c8=>?_)))))))))))
 ·
  replace c8:=QbE c8
  replace c8:=QQ2 c8
  refine Qae (Qab (Qaa (QcQ (vs:=[]) (cs:=(vc vzero)++[(.slice none 0 0:Value),(.slice none 0 0:Value) ]) [vc vzero,[(.slice none 0 0:Value)],[(.slice none 0 0:Value)]] [vc vzero,[(.slice none 0 0:Value)],[(.slice none 0 0:Value)]] QnW rfl (rfl) rfl rfl (Qaa (Qaf (I6 (Qbu p cut)) (Qaa (Qcz (V:=.agg ((vc vzero)++[(.slice none 0 0:Value),(.slice none 0 0:Value) ]).toArray) (vs:=(vc vzero)++[(.slice none 0 0:Value),(.slice none 0 0:Value) ]) (cs':=(vc vzero)++[(.slice none 0 0:Value),(.slice none 0 0:Value) ]) Qb4.1 Y 2 rfl rfl rfl rfl rfl (QQ8 rfl) (Qbq (Qb0 _) (Qat rfl (Qat rfl Qa2))) (Qaz rfl) fun w9 Y=>?_)))))))
  replace Y:=Ow [blk b1 (((vc p.base.known)++[(.slice a1 p.base.ents.length c1:Value),(.slice a2 p.base.ticks.length c2:Value) ])++[(.slice a3 p.ops.length c3:Value) ]++(vc p.known)) 43,blk b3 (vc cut) 24,blk b5 ((vc vzero)++[(.slice none 0 0:Value),(.slice none 0 0:Value) ]) 38] Y
  refine Qaa (Qam (I6 (Qbu p cut)) (Qad (Qav ?_)))
  refine ⟨_,Qct (cs:=(vc vzero)++[(.slice none 0 0:Value),(.slice none 0 0:Value) ]) (V:=I6 (Qbu p cut)) results12 Qb4 Y 2 rfl rfl rfl rfl,?_⟩
  rw [Qoo c8]
  exact ⟨((none,0),(none,0)),rfl,((Y.take 0).more _ (Qbi _ _ 106 7)).more _ (Qbi _ _ 102 2),trivial⟩
 replace c8:=Qbd c8
 replace c8:=QQ1 c8
 refine Qap (Qae (Qab (Qaa (QaJ (cs:=[.slice none 0 0]) QwZ rfl Y fun b10 w11 Y=>?_))))
 replace Y:=Ow [blk b1 (((vc p.base.known)++[(.slice a1 p.base.ents.length c1:Value),(.slice a2 p.base.ticks.length c2:Value) ])++[(.slice a3 p.ops.length c3:Value) ]++(vc p.known)) 43,blk b3 (vc cut) 24,blk b5 ((vc vzero)++[(.slice none 0 0:Value),(.slice none 0 0:Value) ]) 38,blk b10 [.slice none 0 0] 29] Y
 refine Qad (Qae (Qab (Qaa (QfJ rfl Y (Value.int .u16) (Value.int .u32) fun mr12 w13 Y=>(Qaa (Qam (.map (some mr12)) (Qad (Qae (Qae (Qab (Qaa (Qac Qe4 rfl (Qaa (Qac Qc0 rfl (Qaa (QaN (.slice a2 p.base.ticks.length c2) Qf5 Y 0 (Qaa (Qa5 (n:=p.base.ticks.length) QeS (Rd.own' hr2 Y) (by simp) rfl (Qaa (Qaf (I6 0) (Qad (Qal ?_))))))))))))))))))))))
 have hr0:=(Qej c8).1
 obtain ⟨hopsC,hrb⟩:=QdT hr0
 refine QaE (fun J μ J' w'=>∃ (Jo:Env) (k:Nat) (tm:List (Int × Int)),J'=upd (mix ([10]++sq 29 10) Jo J) 29 (I6 (k:Int))/\(k<=p.base.ticks.length)/\(tm=tk0 (p.base.ticks.take k))/\μ=p.base.ticks.length-k/\Own w no w' [blk b1 (((vc p.base.known)++[(.slice a1 p.base.ents.length c1:Value),(.slice a2 p.base.ticks.length c2:Value) ])++[(.slice a3 p.ops.length c3:Value) ]++(vc p.known)) 43,blk b3 (vc cut) 24,blk b5 ((vc vzero)++[(.slice none 0 0:Value),(.slice none 0 0:Value) ]) 38,blk b10 [.slice none 0 0] 29,QfC mr12 (Value.int .u16) (Value.int .u32) tm]) ?_ ?_
 ·exact ⟨_,_,0,[],Qai (Qao (ds:=([10]++sq 29 10)) (Agr.refl _ _)) rfl,(by omega),rfl,rfl,Y⟩
 rintro μ J' w14 ⟨Jo,k,tm,rfl,hk,htm,rfl,Y⟩
 refine Qae (Qab (Qaa (Qa0 rfl rfl (Qad (Qae (Qak (t:=decide ((k:Int)<((p.base.ticks.length:Nat):Int))) rfl (fun c15=>?_) (fun c15=>?_)))))))
 ·
  replace c15:=QQ1 c15
  refine Qap (Qae (Qal (Qae (Qab (Qaa (Qax QeS QbS.1 (Rd.own' hr2 Y) rfl rfl (by omega) (by rw [QQ6];omega) (Qaa (Qa9 (j:=0) (vs:=lsc (gd p.base.ticks k)) k QbS (Rd.own' hr2 Y) (Qa4 (by omega)) rfl rfl rfl (by omega) (Qaa (QaJ (cs:=lsc (⟨0,0⟩:Lst)) Qlm rfl Y fun b16 w17 Y=>(Qaa (Qcz (V:=.agg (lsc (gd p.base.ticks k)).toArray) (vs:=lsc (gd p.base.ticks k)) (cs':=lsc (gd p.base.ticks k)) QbS.1 Y 5 rfl rfl rfl rfl rfl (QQ8 rfl) (Qcp _) (Qaz rfl) fun w18 Y=>(Qad (Qab (Qaa (Qaf (.map (some mr12)) (Qaa (Qac QeP rfl (Qaa (QaN (I7 ((gd p.base.ticks k).cart)) Qar Y 5 (Qaa (Qac QeO rfl (Qaa (QaN (.int .u32 ((gd p.base.ticks k).tick)) QaU Y 5 (Qaa (QfA (k:=(gd p.base.ticks k).cart) (v:=(gd p.base.ticks k).tick) Qjx QjX Y 4 rfl rfl rfl rfl fun w19 Y=>?_))))))))))))))))))))))))))
  replace Y:=Ow [blk b1 (((vc p.base.known)++[(.slice a1 p.base.ents.length c1:Value),(.slice a2 p.base.ticks.length c2:Value) ])++[(.slice a3 p.ops.length c3:Value) ]++(vc p.known)) 43,blk b3 (vc cut) 24,blk b5 ((vc vzero)++[(.slice none 0 0:Value),(.slice none 0 0:Value) ]) 38,blk b10 [.slice none 0 0] 29,QfC mr12 (Value.int .u16) (Value.int .u32) (mput ((gd p.base.ticks k).cart) ((gd p.base.ticks k).tick) tm),blk b16 (lsc (gd p.base.ticks k)) 102] Y
  refine Qad (Qab (Qaa (QaB (a:=(k:Int)) (b:=1) (c:=((k+1:Nat):Int)) rfl rfl (Qaj (by omega) (by omega)) (Qaa (Qaf (I6 ((k+1:Nat):Int)) (Qad ?_))))))
  refine ⟨_,?_,_,k+1,mput ((gd p.base.ticks k).cart) ((gd p.base.ticks k).tick) tm,Qai (Qao (ds:=([10]++sq 29 10)) (by repeat (first|exact Agr.refl _ _|refine Agr.upd ?_ rfl|refine Agr.mix ?_ rfl))) rfl,(by omega),(by rw [Qqk (by omega),← htm]),rfl,Y.take 5⟩
  omega
 replace c15:=QQ2 c15
 refine QaI (Qae (Qab (Qaa (Qac Qe4 rfl (Qaa (Qac Qdx rfl (Qaa (QaN (.slice a1 p.base.ents.length c1) QgK Y 0 (Qaa (Qbr (vs:=[.slice a1 p.base.ents.length c1]) (V:=fun x:Option Addr × Nat=>.slice x.1 (p.base.ents).length x.2) QvU rfl rfl (QiH _ a1 c1 p.base.ents (by omega) (Rd.own' hr1 Y)) Y fun x20 w21 Y _=>(Qaa (Qam (.slice x20.1 ((p.base.ents).length) x20.2) (Qad (Qae (Qae (Qab (Qaa (Qac QiA rfl (Qaa (QaN (.slice a3 p.ops.length c3) Qj5 Y 0 (Qaa (Qa5 (n:=p.ops.length) QbG (Rd.own' hr3 Y) (by simp) rfl (Qaa (Qaf (I6 0) (Qad (Qal ?_))))))))))))))))))))))))))
 have htm0:tm=tk0 p.base.ticks:=by rw [htm,QcC (by omega)]
 replace Y:=Y.more (row (.slice none 0 0) (List.map oc []) 98 23) (Qbi _ _ _ _)
 refine QaE (fun J μ J' w'=>∃ (Jo:Env) (k2:Nat) (a8:Option Addr) (cb8:Nat) (l8:List Opn) (a7:Option Addr) (cb7:Nat) (L7:List Cen) (tm2:List (Int × Int)),J'=upd (upd (mix ([11,13]++sq 46 53) Jo J) 46 (I6 (k2:Int))) 11 (.slice a7 L7.length cb7)/\(k2<=p.ops.length)/\(l8=Qaq (p.ops.take k2) cut)/\(L7=Qcb p.base.ents l8)/\(tm2=tkM (tk0 p.base.ticks) l8)/\(L7.length<=p.base.ents.length+k2)/\(l8.length<=k2)/\μ=p.ops.length-k2/\Own w no w' [blk b1 (((vc p.base.known)++[(.slice a1 p.base.ents.length c1:Value),(.slice a2 p.base.ticks.length c2:Value) ])++[(.slice a3 p.ops.length c3:Value) ]++(vc p.known)) 43,blk b3 (vc cut) 24,blk b5 ((vc vzero)++[(.slice none 0 0:Value),(.slice none 0 0:Value) ]) 38,blk b10 [.slice a8 l8.length cb8] 29,QfC mr12 (Value.int .u16) (Value.int .u32) tm2,row (.slice a7 L7.length cb7) (L7.map cec) 106 7,row (.slice a8 l8.length cb8) (l8.map oc) 98 23]) ?_ ?_
 ·exact ⟨_,_,0,none,0,[],x20.1,x20.2,p.base.ents,tm,Qai (Qai (Qao (ds:=([11,13]++sq 46 53)) (Agr.refl _ _)) rfl) rfl,(by omega),rfl,(by simp [Qcb]),(by rw [htm0];rfl),(by omega),(Nat.le_refl _),rfl,Y⟩
 rintro μ J' w22 ⟨Jo,k2,a8,cb8,l8,a7,cb7,L7,tm2,rfl,hk2,hl8,hL7,htm2,hn7,hn8,rfl,Y⟩
 refine Qae (Qab (Qaa (Qa0 rfl rfl (Qad (Qae (Qak (t:=decide ((k2:Int)<((p.ops.length:Nat):Int))) rfl (fun c23=>?_) (fun c23=>?_)))))))
 ·
  replace c23:=QQ1 c23
  refine Qap (Qae (Qal (Qae (Qab (Qaa (Qax QbG Qa3.1 (Rd.own' hr3 Y) rfl rfl (by omega) (by rw [QQ6];omega) (Qaa (Qa9 (j:=0) (vs:=oc (gd p.ops k2)) k2 Qa3 (Rd.own' hr3 Y) (Qa4 (by omega)) rfl rfl rfl (by omega) (Qaa (QaJ (cs:=oc (⟨(⟨0,0⟩:Dot),0,0,0,0,0,vzero⟩:Opn)) QhZ rfl Y fun b24 w25 Y=>(Qaa (Qcz (V:=.agg (oc (gd p.ops k2)).toArray) (vs:=oc (gd p.ops k2)) (cs':=oc (gd p.ops k2)) Qa3.1 Y 7 rfl rfl rfl rfl rfl (QQ8 rfl) (QcX _) (Qaz rfl) fun w26 Y=>?_))))))))))))
  replace Y:=Ow [blk b1 (((vc p.base.known)++[(.slice a1 p.base.ents.length c1:Value),(.slice a2 p.base.ticks.length c2:Value) ])++[(.slice a3 p.ops.length c3:Value) ]++(vc p.known)) 43,blk b3 (vc cut) 24,blk b5 ((vc vzero)++[(.slice none 0 0:Value),(.slice none 0 0:Value) ]) 38,blk b10 [.slice a8 l8.length cb8] 29,QfC mr12 (Value.int .u16) (Value.int .u32) tm2,row (.slice a7 L7.length cb7) (L7.map cec) 106 7,row (.slice a8 l8.length cb8) (l8.map oc) 98 23,blk b24 (oc (gd p.ops k2)) 98] Y
  refine Qad (Qae (Qae ?_))
  have hOk:=hoko _ (Qbo (l:=p.ops) (i:=k2) (by omega))
  have hdk:=hOk.1
  have hxk:=hOk.2.2.2.2.2.2
  refine Qab (Qaa (QaK (cs:=vc cut) QbC Y 1 rfl rfl rfl (Qaa (Qac Qa7 rfl (Qaa (QbT (vs:=dc ((gd p.ops k2).dot)) QcV Y 7 rfl rfl rfl rfl (Qaa (Qas (vs:=[.agg (vc cut).toArray,.agg (dc ((gd p.ops k2).dot)).toArray]) (V:=.bool (QbD cut ((gd p.ops k2).dot))) QoV rfl rfl ?hc Y fun w27 Y=>?_))))))))
  case hc=>exact (Qgw _ cut ((gd p.ops k2).dot) (by first|assumption|exact QcN (by omega) (by omega) (by omega) (by omega)))
  refine Qaa (QbB rfl (Qad (Qak (t:=!(QbD cut ((gd p.ops k2).dot))) rfl (fun c28=>?_) (fun c28=>?_))))
  ·
   replace c28:=QbE c28
   refine QaI (Qab (Qaa (QaB (a:=(k2:Int)) (b:=1) (c:=((k2+1:Nat):Int)) rfl rfl (Qaj (by omega) (by omega)) (Qaa (Qaf (I6 ((k2+1:Nat):Int)) (Qad ?_))))))
   refine ⟨_,?_,_,k2+1,a8,cb8,l8,a7,cb7,L7,tm2,Qai (Qai (Qao (ds:=([11,13]++sq 46 53)) (by repeat (first|exact Agr.refl _ _|refine Agr.upd ?_ rfl|refine Agr.mix ?_ rfl))) rfl) rfl,(by omega),(Qik hl8 (by omega) c28),hL7,htm2,(by omega),(by omega),rfl,Y.take 7⟩
   omega
  replace c28:=Qbd c28
  refine Qap (Qae (Qab (Qaa (QaN (.slice a8 l8.length cb8) Qj5 Y 3 (Qaa (QaK (cs:=oc (gd p.ops k2)) Qa3 Y 7 rfl rfl rfl (Qaa (Qho (vals:=[.agg (oc (gd p.ops k2)).toArray]) (ls:=List.map oc ([gd p.ops k2]:List Opn)) Qkd rfl rfl rfl (Qbn (enc:=oc) (fun _=>rfl) _) (QaW QcX _) (QQ8 rfl) Y fun b29 w30 Y=>(Qaa (Qdj (ls':=(l8++[gd p.ops k2]).map oc) (n:=(l8++[gd p.ops k2]).length) Qkd Y 6 rfl rfl rfl (Y.rd 8 rfl) (QaW QcX _) (by simp only [QQ6,QQ7,List.length_cons,List.length_nil];omega) (by simp) (by simp) fun a31 c31 w32 Y=>(Qaa (Qcs (V:=.slice a31 ((l8++[gd p.ops k2]).length) c31) (cs':=[.slice a31 ((l8++[gd p.ops k2]).length) c31]) Qj5 Y 3 rfl rfl rfl rfl (QQ8 rfl) rfl fun w33 Y=>(Qad (Qae (Qab (Qaa (Qaf (.map (some mr12)) (Qaa (Qac Qc4 rfl (Qaa (QaN (I7 ((gd p.ops k2).cart)) Qar Y 7 (Qaa (Qaf (.map (some mr12)) (Qaa (Qac Qc4 rfl (Qaa (QaN (I7 ((gd p.ops k2).cart)) Qar Y 7 (Qaa (QfG (k:=(gd p.ops k2).cart) (z:=0) Qjx QjX QuG (Y.mapf 4 rfl) rfl rfl (Qaa (Qac Qf2 rfl (Qaa (QaN (.int .u32 ((gd p.ops k2).tick)) QaU Y 7 (Qaa (Qmi rfl rfl (Qaa (QfA (k:=(gd p.ops k2).cart) (v:=max ((mget ((gd p.ops k2).cart) tm2).getD 0) ((gd p.ops k2).tick)) Qjx QjX Y 4 rfl rfl rfl rfl fun w34 Y=>?_)))))))))))))))))))))))))))))))))))))
  replace Y:=Ow [blk b1 (((vc p.base.known)++[(.slice a1 p.base.ents.length c1:Value),(.slice a2 p.base.ticks.length c2:Value) ])++[(.slice a3 p.ops.length c3:Value) ]++(vc p.known)) 43,blk b3 (vc cut) 24,blk b5 ((vc vzero)++[(.slice none 0 0:Value),(.slice none 0 0:Value) ]) 38,blk b10 [.slice a31 ((l8++[gd p.ops k2]).length) c31] 29,QfC mr12 (Value.int .u16) (Value.int .u32) (mput ((gd p.ops k2).cart) (max ((mget ((gd p.ops k2).cart) tm2).getD 0) ((gd p.ops k2).tick)) tm2),row (.slice a7 L7.length cb7) (L7.map cec) 106 7,row (.slice a31 ((l8++[gd p.ops k2]).length) c31) ((l8++[gd p.ops k2]).map oc) 98 23,blk b24 (oc (gd p.ops k2)) 98,row (.slice (some ⟨b29,0,none⟩) 1 1) ([gd p.ops k2].map oc) 98 23] Y
  refine Qad (Qae (Qbv (so 69 13) [] [0,1,3,7,15,31,63,127,255,511,1023,2047,4095] [pv (Pq b24 (0+2)),pv (.int .u8 ((gd p.ops k2).kind)),pv (.bool (decide ((gd p.ops k2).kind=1))),pv (.bool (decide ((gd p.ops k2).kind=1))),pg ((decide ((gd p.ops k2).kind=1)) == false) (Pq b24 (0+2)),pg ((decide ((gd p.ops k2).kind=1)) == false) (.int .u8 ((gd p.ops k2).kind)),pg ((decide ((gd p.ops k2).kind=1)) == false) (.bool (decide ((gd p.ops k2).kind=2))),pv (.bool ((decide ((gd p.ops k2).kind=1))||(decide ((gd p.ops k2).kind=2)))),pv (.bool ((decide ((gd p.ops k2).kind=1))||(decide ((gd p.ops k2).kind=2)))),pg (((decide ((gd p.ops k2).kind=1))||(decide ((gd p.ops k2).kind=2))) == false) (Pq b24 (0+2)),pg (((decide ((gd p.ops k2).kind=1))||(decide ((gd p.ops k2).kind=2))) == false) (.int .u8 ((gd p.ops k2).kind)),pg (((decide ((gd p.ops k2).kind=1))||(decide ((gd p.ops k2).kind=2))) == false) (.bool (decide ((gd p.ops k2).kind=4))),pv (.bool (QaX (gd p.ops k2)))] (fun _ _=>_) [12] (by kernel_rfl) Y ⟨?_,?_,?_,?_,?_,?_,?_,?_,?_,?_,?_,?_,?_,trivial⟩ ?_))
  ·exact oi [] fun Y=>Qac Qbz rfl (Zz Y)
  ·exact oi [0] fun Y=>QaN (.int .u8 ((gd p.ops k2).kind)) QcI Y 7 (Zz Y)
  ·exact oi [1] fun Y=>QaT rfl rfl (Zz Y)
  ·exact oi [2] fun Y=>Qaf (.bool (decide ((gd p.ops k2).kind=1))) (Zz Y)
  ·exact ogi [3] fun hG Y=>Qac Qbz rfl (Zz Y)
  ·exact oyi [3,4] [4] fun hG Y=>QaN (.int .u8 ((gd p.ops k2).kind)) QcI Y 7 (Zz Y)
  ·exact oyi [3,5] [5] fun hG Y=>QaT rfl rfl (Zz Y)
  ·exact oi [3,6] fun Y=>QbP (h':=decide ((gd p.ops k2).kind=2)) rfl rfl rfl (Zz Y)
  ·exact oi [7] fun Y=>Qaf (.bool ((decide ((gd p.ops k2).kind=1))||(decide ((gd p.ops k2).kind=2)))) (Zz Y)
  ·exact ogi [8] fun hG Y=>Qac Qbz rfl (Zz Y)
  ·exact oyi [8,9] [9] fun hG Y=>QaN (.int .u8 ((gd p.ops k2).kind)) QcI Y 7 (Zz Y)
  ·exact oyi [8,10] [10] fun hG Y=>QaT rfl rfl (Zz Y)
  ·exact oi [8,11] fun Y=>Qa8 (V:=.bool (((decide ((gd p.ops k2).kind=1))||(decide ((gd p.ops k2).kind=2)))||(decide ((gd p.ops k2).kind=4)))) (V':=.bool (QaX (gd p.ops k2))) (QbP (h':=decide ((gd p.ops k2).kind=4)) rfl rfl rfl ⟨rfl,rfl⟩) (congrArg Value.bool (Qne _)) (Zz Y)
  rintro J1 w35 J2 hJ Y
  replace hJ:J2=upd (mix (sq 69 13) J1 _) 81 (.bool (QaX (gd p.ops k2))):=hJ
  subst hJ
  refine Qak (t:=QaX (gd p.ops k2)) rfl (fun c36=>?_) (fun c36=>?_)
  ·
   replace Y:=Y.more emp trivial
   refine QaH HM (so 82 16++[some 11]) [[],[],[],[],[],[],[],[],[],[],[],[],[],[],[96],[97],[97]] [0,0,2,0,8,0,32,0,128,0,512,0,2048,8190,16382,32767,65535] [pv (.slice a7 L7.length cb7),pv (Pq b24 (0+3)),pv (I7 ((gd p.ops k2).cart)),pv (Pq b24 (0+4)),pv (I7 ((gd p.ops k2).item)),pv (Pq b24 (0+5)),pv (I7 ((gd p.ops k2).qty)),pv (Pq b24 (0+2)),pv (.int .u8 ((gd p.ops k2).kind)),pv (Pq b24 (0+0)),pv (.agg (dc ((gd p.ops k2).dot)).toArray),pv (.agg (oc (gd p.ops k2)).toArray),pv (.int .u64 (Qba (gd p.ops k2))),pv (.agg (cec (⟨(gd p.ops k2).cart,(gd p.ops k2).item,(gd p.ops k2).qty,(gd p.ops k2).kind,(gd p.ops k2).dot,Qba (gd p.ops k2)⟩:Cen)).toArray),(true,fun J=>.slice (some ⟨(bOf (J 96)),0,none⟩) 1 1),(true,fun J=>.slice (aOf (J 97)) ((L7++[(⟨(gd p.ops k2).cart,(gd p.ops k2).item,(gd p.ops k2).qty,(gd p.ops k2).kind,(gd p.ops k2).dot,Qba (gd p.ops k2)⟩:Cen)]).length) (cOf (J 97))),(true,fun J=>.slice (aOf (J 97)) ((L7++[(⟨(gd p.ops k2).cart,(gd p.ops k2).item,(gd p.ops k2).qty,(gd p.ops k2).kind,(gd p.ops k2).dot,Qba (gd p.ops k2)⟩:Cen)]).length) (cOf (J 97)))] (fun D J=>[blk b1 (((vc p.base.known)++[(.slice a1 p.base.ents.length c1:Value),(.slice a2 p.base.ticks.length c2:Value) ])++[(.slice a3 p.ops.length c3:Value) ]++(vc p.known)) 43,blk b3 (vc cut) 24,blk b5 ((vc vzero)++[(.slice none 0 0:Value),(.slice none 0 0:Value) ]) 38,blk b10 [.slice a31 ((l8++[gd p.ops k2]).length) c31] 29,QfC mr12 (Value.int .u16) (Value.int .u32) (mput ((gd p.ops k2).cart) (max ((mget ((gd p.ops k2).cart) tm2).getD 0) ((gd p.ops k2).tick)) tm2),cond (D 15) (row (.slice (aOf (J 97)) ((L7++[(⟨(gd p.ops k2).cart,(gd p.ops k2).item,(gd p.ops k2).qty,(gd p.ops k2).kind,(gd p.ops k2).dot,Qba (gd p.ops k2)⟩:Cen)]).length) (cOf (J 97))) ((L7++[(⟨(gd p.ops k2).cart,(gd p.ops k2).item,(gd p.ops k2).qty,(gd p.ops k2).kind,(gd p.ops k2).dot,Qba (gd p.ops k2)⟩:Cen)]).map cec) 106 7) (row (.slice a7 L7.length cb7) (L7.map cec) 106 7),row (.slice a31 ((l8++[gd p.ops k2]).length) c31) ((l8++[gd p.ops k2]).map oc) 98 23,blk b24 (oc (gd p.ops k2)) 98,row (.slice (some ⟨b29,0,none⟩) 1 1) ([gd p.ops k2].map oc) 98 23,cond (D 14) (row (.slice (some ⟨(bOf (J 96)),0,none⟩) 1 1) ([(⟨(gd p.ops k2).cart,(gd p.ops k2).item,(gd p.ops k2).qty,(gd p.ops k2).kind,(gd p.ops k2).dot,Qba (gd p.ops k2)⟩:Cen)].map cec) 106 7) (emp)]) [16] (by kernel_rfl) Y ⟨?_,?_,?_,?_,?_,?_,?_,?_,?_,?_,?_,?_,?_,?_,?_,?_,?_,trivial⟩ ?_
   ·exact ob [] [16] rfl rfl fun D J w Y=>Qaf (.slice a7 L7.length cb7) (Zz Y)
   ·exact oi [] fun Y=>Qac Qc4 rfl (Zz Y)
   ·exact oi [1] fun Y=>QaN (.int .u16 ((gd p.ops k2).cart)) Qar Y 7 (Zz Y)
   ·exact oi [] fun Y=>Qac Qcq rfl (Zz Y)
   ·exact oi [3] fun Y=>QaN (.int .u16 ((gd p.ops k2).item)) Qar Y 7 (Zz Y)
   ·exact oi [] fun Y=>Qac QcP rfl (Zz Y)
   ·exact oi [5] fun Y=>QaN (.int .u16 ((gd p.ops k2).qty)) Qar Y 7 (Zz Y)
   ·exact oi [] fun Y=>Qac Qbz rfl (Zz Y)
   ·exact oi [7] fun Y=>QaN (.int .u8 ((gd p.ops k2).kind)) QcI Y 7 (Zz Y)
   ·exact oi [] fun Y=>Qac Qa7 rfl (Zz Y)
   ·exact oi [9] fun Y=>QbT (vs:=dc ((gd p.ops k2).dot)) QcV Y 7 rfl rfl rfl rfl (Zz Y)
   ·exact oi [] fun Y=>QaK (cs:=oc (gd p.ops k2)) Qa3 Y 7 rfl rfl rfl (Zz Y)
   ·exact oi [11] fun Y=>Qas (vs:=[.agg (oc (gd p.ops k2)).toArray]) (V:=.int .u64 (Qba (gd p.ops k2))) Qpz rfl rfl (QfM _ (gd p.ops k2) hxk) Y fun _ Y=>Zz Y
   ·exact oi [2,4,6,8,10,12] fun Y=>QbI (vs:=[(0,.int .u16 ((gd p.ops k2).cart)),(1,.int .u16 ((gd p.ops k2).item)),(2,.int .u16 ((gd p.ops k2).qty)),(3,.int .u8 ((gd p.ops k2).kind)),(4,.agg (dc ((gd p.ops k2).dot)).toArray),(5,.int .u64 (Qba (gd p.ops k2)))]) (cs:=cec (⟨(gd p.ops k2).cart,(gd p.ops k2).item,(gd p.ops k2).qty,(gd p.ops k2).kind,(gd p.ops k2).dot,Qba (gd p.ops k2)⟩:Cen)) QrK (rfl) rfl (Zz Y)
   ·exact oi [13] fun Y=>Qho (vals:=[.agg (cec (⟨(gd p.ops k2).cart,(gd p.ops k2).item,(gd p.ops k2).qty,(gd p.ops k2).kind,(gd p.ops k2).dot,Qba (gd p.ops k2)⟩:Cen)).toArray]) (ls:=List.map cec ([(⟨(gd p.ops k2).cart,(gd p.ops k2).item,(gd p.ops k2).qty,(gd p.ops k2).kind,(gd p.ops k2).dot,Qba (gd p.ops k2)⟩:Cen)]:List Cen)) QfD rfl rfl rfl (Qbn (enc:=cec) (fun _=>rfl) _) (QaW Qby _) (QQ8 rfl) Y fun _ _ Y=>⟨rfl,Y.put 9 (QQ8 rfl)⟩
   ·exact oi [0,14] fun Y=>Qdj (ls':=(L7++[(⟨(gd p.ops k2).cart,(gd p.ops k2).item,(gd p.ops k2).qty,(gd p.ops k2).kind,(gd p.ops k2).dot,Qba (gd p.ops k2)⟩:Cen)]).map cec) (n:=(L7++[(⟨(gd p.ops k2).cart,(gd p.ops k2).item,(gd p.ops k2).qty,(gd p.ops k2).kind,(gd p.ops k2).dot,Qba (gd p.ops k2)⟩:Cen)]).length) QfD Y 5 rfl rfl rfl (Y.rd 9 rfl) (QaW Qby _) (by simp only [QQ6,QQ7,List.length_cons,List.length_nil];omega) (by simp) (by simp) fun _ _ _ Y=>⟨rfl,Y⟩
   ·exact oa [15] fun D J w Y=>Qam (.slice (aOf (J 97)) ((L7++[(⟨(gd p.ops k2).cart,(gd p.ops k2).item,(gd p.ops k2).qty,(gd p.ops k2).kind,(gd p.ops k2).dot,Qba (gd p.ops k2)⟩:Cen)]).length) (cOf (J 97))) (Zz Y)
   rintro J1 w40 J2 hJ Y
   replace hJ:J2=upd (mix (sq 82 16++[11]) J1 _) 11 (.slice (aOf (J1 97)) ((L7++[(⟨(gd p.ops k2).cart,(gd p.ops k2).item,(gd p.ops k2).qty,(gd p.ops k2).kind,(gd p.ops k2).dot,Qba (gd p.ops k2)⟩:Cen)]).length) (cOf (J1 97))):=hJ
   replace Y:Own w no w40 [blk b1 (((vc p.base.known)++[(.slice a1 p.base.ents.length c1:Value),(.slice a2 p.base.ticks.length c2:Value) ])++[(.slice a3 p.ops.length c3:Value) ]++(vc p.known)) 43,blk b3 (vc cut) 24,blk b5 ((vc vzero)++[(.slice none 0 0:Value),(.slice none 0 0:Value) ]) 38,blk b10 [.slice a31 ((l8++[gd p.ops k2]).length) c31] 29,QfC mr12 (Value.int .u16) (Value.int .u32) (mput ((gd p.ops k2).cart) (max ((mget ((gd p.ops k2).cart) tm2).getD 0) ((gd p.ops k2).tick)) tm2),row (.slice (aOf (J1 97)) ((L7++[(⟨(gd p.ops k2).cart,(gd p.ops k2).item,(gd p.ops k2).qty,(gd p.ops k2).kind,(gd p.ops k2).dot,Qba (gd p.ops k2)⟩:Cen)]).length) (cOf (J1 97))) ((L7++[(⟨(gd p.ops k2).cart,(gd p.ops k2).item,(gd p.ops k2).qty,(gd p.ops k2).kind,(gd p.ops k2).dot,Qba (gd p.ops k2)⟩:Cen)]).map cec) 106 7,row (.slice a31 ((l8++[gd p.ops k2]).length) c31) ((l8++[gd p.ops k2]).map oc) 98 23,blk b24 (oc (gd p.ops k2)) 98,row (.slice (some ⟨b29,0,none⟩) 1 1) ([gd p.ops k2].map oc) 98 23,row (.slice (some ⟨(bOf (J1 96)),0,none⟩) 1 1) ([(⟨(gd p.ops k2).cart,(gd p.ops k2).item,(gd p.ops k2).qty,(gd p.ops k2).kind,(gd p.ops k2).dot,Qba (gd p.ops k2)⟩:Cen)].map cec) 106 7]:=Y
   generalize (bOf (J1 96))=b41 at Y
   generalize (aOf (J1 97))=a42 at hJ Y
   generalize (cOf (J1 97))=c43 at hJ Y
   subst hJ
   refine Qab (Qaa (QaB (a:=(k2:Int)) (b:=1) (c:=((k2+1:Nat):Int)) rfl rfl (Qaj (by omega) (by omega)) (Qaa (Qaf (I6 ((k2+1:Nat):Int)) (Qad ?_)))))
   refine ⟨_,?_,_,k2+1,a31,c31,l8++[gd p.ops k2],a42,c43,L7++[(⟨(gd p.ops k2).cart,(gd p.ops k2).item,(gd p.ops k2).qty,(gd p.ops k2).kind,(gd p.ops k2).dot,Qba (gd p.ops k2)⟩:Cen)],mput ((gd p.ops k2).cart) (max ((mget ((gd p.ops k2).cart) tm2).getD 0) ((gd p.ops k2).tick)) tm2,Qai (Qai (Qao (ds:=([11,13]++sq 46 53)) (by repeat (first|exact Agr.refl _ _|refine Agr.upd ?_ rfl|refine Agr.mix ?_ rfl))) rfl) rfl,(by omega),(Qff hl8 (by omega) c28),(by rw [hL7];exact Qly c36),(by rw [Qh2,← htm2]),(by simp only [QQ7,List.length_singleton];omega),(by simp only [QQ7,List.length_singleton];omega),rfl,Y.take 7⟩
   omega
  refine Qap (Qab (Qaa (QaB (a:=(k2:Int)) (b:=1) (c:=((k2+1:Nat):Int)) rfl rfl (Qaj (by omega) (by omega)) (Qaa (Qaf (I6 ((k2+1:Nat):Int)) (Qad ?_))))))
  refine ⟨_,?_,_,k2+1,a31,c31,l8++[gd p.ops k2],a7,cb7,L7,mput ((gd p.ops k2).cart) (max ((mget ((gd p.ops k2).cart) tm2).getD 0) ((gd p.ops k2).tick)) tm2,Qai (Qai (Qao (ds:=([11,13]++sq 46 53)) (by repeat (first|exact Agr.refl _ _|refine Agr.upd ?_ rfl|refine Agr.mix ?_ rfl))) rfl) rfl,(by omega),(Qff hl8 (by omega) c28),(by rw [hL7];exact QoT c36),(by rw [Qh2,← htm2]),(by omega),(by simp only [QQ7,List.length_singleton];omega),rfl,Y.take 7⟩
  omega
 replace c23:=QQ2 c23
 refine QaI (Qae ?_)
 have hu:l8=Qaq p.ops cut:=by rw [hl8,QcC (by omega)]
 have hus:∀ o∈l8,o∈p.ops:=fun o h=>by rw [hu] at h;exact Qb3 h
 have hdt:∀ x∈L7,QcS x.dot:=by rw [hL7];exact QlB hok hus
 have htl:tm2.length<=10000:=by have:=Qsn hok hr0 l8 hus;rw [← htm2] at this;omega
 have hfl:=List.length_filter_le (fun x=>!(fun x=>l8.any fun o=>Qay o (QaG x)) x) L7
 refine Qab (Qaa (Qaf (.slice a7 L7.length cb7) (Qaa (QcL (cs:=[Pq b10 0]) rfl rfl (Qaa (Qj6 (α:=Unit) (vs:=[.slice a7 L7.length cb7,.func (.func 43) #[] #[Pq b10 0]]) (V:=fun _=>.slice a7 (L7.filter fun x=>!(fun x=>l8.any fun o=>Qay o (QaG x)) x).length cb7) (R:=row (.slice a7 L7.length cb7) (L7.map cec) 106 7) (R':=fun _=>row (.slice a7 (L7.filter fun x=>!(fun x=>l8.any fun o=>Qay o (QaG x)) x).length cb7) ((L7.filter fun x=>!(fun x=>l8.any fun o=>Qay o (QaG x)) x).map cec) 106 7) (Lo:=fun _=>[]) (F:=fun _ _=>True) Qww rfl rfl Y 5 rfl (fun S hS hlS hK=>Qi7 _ S a7 cb7 L7 43 [Pq b10 0] Qxm (fun x=>l8.any fun o=>Qay o (QaG x)) (fun w1 L1 h x hx=>QnV w1 x b10 a8 cb8 l8 (hdt x hx) ((hK 3 (by decide) _ rfl).cells h) ((hK 6 (by decide) _ rfl).rd h)) hS hlS) fun _ w44 Y _=>(Qaa (Qam (.slice a7 ((L7.filter fun x=>!(fun x=>l8.any fun o=>Qay o (QaG x)) x).length) cb7) (Qad (Qae (Qab (Qaa (Qaf (.slice a7 ((L7.filter fun x=>!(fun x=>l8.any fun o=>Qay o (QaG x)) x).length) cb7) (Qaa (QbF (α:={ m:List Cen // Qlk (L7.filter fun x=>!(fun x=>l8.any fun o=>Qay o (QaG x)) x) m }) (vs:=[.slice a7 ((L7.filter fun x=>!(fun x=>l8.any fun o=>Qay o (QaG x)) x).length) cb7,.func (.func 49) #[] #[]]) (V:=fun _=>.tuple #[]) (R:=row (.slice a7 ((L7.filter fun x=>!(fun x=>l8.any fun o=>Qay o (QaG x)) x).length) cb7) ((L7.filter fun x=>!(fun x=>l8.any fun o=>Qay o (QaG x)) x).map cec) 106 7) (R':=fun x=>row (.slice a7 ((L7.filter fun x=>!(fun x=>l8.any fun o=>Qay o (QaG x)) x).length) cb7) (x.1.map cec) 106 7) (Lo:=fun _=>[]) (F:=fun _ _=>True) Qxe rfl rfl Y 5 rfl (fun S hS hlt=>hsortE _ S _ _ _ hS hlt (by omega)) fun sx46 w45 Y _=>?_)))))))))))))))
 replace Y:=Ow [blk b1 (((vc p.base.known)++[(.slice a1 p.base.ents.length c1:Value),(.slice a2 p.base.ticks.length c2:Value) ])++[(.slice a3 p.ops.length c3:Value) ]++(vc p.known)) 43,blk b3 (vc cut) 24,blk b5 ((vc vzero)++[(.slice none 0 0:Value),(.slice none 0 0:Value) ]) 38,blk b10 [.slice a8 l8.length cb8] 29,QfC mr12 (Value.int .u16) (Value.int .u32) tm2,row (.slice a7 ((L7.filter fun x=>!(fun x=>l8.any fun o=>Qay o (QaG x)) x).length) cb7) (sx46.1.map cec) 106 7,row (.slice a8 l8.length cb8) (l8.map oc) 98 23] Y
 refine Qad (Qae (Qab (Qaa (QaK (cs:=vc cut) QbC Y 1 rfl rfl rfl (Qaa (Qaf (.slice a7 ((L7.filter fun x=>!(fun x=>l8.any fun o=>Qay o (QaG x)) x).length) cb7) (Qaa (QcQ (vs:=[(0,.agg (vc cut).toArray),(1,.slice a7 ((L7.filter fun x=>!(fun x=>l8.any fun o=>Qay o (QaG x)) x).length) cb7)]) (cs:=(vc cut)++[(.slice a7 ((L7.filter fun x=>!(fun x=>l8.any fun o=>Qay o (QaG x)) x).length) cb7:Value),(.slice none 0 0:Value) ]) [vc vzero,[(.slice none 0 0:Value)],[(.slice none 0 0:Value)]] [vc cut,[(.slice a7 ((L7.filter fun x=>!(fun x=>l8.any fun o=>Qay o (QaG x)) x).length) cb7:Value)],[(.slice none 0 0:Value)]] QnW rfl (rfl) rfl rfl (Qaa (QaJ (cs:=(vc vzero)++[(.slice none 0 0:Value),(.slice none 0 0:Value) ]) Qgg rfl Y fun b47 w48 Y=>(Qaa (Qcz (V:=.agg ((vc cut)++[(.slice a7 ((L7.filter fun x=>!(fun x=>l8.any fun o=>Qay o (QaG x)) x).length) cb7:Value),(.slice none 0 0:Value) ]).toArray) (vs:=(vc cut)++[(.slice a7 ((L7.filter fun x=>!(fun x=>l8.any fun o=>Qay o (QaG x)) x).length) cb7:Value),(.slice none 0 0:Value) ]) (cs':=(vc cut)++[(.slice a7 ((L7.filter fun x=>!(fun x=>l8.any fun o=>Qay o (QaG x)) x).length) cb7:Value),(.slice none 0 0:Value) ]) Qb4.1 Y 7 rfl rfl rfl rfl rfl (QQ8 rfl) (Qbq (Qb0 _) (Qat rfl (Qat rfl Qa2))) (Qaz rfl) fun w49 Y=>(Qad (Qae (Qae (Qab (Qaa (Qaf (.map (some mr12)) (Qaa (Qbr (vs:=[.map (some mr12)]) (V:=fun x:Option Addr × Nat=>.slice x.1 (QaO (tm2.map (·.1))).length x.2) QxZ rfl rfl (Qn8 _ mr12 tm2 (Y.mapf 4 rfl) (by omega) hsortU) Y fun x50 w51 Y _=>(Qaa (Qa5 (n:=(QaO (tm2.map (·.1))).length) QaP (Y.rd 8 rfl) (by simp) rfl (Qaa (Qaf (I6 0) (Qad (Qal ?_))))))))))))))))))))))))))
 have hks:(QaO (tm2.map (·.1))).length<=10000:=by rw [Qeq,QQ6];exact htl
 replace Y:=Y.more (row (.slice none 0 0) (List.map lsc []) 102 2) (Qbi _ _ _ _)
 refine QaE (fun J μ J' w'=>∃ (Jo:Env) (k3:Nat) (a9:Option Addr) (cb9:Nat) (T9:List Lst),J'=upd (mix ([16]++sq 110 15) Jo J) 110 (I6 (k3:Int))/\(k3<=(QaO (tm2.map (·.1))).length)/\(T9=((QaO (tm2.map (·.1))).take k3).map (tkL tm2))/\(T9.length<=k3)/\μ=(QaO (tm2.map (·.1))).length-k3/\Own w no w' [blk b1 (((vc p.base.known)++[(.slice a1 p.base.ents.length c1:Value),(.slice a2 p.base.ticks.length c2:Value) ])++[(.slice a3 p.ops.length c3:Value) ]++(vc p.known)) 43,blk b3 (vc cut) 24,blk b5 ((vc vzero)++[(.slice none 0 0:Value),(.slice none 0 0:Value) ]) 38,blk b10 [.slice a8 l8.length cb8] 29,QfC mr12 (Value.int .u16) (Value.int .u32) tm2,row (.slice a7 ((L7.filter fun x=>!(fun x=>l8.any fun o=>Qay o (QaG x)) x).length) cb7) (sx46.1.map cec) 106 7,row (.slice a8 l8.length cb8) (l8.map oc) 98 23,blk b47 ((vc cut)++[(.slice a7 ((L7.filter fun x=>!(fun x=>l8.any fun o=>Qay o (QaG x)) x).length) cb7:Value),(.slice a9 T9.length cb9:Value) ]) 38,row (.slice x50.1 ((QaO (tm2.map (·.1))).length) x50.2) ((QaO (tm2.map (·.1))).map (ic .u16)) 32 1,row (.slice a9 T9.length cb9) (T9.map lsc) 102 2]) ?_ ?_
 ·exact ⟨_,_,0,none,0,[],Qai (Qao (ds:=([16]++sq 110 15)) (Agr.refl _ _)) rfl,(by omega),rfl,(Nat.le_refl _),rfl,Y⟩
 rintro μ J' w52 ⟨Jo,k3,a9,cb9,T9,rfl,hk3,hT9,hn9,rfl,Y⟩
 refine Qae (Qab (Qaa (Qa0 rfl rfl (Qad (Qae (Qak (t:=decide ((k3:Int)<(((QaO (tm2.map (·.1))).length:Nat):Int))) rfl (fun c53=>?_) (fun c53=>?_)))))))
 ·
  replace c53:=QQ1 c53
  refine Qap (Qae (Qal (Qae (Qab (Qaa (Qax QaP Qar.1 (Y.rd 8 rfl) rfl rfl (by omega) (by rw [QQ6];omega) (Qaa (QaV (j:=0) (V:=I7 (gd (QaO (tm2.map (·.1))) k3)) k3 Qar (Y.rd 8 rfl) (Qa4 (by omega)) rfl rfl (by omega) (Qaa (Qam (I7 (gd (QaO (tm2.map (·.1))) k3)) (Qad (Qab (Qaa (Qac Qc0 rfl (Qaa (QaN (.slice a9 T9.length cb9) Qf5 Y 7 (Qaa (Qaf (I7 (gd (QaO (tm2.map (·.1))) k3)) (Qaa (Qaf (.map (some mr12)) (Qaa (Qaf (I7 (gd (QaO (tm2.map (·.1))) k3)) (Qaa (QfG (k:=gd (QaO (tm2.map (·.1))) k3) (z:=0) Qjx QjX QuG (Y.mapf 4 rfl) rfl rfl (Qaa (QbI (vs:=[(0,I7 (gd (QaO (tm2.map (·.1))) k3)),(1,.int .u32 ((mget (gd (QaO (tm2.map (·.1))) k3) tm2).getD 0))]) (cs:=lsc (⟨gd (QaO (tm2.map (·.1))) k3,(mget (gd (QaO (tm2.map (·.1))) k3) tm2).getD 0⟩:Lst)) QrL (rfl) rfl (Qaa (Qho (vals:=[.agg (lsc (⟨gd (QaO (tm2.map (·.1))) k3,(mget (gd (QaO (tm2.map (·.1))) k3) tm2).getD 0⟩:Lst)).toArray]) (ls:=List.map lsc ([(⟨gd (QaO (tm2.map (·.1))) k3,(mget (gd (QaO (tm2.map (·.1))) k3) tm2).getD 0⟩:Lst)]:List Lst)) Qgx rfl rfl rfl (Qbn (enc:=lsc) (fun _=>rfl) _) (QaW Qcp _) (QQ8 rfl) Y fun b54 w55 Y=>?_))))))))))))))))))))))))))))
  replace Y:=Ow [blk b1 (((vc p.base.known)++[(.slice a1 p.base.ents.length c1:Value),(.slice a2 p.base.ticks.length c2:Value) ])++[(.slice a3 p.ops.length c3:Value) ]++(vc p.known)) 43,blk b3 (vc cut) 24,blk b5 ((vc vzero)++[(.slice none 0 0:Value),(.slice none 0 0:Value) ]) 38,blk b10 [.slice a8 l8.length cb8] 29,QfC mr12 (Value.int .u16) (Value.int .u32) tm2,row (.slice a7 ((L7.filter fun x=>!(fun x=>l8.any fun o=>Qay o (QaG x)) x).length) cb7) (sx46.1.map cec) 106 7,row (.slice a8 l8.length cb8) (l8.map oc) 98 23,blk b47 ((vc cut)++[(.slice a7 ((L7.filter fun x=>!(fun x=>l8.any fun o=>Qay o (QaG x)) x).length) cb7:Value),(.slice a9 T9.length cb9:Value) ]) 38,row (.slice x50.1 ((QaO (tm2.map (·.1))).length) x50.2) ((QaO (tm2.map (·.1))).map (ic .u16)) 32 1,row (.slice a9 T9.length cb9) (T9.map lsc) 102 2,row (.slice (some ⟨b54,0,none⟩) 1 1) ([(⟨gd (QaO (tm2.map (·.1))) k3,(mget (gd (QaO (tm2.map (·.1))) k3) tm2).getD 0⟩:Lst)].map lsc) 102 2] Y
  refine Qaa (Qdj (ls':=(T9++[(⟨gd (QaO (tm2.map (·.1))) k3,(mget (gd (QaO (tm2.map (·.1))) k3) tm2).getD 0⟩:Lst)]).map lsc) (n:=(T9++[(⟨gd (QaO (tm2.map (·.1))) k3,(mget (gd (QaO (tm2.map (·.1))) k3) tm2).getD 0⟩:Lst)]).length) Qgx Y 9 rfl rfl rfl (Y.rd 10 rfl) (QaW Qcp _) (by simp only [QQ6,QQ7,List.length_cons,List.length_nil];omega) (by simp) (by simp) fun a56 c56 w57 Y=>(Qaa (Qac Qc0 rfl (Qaa (Qcs (V:=.slice a56 ((T9++[(⟨gd (QaO (tm2.map (·.1))) k3,(mget (gd (QaO (tm2.map (·.1))) k3) tm2).getD 0⟩:Lst)]).length) c56) (cs':=(vc cut)++[(.slice a7 ((L7.filter fun x=>!(fun x=>l8.any fun o=>Qay o (QaG x)) x).length) cb7:Value),(.slice a56 ((T9++[(⟨gd (QaO (tm2.map (·.1))) k3,(mget (gd (QaO (tm2.map (·.1))) k3) tm2).getD 0⟩:Lst)]).length) c56:Value) ]) Qf5 Y 7 rfl rfl rfl rfl (QQ8 rfl) rfl fun w58 Y=>(Qad (Qab (Qaa (QaB (a:=(k3:Int)) (b:=1) (c:=((k3+1:Nat):Int)) rfl rfl (Qaj (by omega) (by omega)) (Qaa (Qaf (I6 ((k3+1:Nat):Int)) (Qad ?_))))))))))))
  refine ⟨_,?_,_,k3+1,a56,c56,T9++[(⟨gd (QaO (tm2.map (·.1))) k3,(mget (gd (QaO (tm2.map (·.1))) k3) tm2).getD 0⟩:Lst)],Qai (Qao (ds:=([16]++sq 110 15)) (by repeat (first|exact Agr.refl _ _|refine Agr.upd ?_ rfl|refine Agr.mix ?_ rfl))) rfl,(by omega),(QhX (f:=tkL tm2) hT9 (by omega)),(by simp only [QQ7,List.length_singleton];omega),rfl,Y.take 10⟩
  omega
 replace c53:=QQ2 c53
 refine QaI (Qae (Qab (Qaa (QaK (cs:=(vc cut)++[(.slice a7 ((L7.filter fun x=>!(fun x=>l8.any fun o=>Qay o (QaG x)) x).length) cb7:Value),(.slice a9 T9.length cb9:Value) ]) Qb4 Y 7 rfl rfl rfl (Qaa (Qcz (V:=.agg ((vc cut)++[(.slice a7 ((L7.filter fun x=>!(fun x=>l8.any fun o=>Qay o (QaG x)) x).length) cb7:Value),(.slice a9 T9.length cb9:Value) ]).toArray) (vs:=(vc cut)++[(.slice a7 ((L7.filter fun x=>!(fun x=>l8.any fun o=>Qay o (QaG x)) x).length) cb7:Value),(.slice a9 T9.length cb9:Value) ]) (cs':=(vc cut)++[(.slice a7 ((L7.filter fun x=>!(fun x=>l8.any fun o=>Qay o (QaG x)) x).length) cb7:Value),(.slice a9 T9.length cb9:Value) ]) Qb4.1 Y 2 rfl rfl rfl rfl rfl (QQ8 rfl) (Qbq (Qb0 _) (Qat rfl (Qat rfl Qa2))) (Qaz rfl) fun w59 Y=>?_))))))
 replace Y:=Ow [blk b1 (((vc p.base.known)++[(.slice a1 p.base.ents.length c1:Value),(.slice a2 p.base.ticks.length c2:Value) ])++[(.slice a3 p.ops.length c3:Value) ]++(vc p.known)) 43,blk b3 (vc cut) 24,blk b5 ((vc cut)++[(.slice a7 ((L7.filter fun x=>!(fun x=>l8.any fun o=>Qay o (QaG x)) x).length) cb7:Value),(.slice a9 T9.length cb9:Value) ]) 38,blk b10 [.slice a8 l8.length cb8] 29,QfC mr12 (Value.int .u16) (Value.int .u32) tm2,row (.slice a7 ((L7.filter fun x=>!(fun x=>l8.any fun o=>Qay o (QaG x)) x).length) cb7) (sx46.1.map cec) 106 7,row (.slice a8 l8.length cb8) (l8.map oc) 98 23,blk b47 ((vc cut)++[(.slice a7 ((L7.filter fun x=>!(fun x=>l8.any fun o=>Qay o (QaG x)) x).length) cb7:Value),(.slice a9 T9.length cb9:Value) ]) 38,row (.slice x50.1 ((QaO (tm2.map (·.1))).length) x50.2) ((QaO (tm2.map (·.1))).map (ic .u16)) 32 1,row (.slice a9 T9.length cb9) (T9.map lsc) 102 2] Y
 refine Qaa (Qam (I6 0) (Qad (Qav ?_)))
 refine ⟨_,Qct (cs:=(vc cut)++[(.slice a7 ((L7.filter fun x=>!(fun x=>l8.any fun o=>Qay o (QaG x)) x).length) cb7:Value),(.slice a9 T9.length cb9:Value) ]) (V:=I6 0) results12 Qb4 Y 2 rfl rfl rfl rfl,?_⟩
 have hmz:=c8
 have hTT:T9=(QaO (tm2.map (·.1))).map (tkL tm2):=by rw [hT9,QcC (by omega)]
 have hX:=QjE hok hmz hu hL7 sx46.2 htm2 hTT
 have hml:=sx46.2.1.length_eq.symm
 rw [hX,hmz]
 rw [hml] at Y ⊢
 exact ⟨((a7,cb7),(a9,cb9)),rfl,Y.two 5 9 (by decide) rfl rfl,trivial⟩
end Tt
end Go.Proofs
namespace Go.Proofs
open Go Go.Vx Go.RowKit
open Tryz
namespace Tt
theorem Qp1 (w:World) (a:Option Addr) (c:Nat) (l:List Opn) (d:Dot) (hr:Rd w (.slice a l.length c) 23 (l.map oc)):Calls prog 113 #[.slice a l.length c,.agg (dc d).toArray] w (fun e w'=>e = .returned (.bool (l.any fun o=>decide (o.dot=d)))/\Own w no w' []):=by
 refine Qah (n:=19) func113 rfl ntmps113 rfl ?_
 have Y:=Own.start w
 have hn:=hr.sml
 refine Qae (Qab (Qaa (QaY (V:=.agg (dc d).toArray) (cs:=dc d) rfl rfl Y fun b1 w2 Y=>(Qaa (Qam (.bool false) (Qad (Qae (Qae (Qab (Qaa (Qam (I6 0) (Qad (Qal (QaE (fun J μ J' w'=>∃ (Jo:Env) (k:Nat),J'=upd (mix (sq 4 15) Jo J) 5 (I6 (k:Int))/\(k<=l.length)/\(∀ j:Nat,j<k->decide ((gd l j).dot=d)=false)/\μ=l.length-k/\Own w no w' [blk b1 (dc d) 96]) ?_ ?_))))))))))))))
 ·exact ⟨_,_,0,Qai (Qao (ds:=(sq 4 15)) (Agr.refl _ _)) rfl,(by omega),(fun j hj=>absurd hj (Nat.not_lt_zero j)),rfl,Y⟩
 rintro μ J' w3 ⟨Jo,k,rfl,hk,hno,rfl,Y⟩
 refine Qae (Qae (Qab (Qaa (Qaf (I6 (k:Int)) (Qaa (Qaf (.slice a l.length c) (Qaa (Qa5 (n:=l.length) QbG (Rd.own' hr Y) (by simp) rfl (Qaa (Qa0 rfl rfl (Qad (Qak (t:=decide ((k:Int)<((l.length:Nat):Int))) rfl (fun c4=>?_) (fun c4=>?_)))))))))))))
 ·
  replace c4:=QQ1 c4
  refine Qap (Qae (Qal (Qae (QaH HM (so 12 7) [] [0,0,3,7,15,0,63] [pv (.slice a l.length c),pv (I6 (k:Int)),pv (.pointer (some ⟨bkS (.slice a l.length c),ofS (.slice a l.length c)+(k:Int).toNat*23,none⟩)),pv (.pointer (some ⟨bkS (.slice a l.length c),ofS (.slice a l.length c)+(k:Int).toNat*23+0,none⟩)),pv (.agg (dc ((gd l k).dot)).toArray),pv (.agg (dc d).toArray),pv (.bool (decide ((gd l k).dot=d)))] (fun _ _=>_) [6] (by kernel_rfl) Y ⟨?_,?_,?_,?_,?_,?_,?_,trivial⟩ ?_))))
  ·exact oi [] fun Y=>Qaf (.slice a l.length c) (Zz Y)
  ·exact oi [] fun Y=>Qaf (.int .i64 (k:Int)) (Zz Y)
  ·exact oi [0,1] fun Y=>Qax QbG Qa3.1 (Rd.own' hr Y) rfl rfl (by omega) (by rw [QQ6];omega) (Zz Y)
  ·exact oi [2] fun Y=>Qac Qa7 rfl (Zz Y)
  ·exact oi [3] fun Y=>Qa9 (j:=0) (vs:=dc ((gd l k).dot)) k QcV (Rd.own' hr Y) (Qa4 (by omega)) rfl rfl rfl (by omega) (Zz Y)
  ·exact oi [] fun Y=>QaK (cs:=dc d) QcV Y 0 rfl rfl rfl (Zz Y)
  ·exact oi [4,5] fun Y=>Qs4 (xs:=dc ((gd l k).dot)) (ys:=dc d) eqGuardType96 (Quc ((gd l k).dot) d) rfl rfl rfl (Zz Y)
  rintro J1 w5 J2 hJ Y
  replace hJ:J2=upd (mix (sq 12 7) J1 _) 18 (.bool (decide ((gd l k).dot=d))):=hJ
  subst hJ
  refine Qak (t:=decide ((gd l k).dot=d)) rfl (fun c6=>?_) (fun c6=>?_)
  ·
   replace c6:=QQ1 c6
   refine Qae (Qab (Qaa (Qam (.bool true) (Qad (Qav ?_)))))
   refine ⟨_,Qan (V:=.bool true) results113 rfl,(Zr Y ?_)⟩
   exact congrArg Value.bool (Qvd (p:=fun o:Opn=>decide (o.dot=d)) (k:=k) (by omega) (QQ3 c6)).symm
  replace c6:=QQ2 c6
  refine Qap (Qab (Qaa (Qaf (I6 (k:Int)) (Qaa (QaB (a:=(k:Int)) (b:=1) (c:=(k:Int)+1) rfl rfl (Qbx (by omega) (by omega)) (Qaa (Qam (I6 ((k:Int)+1)) (Qad ?_))))))))
  refine ⟨_,?_,_,k+1,Qai (Qao (ds:=(sq 4 15)) (by repeat (first|exact Agr.refl _ _|refine Agr.upd ?_ rfl|refine Agr.mix ?_ rfl))) rfl,(by omega),(Qn9 (p:=fun o:Opn=>decide (o.dot=d)) hno (QQ4 c6)),rfl,Y.take 1⟩
  omega
 replace c4:=QQ2 c4
 refine QaI (Qae (Qab (Qaa (Qam (.bool false) (Qad (Qav ?_))))))
 refine ⟨_,Qan (V:=.bool false) results113 rfl,(Zr Y ?_)⟩
 exact congrArg Value.bool (Qkp (p:=fun o:Opn=>decide (o.dot=d)) fun j hj=>hno j (by omega)).symm
theorem QmY (w:World) (a:Option Addr) (c:Nat) (l:List Opn) (v:Vec) (rep:Int) (hl:∀ o∈l,QbL o) (hlen:l.length<=1000) (hr:Rd w (.slice a l.length c) 23 (l.map oc)):Calls prog 114 #[.slice a l.length c,.agg (vc v).toArray,.int .i64 rep] w (fun e w'=>e = .returned (.int .u32 (QhJ l v rep))/\Own w no w' []):=by
 refine Qah (n:=36) func114 rfl ntmps114 rfl ?_
 have Y:=Own.start w
 have hn:=hr.sml
 refine Qae (Qab (Qaa (QaY (V:=.agg (vc v).toArray) (cs:=vc v) rfl rfl Y fun b1 w2 Y=>(Qaa (Qam (.int .u32 0) (Qad (Qae (Qab (Qaa (Qam (.int .u32 0) (Qad (Qae (Qae (Qab (Qaa (Qam (I6 0) (Qad (Qal (QaE (fun J μ J' w'=>∃ (Jo:Env) (k:Nat) (n:Int),J'=upd (upd (mix (sq 7 28) Jo J) 8 (I6 (k:Int))) 7 (.int .u32 n)/\(k<=l.length)/\(n=QhJ (l.take k) v rep)/\(0<=n/\n<=k)/\μ=l.length-k/\Own w no w' [blk b1 (vc v) 24]) ?_ ?_)))))))))))))))))))
 ·exact ⟨_,_,0,0,Qai (Qai (Qao (ds:=(sq 7 28)) (Agr.refl _ _)) rfl) rfl,(by omega),rfl,(by omega),rfl,Y⟩
 rintro μ J' w3 ⟨Jo,k,n,rfl,hk,hn2,hnb,rfl,Y⟩
 refine Qae (Qae (Qab (Qaa (Qaf (I6 (k:Int)) (Qaa (Qaf (.slice a l.length c) (Qaa (Qa5 (n:=l.length) QbG (Rd.own' hr Y) (by simp) rfl (Qaa (Qa0 rfl rfl (Qad (Qak (t:=decide ((k:Int)<((l.length:Nat):Int))) rfl (fun c4=>?_) (fun c4=>?_)))))))))))))
 ·
  replace c4:=QQ1 c4
  refine Qap (Qae (Qal (Qae ?_)))
  have hok:=hl _ (Qbo (l:=l) (i:=k) (by omega))
  have hdk:=hok.1
  have ⟨⟨hr1,hr2⟩,hr3,hr4⟩:=hdk
  refine QaH HM (so 15 18) [] [0,0,3,7,15,31,63,0,255,511,1023,1023,1023,7167,15359,31743,65535,131071] [pv (.slice a l.length c),pv (I6 (k:Int)),pv (.pointer (some ⟨bkS (.slice a l.length c),ofS (.slice a l.length c)+(k:Int).toNat*23,none⟩)),pv (.pointer (some ⟨bkS (.slice a l.length c),ofS (.slice a l.length c)+(k:Int).toNat*23+0,none⟩)),pv (.pointer (some ⟨bkS (.slice a l.length c),ofS (.slice a l.length c)+(k:Int).toNat*23+0+0,none⟩)),pv (.int .u8 (((gd l k).dot).rep)),pv (I6 (((gd l k).dot).rep)),pv (I6 rep),pv (.bool (decide (((gd l k).dot).rep=rep))),pv (.bool (decide (((gd l k).dot).rep=rep))),pg ((decide (((gd l k).dot).rep=rep)) == true) (.agg (vc v).toArray),pg ((decide (((gd l k).dot).rep=rep)) == true) (.slice a l.length c),pg ((decide (((gd l k).dot).rep=rep)) == true) (I6 (k:Int)),pg ((decide (((gd l k).dot).rep=rep)) == true) (.pointer (some ⟨bkS (.slice a l.length c),ofS (.slice a l.length c)+(k:Int).toNat*23,none⟩)),pg ((decide (((gd l k).dot).rep=rep)) == true) (.pointer (some ⟨bkS (.slice a l.length c),ofS (.slice a l.length c)+(k:Int).toNat*23+0,none⟩)),pg ((decide (((gd l k).dot).rep=rep)) == true) (.agg (dc ((gd l k).dot)).toArray),pg ((decide (((gd l k).dot).rep=rep)) == true) (.bool (QbD v ((gd l k).dot))),pv (.bool ((decide (((gd l k).dot).rep=rep))&&(QbD v ((gd l k).dot))))] (fun _ _=>_) [17] (by kernel_rfl) Y ⟨?_,?_,?_,?_,?_,?_,?_,?_,?_,?_,?_,?_,?_,?_,?_,?_,?_,?_,trivial⟩ ?_
  ·exact oi [] fun Y=>Qaf (.slice a l.length c) (Zz Y)
  ·exact oi [] fun Y=>Qaf (.int .i64 (k:Int)) (Zz Y)
  ·exact oi [0,1] fun Y=>Qax QbG Qa3.1 (Rd.own' hr Y) rfl rfl (by omega) (by rw [QQ6];omega) (Zz Y)
  ·exact oi [2] fun Y=>Qac Qa7 rfl (Zz Y)
  ·exact oi [3] fun Y=>Qac QbJ rfl (Zz Y)
  ·exact oi [4] fun Y=>QaV (j:=0) (V:=.int .u8 (((gd l k).dot).rep)) k QcI (Rd.own' hr Y) (Qa4 (by omega)) rfl rfl (by omega) (Zz Y)
  ·exact oi [5] fun Y=>QbV QxR Qhk rfl (Qbx (by omega) (by omega)) (Zz Y)
  ·exact oi [] fun Y=>Qaf (.int .i64 rep) (Zz Y)
  ·exact oi [6,7] fun Y=>QaT rfl rfl (Zz Y)
  ·exact oi [8] fun Y=>Qaf (.bool (decide (((gd l k).dot).rep=rep))) (Zz Y)
  ·exact ogi [9] fun hG Y=>QaK (cs:=vc v) QbC Y 0 rfl rfl rfl (Zz Y)
  ·exact ogi [9] fun hG Y=>Qaf (.slice a l.length c) (Zz Y)
  ·exact ogi [9] fun hG Y=>Qaf (.int .i64 (k:Int)) (Zz Y)
  ·refine oyi [9,11,12] [11,12] fun hG Y=>?_
   have hgd:=QQ1 (eq_of_beq (hG))
   exact Qax QbG Qa3.1 (Rd.own' hr Y) rfl rfl (by omega) (by rw [QQ6];omega) (Zz Y)
  ·exact oyi [9,13] [13] fun hG Y=>Qac Qa7 rfl (Zz Y)
  ·refine oyi [9,14] [14] fun hG Y=>?_
   have hgd:=QQ1 (eq_of_beq (hG))
   exact Qa9 (j:=0) (vs:=dc ((gd l k).dot)) k QcV (Rd.own' hr Y) (Qa4 (by omega)) rfl rfl rfl (by omega) (Zz Y)
  ·refine oyi [9,10,15] [10,15] fun hG Y=>?_
   have hgd:=QQ1 (eq_of_beq (hG))
   exact Qas (vs:=[.agg (vc v).toArray,.agg (dc ((gd l k).dot)).toArray]) (V:=.bool (QbD v ((gd l k).dot))) QlR rfl rfl (QfP _ v ((gd l k).dot) (by first|assumption|exact QcN (by omega) (by omega) (by omega) (by omega))) Y fun _ Y=>Zz Y
  ·exact oi [9,16] fun Y=>Qbg (h':=QbD v ((gd l k).dot)) rfl rfl rfl (Zz Y)
  rintro J1 w6 J2 hJ Y
  replace hJ:J2=upd (mix (sq 15 18) J1 _) 32 (.bool ((decide (((gd l k).dot).rep=rep))&&(QbD v ((gd l k).dot)))):=hJ
  subst hJ
  refine Qak (t:=(decide (((gd l k).dot).rep=rep))&&(QbD v ((gd l k).dot))) rfl (fun c7=>?_) (fun c7=>?_)
  ·
   have c7r:=Qcl c7
   replace c7:=QbZ c7
   replace c7:=QQ1 c7
   refine Qab (Qaa (Qaf (.int .u32 n) (Qaa (QaB (a:=n) (b:=1) (c:=n+1) rfl rfl (QeX (by omega) (by omega)) (Qaa (Qam (.int .u32 (n+1)) (Qad (Qab (Qaa (Qaf (I6 (k:Int)) (Qaa (QaB (a:=(k:Int)) (b:=1) (c:=(k:Int)+1) rfl rfl (Qbx (by omega) (by omega)) (Qaa (Qam (I6 ((k:Int)+1)) (Qad ?_)))))))))))))))
   refine ⟨_,?_,_,k+1,n+1,Qai (Qai (Qao (ds:=(sq 7 28)) (by repeat (first|exact Agr.refl _ _|refine Agr.upd ?_ rfl|refine Agr.mix ?_ rfl))) rfl) rfl,(by omega),(QsB hn2 (by omega) c7 c7r),(by omega),rfl,Y.take 1⟩
   omega
  refine Qap (Qab (Qaa (Qaf (I6 (k:Int)) (Qaa (QaB (a:=(k:Int)) (b:=1) (c:=(k:Int)+1) rfl rfl (Qbx (by omega) (by omega)) (Qaa (Qam (I6 ((k:Int)+1)) (Qad ?_))))))))
  refine ⟨_,?_,_,k+1,n,Qai (Qai (Qao (ds:=(sq 7 28)) (by repeat (first|exact Agr.refl _ _|refine Agr.upd ?_ rfl|refine Agr.mix ?_ rfl))) rfl) rfl,(by omega),(QuU hn2 (by omega) c7),(by omega),rfl,Y.take 1⟩
  omega
 replace c4:=QQ2 c4
 refine QaI (Qae (Qab (Qaa (Qaf (.int .u32 n) (Qaa (Qam (.int .u32 n) (Qad (Qav ?_))))))))
 refine ⟨_,Qan (V:=.int .u32 n) results114 rfl,(Zr Y ?_)⟩
 rw [hn2,QcC (by omega)]
theorem Qha (w:World) (a:Option Addr) (c:Nat) (l:List Opn) (hl:∀ o∈l,QbL o) (hlen:l.length<=1000) (hr:Rd w (.slice a l.length c) 23 (l.map oc)):Calls prog 70 #[.slice a l.length c] w (fun e w'=>e = .returned (.bool (Qbs l))/\Own w no w' []):=by
 refine Qah (n:=57) func70 rfl ntmps70 rfl ?_
 have Y:=Own.start w
 have hn:=hr.sml
 refine Qae (Qab (Qaa (Qam (.bool false) (Qad (Qae (Qae (Qab (Qaa (Qam (I6 0) (Qad (Qal (QaE (fun J μ J' w'=>∃ (Jo:Env) (k:Nat),J'=upd (mix ([2,3]++sq 6 24) Jo J) 3 (I6 (k:Int))/\(k<=l.length)/\(∀ j:Nat,j<k->Qpd l j=false)/\μ=l.length-k/\Own w no w' []) ?_ ?_))))))))))))
 ·exact ⟨_,_,0,Qai (Qao (ds:=([2,3]++sq 6 24)) (Agr.refl _ _)) rfl,(by omega),(fun j hj=>absurd hj (Nat.not_lt_zero j)),rfl,Y⟩
 rintro μ J' w1 ⟨Jo,k,rfl,hk,hbad,rfl,Y⟩
 refine Qae (Qae (Qab (Qaa (Qaf (I6 (k:Int)) (Qaa (Qaf (.slice a l.length c) (Qaa (Qa5 (n:=l.length) QbG (Rd.own' hr Y) (by simp) rfl (Qaa (Qa0 rfl rfl (Qad (Qak (t:=decide ((k:Int)<((l.length:Nat):Int))) rfl (fun c2=>?_) (fun c2=>?_)))))))))))))
 ·
  replace c2:=QQ1 c2
  refine Qap (Qae (Qal (Qae ?_)))
  have hok:=hl _ (Qbo (l:=l) (i:=k) (by omega))
  have hdk:=hok.1
  refine QaH HM (so 12 18) [] [0,0,3,7,15,31,63,127,255,255,1023,255,255,6399,14591,30975,65535,131071] [pv (.slice a l.length c),pv (I6 (k:Int)),pv (.pointer (some ⟨bkS (.slice a l.length c),ofS (.slice a l.length c)+(k:Int).toNat*23,none⟩)),pv (.pointer (some ⟨bkS (.slice a l.length c),ofS (.slice a l.length c)+(k:Int).toNat*23+0,none⟩)),pv (.agg (dc ((gd l k).dot)).toArray),pv (.bool (QbQ ((gd l k).dot))),pv (.bool (!(QbQ ((gd l k).dot)))),pv (.bool (!(QbQ ((gd l k).dot)))),pg ((!(QbQ ((gd l k).dot))) == false) (.slice a l.length c),pg ((!(QbQ ((gd l k).dot))) == false) (I6 (k:Int)),pg ((!(QbQ ((gd l k).dot))) == false) (.slice (sla a 0 c 23) ((l.take k).length) (c-0)),pg ((!(QbQ ((gd l k).dot))) == false) (.slice a l.length c),pg ((!(QbQ ((gd l k).dot))) == false) (I6 (k:Int)),pg ((!(QbQ ((gd l k).dot))) == false) (.pointer (some ⟨bkS (.slice a l.length c),ofS (.slice a l.length c)+(k:Int).toNat*23,none⟩)),pg ((!(QbQ ((gd l k).dot))) == false) (.pointer (some ⟨bkS (.slice a l.length c),ofS (.slice a l.length c)+(k:Int).toNat*23+0,none⟩)),pg ((!(QbQ ((gd l k).dot))) == false) (.agg (dc ((gd l k).dot)).toArray),pg ((!(QbQ ((gd l k).dot))) == false) (.bool ((l.take k).any fun o=>decide (o.dot=(gd l k).dot))),pv (.bool ((!(QbQ ((gd l k).dot)))||((l.take k).any fun o=>decide (o.dot=(gd l k).dot))))] (fun _ _=>_) [17] (by kernel_rfl) Y ⟨?_,?_,?_,?_,?_,?_,?_,?_,?_,?_,?_,?_,?_,?_,?_,?_,?_,?_,trivial⟩ ?_
  ·exact oi [] fun Y=>Qaf (.slice a l.length c) (Zz Y)
  ·exact oi [] fun Y=>Qaf (.int .i64 (k:Int)) (Zz Y)
  ·exact oi [0,1] fun Y=>Qax QbG Qa3.1 (Rd.own' hr Y) rfl rfl (by omega) (by rw [QQ6];omega) (Zz Y)
  ·exact oi [2] fun Y=>Qac Qa7 rfl (Zz Y)
  ·exact oi [3] fun Y=>Qa9 (j:=0) (vs:=dc ((gd l k).dot)) k QcV (Rd.own' hr Y) (Qa4 (by omega)) rfl rfl rfl (by omega) (Zz Y)
  ·exact oi [4] fun Y=>Qas (vs:=[.agg (dc ((gd l k).dot)).toArray]) (V:=.bool (QbQ ((gd l k).dot))) Qor rfl rfl (QjK _ ((gd l k).dot)) Y fun _ Y=>Zz Y
  ·exact oi [5] fun Y=>QbB rfl (Zz Y)
  ·exact oi [6] fun Y=>Qaf (.bool (!(QbQ ((gd l k).dot)))) (Zz Y)
  ·exact ogi [7] fun hG Y=>Qaf (.slice a l.length c) (Zz Y)
  ·exact ogi [7] fun hG Y=>Qaf (.int .i64 (k:Int)) (Zz Y)
  ·exact oyi [7,8,9] [8,9] fun hG Y=>QlO (l:=0) (h:=k) (m:=c) (n':=(l.take k).length) Qvy Qa3.1 (Rd.own' hr Y) rfl (.inl ⟨rfl,rfl⟩) (.inr ⟨_,_,rfl,rfl⟩) (.inl ⟨rfl,rfl⟩) (by omega) (by omega) (Nat.le_trans (show k<=l.length by omega) (Rd.roomM (Rd.own' hr Y))) (Nat.le_refl _) (by simp only [List.length_take,List.length_drop]<;>omega) (Zz Y)
  ·exact ogi [7] fun hG Y=>Qaf (.slice a l.length c) (Zz Y)
  ·exact ogi [7] fun hG Y=>Qaf (.int .i64 (k:Int)) (Zz Y)
  ·exact oyi [7,11,12] [11,12] fun hG Y=>Qax QbG Qa3.1 (Rd.own' hr Y) rfl rfl (by omega) (by rw [QQ6];omega) (Zz Y)
  ·exact oyi [7,13] [13] fun hG Y=>Qac Qa7 rfl (Zz Y)
  ·exact oyi [7,14] [14] fun hG Y=>Qa9 (j:=0) (vs:=dc ((gd l k).dot)) k QcV (Rd.own' hr Y) (Qa4 (by omega)) rfl rfl rfl (by omega) (Zz Y)
  ·exact oyi [7,10,15] [10,15] fun hG Y=>Qas (vs:=[.slice (sla a 0 c 23) ((l.take k).length) (c-0),.agg (dc ((gd l k).dot)).toArray]) (V:=.bool ((l.take k).any fun o=>decide (o.dot=(gd l k).dot))) QuS rfl rfl (Qp1 _ (sla a 0 c 23) (c-0) (l.take k) ((gd l k).dot) (Rd.subM (Rd.own' hr Y) 0 k c (by omega) (by omega) (Nat.le_trans (show k<=l.length by omega) (Rd.roomM (Rd.own' hr Y))) (Nat.le_refl _) _ (by simp only [List.length_take,List.length_drop]<;>omega))) Y fun _ Y=>Zz Y
  ·exact oi [7,16] fun Y=>QbP (h':=(l.take k).any fun o=>decide (o.dot=(gd l k).dot)) rfl rfl rfl (Zz Y)
  rintro J1 w5 J2 hJ Y
  replace hJ:J2=upd (mix (sq 12 18) J1 _) 29 (.bool ((!(QbQ ((gd l k).dot)))||((l.take k).any fun o=>decide (o.dot=(gd l k).dot)))):=hJ
  subst hJ
  refine Qak (t:=(!(QbQ ((gd l k).dot)))||((l.take k).any fun o=>decide (o.dot=(gd l k).dot))) rfl (fun c6=>?_) (fun c6=>?_)
  ·
   refine Qae (Qab (Qaa (Qam (.bool false) (Qad (Qav ?_)))))
   refine ⟨_,Qan (V:=.bool false) results70 rfl,(Zr Y ?_)⟩
   exact congrArg Value.bool (QjQ (k:=k) (by omega) (by unfold Qpd;exact c6)).symm
  have c6r:=Qfa c6
  replace c6:=Qe8 c6
  replace c6:=Qbd c6
  refine Qap (Qab (Qaa (Qaf (I6 (k:Int)) (Qaa (QaB (a:=(k:Int)) (b:=1) (c:=(k:Int)+1) rfl rfl (Qbx (by omega) (by omega)) (Qaa (Qam (I6 ((k:Int)+1)) (Qad ?_))))))))
  refine ⟨_,?_,_,k+1,Qai (Qao (ds:=([2,3]++sq 6 24)) (by repeat (first|exact Agr.refl _ _|refine Agr.upd ?_ rfl|refine Agr.mix ?_ rfl))) rfl,(by omega),(Qdo hbad (by unfold Qpd;rw [c6,c6r];rfl)),rfl,Y.take 0⟩
  omega
 replace c2:=QQ2 c2
 refine QaI (Qae (Qae (Qab (Qaa (Qam (I6 0) (Qad (Qal (QaE (fun J μ J' w'=>∃ (Jo:Env) (k2:Nat),J'=upd (mix ([2,4,5]++sq 30 27) Jo J) 4 (I6 (k2:Int))/\(k2<=l.length)/\(∀ j:Nat,j<k2->QfN l (gd l j)=true)/\μ=l.length-k2/\Own w no w' []) ?_ ?_))))))))
 ·exact ⟨_,_,0,Qai (Qao (ds:=([2,4,5]++sq 30 27)) (Agr.refl _ _)) rfl,(by omega),(fun j hj=>absurd hj (Nat.not_lt_zero j)),rfl,Y⟩
 rintro μ J' w7 ⟨Jo,k2,rfl,hk2,hkn,rfl,Y⟩
 refine Qae (Qae (Qab (Qaa (Qaf (I6 (k2:Int)) (Qaa (Qaf (.slice a l.length c) (Qaa (Qa5 (n:=l.length) QbG (Rd.own' hr Y) (by simp) rfl (Qaa (Qa0 rfl rfl (Qad (Qak (t:=decide ((k2:Int)<((l.length:Nat):Int))) rfl (fun c8=>?_) (fun c8=>?_)))))))))))))
 ·
  replace c8:=QQ1 c8
  refine Qap (Qae (Qal (Qae (Qab (Qaa (Qam (I6 0) (Qad (Qal (QaE (fun J μ J' w'=>∃ (Jo:Env) (k3:Nat),J'=upd (mix ([2,5]++sq 36 21) Jo J) 5 (I6 (k3:Int))/\(k3<=16)/\(∀ r:Nat,r<k3->QhJ l (gd l k2).ctx (r:Int)=min (vat (gd l k2).ctx r) 1048576)/\μ=16-k3/\Own w no w' []) ?_ ?_)))))))))
  ·exact ⟨_,_,0,Qai (Qao (ds:=([2,5]++sq 36 21)) (Agr.refl _ _)) rfl,(by omega),(fun j hj=>absurd hj (Nat.not_lt_zero j)),rfl,Y⟩
  rintro μ J' w9 ⟨Jo,k3,rfl,hk3,hr3,rfl,Y⟩
  refine Qae (Qae (Qab (Qaa (Qaf (I6 (k3:Int)) (Qaa (Qa0 rfl rfl (Qad (Qak (t:=decide ((k3:Int)<16)) rfl (fun c10=>?_) (fun c10=>?_)))))))))
  ·
   replace c10:=QQ1 c10
   refine Qap (Qae (Qal (Qae ?_)))
   have hok2:=hl _ (Qbo (l:=l) (i:=k2) (by omega))
   refine QaH HM (so 40 17) [] [0,0,0,6,14,30,0,127,0,0,0,768,2816,7936,16128,32512,65535] [pv (.slice a l.length c),pv (.slice a l.length c),pv (I6 (k2:Int)),pv (.pointer (some ⟨bkS (.slice a l.length c),ofS (.slice a l.length c)+(k2:Int).toNat*23,none⟩)),pv (.pointer (some ⟨bkS (.slice a l.length c),ofS (.slice a l.length c)+(k2:Int).toNat*23+7,none⟩)),pv (.agg (vc ((gd l k2).ctx)).toArray),pv (I6 (k3:Int)),pv (.int .u32 (QhJ l ((gd l k2).ctx) (k3:Int))),pv (.slice a l.length c),pv (I6 (k2:Int)),pv (I6 (k3:Int)),pv (.pointer (some ⟨bkS (.slice a l.length c),ofS (.slice a l.length c)+(k2:Int).toNat*23,none⟩)),pv (.pointer (some ⟨bkS (.slice a l.length c),ofS (.slice a l.length c)+(k2:Int).toNat*23+7,none⟩)),pv (.pointer (some ⟨bkS (.slice a l.length c),ofS (.slice a l.length c)+(k2:Int).toNat*23+7+(k3:Int).toNat,none⟩)),pv (.int .u32 (vat ((gd l k2).ctx) k3)),pv (.int .u32 (min (vat ((gd l k2).ctx) k3) 1048576)),pv (.bool (!decide (QhJ l ((gd l k2).ctx) (k3:Int)=min (vat ((gd l k2).ctx) k3) 1048576)))] (fun _ _=>_) [16] (by kernel_rfl) Y ⟨?_,?_,?_,?_,?_,?_,?_,?_,?_,?_,?_,?_,?_,?_,?_,?_,?_,trivial⟩ ?_
   ·exact oi [] fun Y=>Qaf (.slice a l.length c) (Zz Y)
   ·exact oi [] fun Y=>Qaf (.slice a l.length c) (Zz Y)
   ·exact oi [] fun Y=>Qaf (.int .i64 (k2:Int)) (Zz Y)
   ·exact oi [1,2] fun Y=>Qax QbG Qa3.1 (Rd.own' hr Y) rfl rfl (by omega) (by rw [QQ6];omega) (Zz Y)
   ·exact oi [3] fun Y=>Qac QcG rfl (Zz Y)
   ·exact oi [4] fun Y=>Qa9 (j:=7) (vs:=vc ((gd l k2).ctx)) k2 QbC (Rd.own' hr Y) (Qa4 (by omega)) rfl rfl rfl (by omega) (Zz Y)
   ·exact oi [] fun Y=>Qaf (.int .i64 (k3:Int)) (Zz Y)
   ·exact oi [0,5,6] fun Y=>Qas (vs:=[.slice a l.length c,.agg (vc ((gd l k2).ctx)).toArray,.int .i64 (k3:Int)]) (V:=.int .u32 (QhJ l ((gd l k2).ctx) (k3:Int))) QuL rfl rfl (QmY _ a c l ((gd l k2).ctx) (k3:Int) (by assumption) (by assumption) (Rd.own' hr Y)) Y fun _ Y=>Zz Y
   ·exact oi [] fun Y=>Qaf (.slice a l.length c) (Zz Y)
   ·exact oi [] fun Y=>Qaf (.int .i64 (k2:Int)) (Zz Y)
   ·exact oi [] fun Y=>Qaf (.int .i64 (k3:Int)) (Zz Y)
   ·exact oi [8,9] fun Y=>Qax QbG Qa3.1 (Rd.own' hr Y) rfl rfl (by omega) (by rw [QQ6];omega) (Zz Y)
   ·exact oi [11] fun Y=>Qac QcG rfl (Zz Y)
   ·exact oi [10,12] fun Y=>Qb2 Qd0 QaU.1 rfl rfl (by omega) (by omega) (Zz Y)
   ·exact oi [13] fun Y=>QaV (j:=7+k3) (V:=.int .u32 (vat ((gd l k2).ctx) k3)) k2 QaU (Rd.own' hr Y) (Qa4 (by omega)) (QuA (by omega)) rfl (by omega) (Zz Y)
   ·exact oi [14] fun Y=>Qxo rfl rfl (Zz Y)
   ·exact oi [7,15] fun Y=>Qck rfl rfl (Zz Y)
   rintro J1 w12 J2 hJ Y
   replace hJ:J2=upd (mix (sq 40 17) J1 _) 56 (.bool (!decide (QhJ l ((gd l k2).ctx) (k3:Int)=min (vat ((gd l k2).ctx) k3) 1048576))):=hJ
   subst hJ
   refine Qak (t:=!decide (QhJ l ((gd l k2).ctx) (k3:Int)=min (vat ((gd l k2).ctx) k3) 1048576)) rfl (fun c13=>?_) (fun c13=>?_)
   ·
    replace c13:=QbE c13
    replace c13:=QQ2 c13
    refine Qae (Qab (Qaa (Qam (.bool false) (Qad (Qav ?_)))))
    refine ⟨_,Qan (V:=.bool false) results70 rfl,(Zr Y ?_)⟩
    exact congrArg Value.bool (Qmh (k:=k2) (r:=k3) (by omega) (by omega) c13).symm
   replace c13:=Qbd c13
   replace c13:=QQ1 c13
   refine Qap (Qab (Qaa (Qaf (I6 (k3:Int)) (Qaa (QaB (a:=(k3:Int)) (b:=1) (c:=(k3:Int)+1) rfl rfl (Qbx (by omega) (by omega)) (Qaa (Qam (I6 ((k3:Int)+1)) (Qad ?_))))))))
   refine ⟨_,?_,_,k3+1,Qai (Qao (ds:=([2,5]++sq 36 21)) (by repeat (first|exact Agr.refl _ _|refine Agr.upd ?_ rfl|refine Agr.mix ?_ rfl))) rfl,(by omega),(fun r hr=>if e:r=k3 then by subst e;exact c13 else hr3 r (by omega)),rfl,Y.take 0⟩
   omega
  replace c10:=QQ2 c10
  refine QaI (Qab (Qaa (Qaf (I6 (k2:Int)) (Qaa (QaB (a:=(k2:Int)) (b:=1) (c:=(k2:Int)+1) rfl rfl (Qbx (by omega) (by omega)) (Qaa (Qam (I6 ((k2:Int)+1)) (Qad ?_))))))))
  refine ⟨_,?_,_,k2+1,Qai (Qao (ds:=([2,4,5]++sq 30 27)) (by repeat (first|exact Agr.refl _ _|refine Agr.upd ?_ rfl|refine Agr.mix ?_ rfl))) rfl,(by omega),(Qls (p:=fun j=>QfN l (gd l j)) hkn (Qmm fun r hr=>hr3 r (by omega))),rfl,Y.take 0⟩
  omega
 replace c8:=QQ2 c8
 refine QaI (Qae (Qab (Qaa (Qam (.bool true) (Qad (Qav ?_))))))
 refine ⟨_,Qan (V:=.bool true) results70 rfl,(Zr Y ?_)⟩
 exact congrArg Value.bool (QjT (fun j hj=>hbad j (by omega)) fun j hj=>hkn j (by omega)).symm
theorem QiN (w:World) (v:Vec) (a:Option Addr) (c:Nat) (l:List Opn) (hl:∀ o∈l,QbL o) (hlen:l.length<=1000) (hr:Rd w (.slice a l.length c) 23 (l.map oc)):Calls prog 35 #[.slice a l.length c,.agg (vc v).toArray] w (fun e w'=>∃ x:Option Addr × Nat,e = .returned (.slice x.1 (Qaq l v).length x.2)/\Own w no w' [row (.slice x.1 (Qaq l v).length x.2) ((Qaq l v).map oc) 98 23]/\True):=by
 refine Qah (n:=28) func35 rfl ntmps35 rfl ?_
 have Y:=Own.start w
 have hn:=hr.sml
 refine Qae (Qab (Qaa (QaY (V:=.agg (vc v).toArray) (cs:=vc v) rfl rfl Y fun b1 w2 Y=>(Qaa (Qam (.slice none 0 0) (Qad (Qae (Qab (Qaa (Qam (.slice none 0 0) (Qad (Qae (Qae (Qab (Qaa (Qam (I6 0) (Qad (Qal ?_))))))))))))))))))
 replace Y:=Y.more (row (.slice none 0 0) (List.map oc []) 98 23) (Qbi _ _ _ _)
 refine QaE (fun J μ J' w'=>∃ (Jo:Env) (k:Nat) (an:Option Addr) (cn:Nat) (out:List Opn),J'=upd (upd (mix (sq 5 22) Jo J) 6 (I6 (k:Int))) 5 (.slice an out.length cn)/\(k<=l.length)/\(out.length<=k)/\(out=Qaq (l.take k) v)/\μ=l.length-k/\Own w no w' [blk b1 (vc v) 24,row (.slice an out.length cn) (out.map oc) 98 23]) ?_ ?_
 ·exact ⟨_,_,0,none,0,[],Qai (Qai (Qao (ds:=(sq 5 22)) (Agr.refl _ _)) rfl) rfl,(by omega),(Nat.le_refl _),rfl,rfl,Y⟩
 rintro μ J' w3 ⟨Jo,k,an,cn,out,rfl,hk,hol,hout,rfl,Y⟩
 refine Qae (Qae (Qab (Qaa (Qaf (I6 (k:Int)) (Qaa (Qaf (.slice a l.length c) (Qaa (Qa5 (n:=l.length) QbG (Rd.own' hr Y) (by simp) rfl (Qaa (Qa0 rfl rfl (Qad (Qak (t:=decide ((k:Int)<((l.length:Nat):Int))) rfl (fun c4=>?_) (fun c4=>?_)))))))))))))
 ·
  replace c4:=QQ1 c4
  refine Qap (Qae (Qal (Qae ?_)))
  have hok:=hl _ (Qbo (l:=l) (i:=k) (by omega))
  have hdk:=hok.1
  refine QaH HM (so 13 7) [] [0,0,0,6,14,30,63] [pv (.agg (vc v).toArray),pv (.slice a l.length c),pv (I6 (k:Int)),pv (.pointer (some ⟨bkS (.slice a l.length c),ofS (.slice a l.length c)+(k:Int).toNat*23,none⟩)),pv (.pointer (some ⟨bkS (.slice a l.length c),ofS (.slice a l.length c)+(k:Int).toNat*23+0,none⟩)),pv (.agg (dc ((gd l k).dot)).toArray),pv (.bool (QbD v ((gd l k).dot)))] (fun _ _=>_) [6] (by kernel_rfl) Y ⟨?_,?_,?_,?_,?_,?_,?_,trivial⟩ ?_
  ·exact oi [] fun Y=>QaK (cs:=vc v) QbC Y 0 rfl rfl rfl (Zz Y)
  ·exact oi [] fun Y=>Qaf (.slice a l.length c) (Zz Y)
  ·exact oi [] fun Y=>Qaf (.int .i64 (k:Int)) (Zz Y)
  ·exact oi [1,2] fun Y=>Qax QbG Qa3.1 (Rd.own' hr Y) rfl rfl (by omega) (by rw [QQ6];omega) (Zz Y)
  ·exact oi [3] fun Y=>Qac Qa7 rfl (Zz Y)
  ·exact oi [4] fun Y=>Qa9 (j:=0) (vs:=dc ((gd l k).dot)) k QcV (Rd.own' hr Y) (Qa4 (by omega)) rfl rfl rfl (by omega) (Zz Y)
  ·exact oi [0,5] fun Y=>Qas (vs:=[.agg (vc v).toArray,.agg (dc ((gd l k).dot)).toArray]) (V:=.bool (QbD v ((gd l k).dot))) QlR rfl rfl (QfP _ v ((gd l k).dot) (by first|assumption|exact QcN (by omega) (by omega) (by omega) (by omega))) Y fun _ Y=>Zz Y
  rintro J1 w6 J2 hJ Y
  replace hJ:J2=upd (mix (sq 13 7) J1 _) 19 (.bool (QbD v ((gd l k).dot))):=hJ
  subst hJ
  refine Qak (t:=QbD v ((gd l k).dot)) rfl (fun c7=>?_) (fun c7=>?_)
  ·
   refine Qab (Qaa (Qaf (.slice an out.length cn) (Qaa (Qaf (.slice a l.length c) (Qaa (Qaf (I6 (k:Int)) (Qaa (Qax QbG Qa3.1 (Rd.own' hr Y) rfl rfl (by omega) (by rw [QQ6];omega) (Qaa (Qa9 (j:=0) (vs:=oc (gd l k)) k Qa3 (Rd.own' hr Y) (Qa4 (by omega)) rfl rfl rfl (by omega) (Qaa (Qho (vals:=[.agg (oc (gd l k)).toArray]) (ls:=List.map oc ([gd l k]:List Opn)) Qkd rfl rfl rfl (Qbn (enc:=oc) (fun _=>rfl) _) (QaW QcX _) (QQ8 rfl) Y fun b8 w9 Y=>(Qaa (Qdj (ls':=(out++[gd l k]).map oc) (n:=(out++[gd l k]).length) Qkd Y 1 rfl rfl rfl (Y.rd 2 rfl) (QaW QcX _) (by simp only [QQ6,QQ7,List.length_cons,List.length_nil];omega) (by simp) (by simp) fun a10 c10 w11 Y=>(Qaa (Qam (.slice a10 ((out++[gd l k]).length) c10) (Qad (Qab (Qaa (Qaf (I6 (k:Int)) (Qaa (QaB (a:=(k:Int)) (b:=1) (c:=(k:Int)+1) rfl rfl (Qbx (by omega) (by omega)) (Qaa (Qam (I6 ((k:Int)+1)) (Qad ?_)))))))))))))))))))))))))
   refine ⟨_,?_,_,k+1,a10,c10,out++[gd l k],Qai (Qai (Qao (ds:=(sq 5 22)) (by repeat (first|exact Agr.refl _ _|refine Agr.upd ?_ rfl|refine Agr.mix ?_ rfl))) rfl) rfl,(by omega),(by first|omega|(rw [QQ7,List.length_singleton];omega)),(Qff hout (by omega) c7),rfl,Y.take 2⟩
   omega
  refine Qap (Qab (Qaa (Qaf (I6 (k:Int)) (Qaa (QaB (a:=(k:Int)) (b:=1) (c:=(k:Int)+1) rfl rfl (Qbx (by omega) (by omega)) (Qaa (Qam (I6 ((k:Int)+1)) (Qad ?_))))))))
  refine ⟨_,?_,_,k+1,an,cn,out,Qai (Qai (Qao (ds:=(sq 5 22)) (by repeat (first|exact Agr.refl _ _|refine Agr.upd ?_ rfl|refine Agr.mix ?_ rfl))) rfl) rfl,(by omega),(by first|omega|(rw [QQ7,List.length_singleton];omega)),(Qik hout (by omega) c7),rfl,Y.take 2⟩
  omega
 replace c4:=QQ2 c4
 refine QaI (Qae (Qab (Qaa (Qaf (.slice an out.length cn) (Qaa (Qam (.slice an out.length cn) (Qad (Qav ?_))))))))
 refine ⟨_,Qan (V:=.slice an out.length cn) results35 rfl,?_⟩
 have hX:out=Qaq l v:=by rw [hout,QcC (by omega)]
 rw [hX] at Y ⊢
 exact ⟨(an,cn),rfl,Y.only 1 rfl,trivial⟩
end Tt
end Go.Proofs
namespace Go.Proofs
open Go Go.Vx Go.RowKit
open Tryz
namespace Tt
theorem Qwh (w:World) (x y:Cen):Calls prog 128 #[.agg (cec x).toArray,.agg (cec y).toArray] w (fun e w'=>e = .returned (.int .i64 (QuF x y))/\Own w no w' []):=by
 refine Qah (n:=26) func128 rfl ntmps128 rfl ?_
 have Y:=Own.start w
 refine Qae (Qab (Qaa (QaY (V:=.agg (cec x).toArray) (cs:=cec x) rfl rfl Y fun b1 w2 Y=>(Qaa (QaY (V:=.agg (cec y).toArray) (cs:=cec y) rfl rfl Y fun b3 w4 Y=>(Qaa (Qam (I6 0) (Qad (Qae ?_)))))))))
 replace Y:=Y.more emp trivial
 refine QaH HM (so 5 21++[some 4]) [[],[],[],[],[],[],[],[],[],[],[],[],[],[],[],[],[],[],[],[24]] [0,1,0,4,15,0,32,96,0,256,768,2047,0,4096,12288,0,32768,98304,262143,524287,1048575,2097151] [pv (Pq b1 (0+6)),pv (.int .u64 x.count),pv (Pq b3 (0+6)),pv (.int .u64 y.count),pv (I6 (QaR x.count y.count)),pv (Pq b1 (0+4)),pv (Pq b1 (0+4+0)),pv (.int .u8 x.dot.rep),pv (Pq b3 (0+4)),pv (Pq b3 (0+4+0)),pv (.int .u8 y.dot.rep),pv (I6 (QaR x.dot.rep y.dot.rep)),pv (Pq b1 (0+4)),pv (Pq b1 (0+4+1)),pv (.int .u32 x.dot.seq),pv (Pq b3 (0+4)),pv (Pq b3 (0+4+1)),pv (.int .u32 y.dot.seq),pv (I6 (QaR x.dot.seq y.dot.seq)),(true,fun J=>.slice (some ⟨(bOf (J 24)),0,none⟩) 3 3),pv (I6 (orI [QaR x.count y.count,QaR x.dot.rep y.dot.rep,QaR x.dot.seq y.dot.seq])),pv (I6 (orI [QaR x.count y.count,QaR x.dot.rep y.dot.rep,QaR x.dot.seq y.dot.seq]))] (fun D J=>[blk b1 (cec x) 106,blk b3 (cec y) 106,cond (D 19) (row (.slice (some ⟨(bOf (J 24)),0,none⟩) 3 3) ([QaR x.count y.count,QaR x.dot.rep y.dot.rep,QaR x.dot.seq y.dot.seq].map (ic .i64)) 3 1) (emp)]) [21] (by kernel_rfl) Y ⟨?_,?_,?_,?_,?_,?_,?_,?_,?_,?_,?_,?_,?_,?_,?_,?_,?_,?_,?_,?_,?_,?_,trivial⟩ ?_
 ·exact oi [] fun Y=>Qac Qgo rfl (Zz Y)
 ·exact oi [0] fun Y=>QaN (.int .u64 x.count) Qkm Y 0 (Zz Y)
 ·exact oi [] fun Y=>Qac Qgo rfl (Zz Y)
 ·exact oi [2] fun Y=>QaN (.int .u64 y.count) Qkm Y 1 (Zz Y)
 ·exact oi [1,3] fun Y=>Qas (vs:=[.int .u64 x.count,.int .u64 y.count]) (V:=.int .i64 (QaR x.count y.count)) Qrt rfl rfl (Qfq _ x.count y.count) Y fun _ Y=>Zz Y
 ·exact oi [] fun Y=>Qac QbX rfl (Zz Y)
 ·exact oi [5] fun Y=>Qac QbJ rfl (Zz Y)
 ·exact oi [6] fun Y=>QaN (.int .u8 x.dot.rep) QcI Y 0 (Zz Y)
 ·exact oi [] fun Y=>Qac QbX rfl (Zz Y)
 ·exact oi [8] fun Y=>Qac QbJ rfl (Zz Y)
 ·exact oi [9] fun Y=>QaN (.int .u8 y.dot.rep) QcI Y 1 (Zz Y)
 ·exact oi [7,10] fun Y=>Qas (vs:=[.int .u8 x.dot.rep,.int .u8 y.dot.rep]) (V:=.int .i64 (QaR x.dot.rep y.dot.rep)) Qrh rfl rfl (QdG _ x.dot.rep y.dot.rep) Y fun _ Y=>Zz Y
 ·exact oi [] fun Y=>Qac QbX rfl (Zz Y)
 ·exact oi [12] fun Y=>Qac QbN rfl (Zz Y)
 ·exact oi [13] fun Y=>QaN (.int .u32 x.dot.seq) QaU Y 0 (Zz Y)
 ·exact oi [] fun Y=>Qac QbX rfl (Zz Y)
 ·exact oi [15] fun Y=>Qac QbN rfl (Zz Y)
 ·exact oi [16] fun Y=>QaN (.int .u32 y.dot.seq) QaU Y 1 (Zz Y)
 ·exact oi [14,17] fun Y=>Qas (vs:=[.int .u32 x.dot.seq,.int .u32 y.dot.seq]) (V:=.int .i64 (QaR x.dot.seq y.dot.seq)) Qql rfl rfl (Qdk _ x.dot.seq y.dot.seq) Y fun _ Y=>Zz Y
 ·exact oi [4,11,18] fun Y=>Qho (vals:=[.int .i64 (QaR x.count y.count),.int .i64 (QaR x.dot.rep y.dot.rep),.int .i64 (QaR x.dot.seq y.dot.seq)]) (ls:=List.map (ic .i64) ([QaR x.count y.count,QaR x.dot.rep y.dot.rep,QaR x.dot.seq y.dot.seq]:List Int)) QkI rfl rfl rfl (Qbn (enc:=(ic .i64)) (fun _=>rfl) _) (QaW (QfB .i64) _) (QQ8 rfl) Y fun _ _ Y=>⟨rfl,Y.put 2 (QQ8 rfl)⟩
 ·exact oa [19] fun D J w Y=>Qas (vs:=[.slice (some ⟨(bOf (J 24)),0,none⟩) 3 3]) (V:=.int .i64 (orI [QaR x.count y.count,QaR x.dot.rep y.dot.rep,QaR x.dot.seq y.dot.seq])) Qpg rfl rfl (Qpr _ (some ⟨(bOf (J 24)),0,none⟩) 3 [QaR x.count y.count,QaR x.dot.rep y.dot.rep,QaR x.dot.seq y.dot.seq] (Y.rd 2 rfl)) Y fun _ Y=>Zz Y
 ·exact oi [20] fun Y=>Qam (.int .i64 (orI [QaR x.count y.count,QaR x.dot.rep y.dot.rep,QaR x.dot.seq y.dot.seq])) (Zz Y)
 rintro J1 w10 J2 hJ Y
 replace hJ:J2=upd (mix (sq 5 21++[4]) J1 _) 4 (I6 (orI [QaR x.count y.count,QaR x.dot.rep y.dot.rep,QaR x.dot.seq y.dot.seq])):=hJ
 replace Y:Own w no w10 [blk b1 (cec x) 106,blk b3 (cec y) 106,row (.slice (some ⟨(bOf (J1 24)),0,none⟩) 3 3) ([QaR x.count y.count,QaR x.dot.rep y.dot.rep,QaR x.dot.seq y.dot.seq].map (ic .i64)) 3 1]:=Y
 generalize (bOf (J1 24))=b11 at Y
 subst hJ
 refine Qav ?_
 refine ⟨_,Qan (V:=I6 (orI [QaR x.count y.count,QaR x.dot.rep y.dot.rep,QaR x.dot.seq y.dot.seq])) results128 rfl,(Zr Y ?_)⟩
 rfl
theorem Qpy (w:World) (x y:Cen):Calls prog 76 #[.agg (cec x).toArray,.agg (cec y).toArray] w (fun e w'=>e = .returned (.int .i64 (QaR x.item y.item))/\Own w no w' []):=by
 refine Qah (n:=10) func76 rfl ntmps76 rfl ?_
 have Y:=Own.start w
 refine Qae (Qab (Qaa (QaY (V:=.agg (cec x).toArray) (cs:=cec x) rfl rfl Y fun b1 w2 Y=>(Qaa (QaY (V:=.agg (cec y).toArray) (cs:=cec y) rfl rfl Y fun b3 w4 Y=>(Qaa (Qam (I6 0) (Qad (Qae (Qab (Qaa (Qac QdJ rfl (Qaa (QaN (I7 x.item) Qar Y 0 (Qaa (Qac QdJ rfl (Qaa (QaN (I7 y.item) Qar Y 1 (Qaa (Qas (vs:=[I7 x.item,I7 y.item]) (V:=I6 (QaR x.item y.item)) Qqr rfl rfl ?hc Y fun w5 Y=>?_))))))))))))))))))))
 case hc=>exact (Qdm _ x.item y.item)
 refine Qaa (Qam (I6 (QaR x.item y.item)) (Qad (Qav ?_)))
 refine ⟨_,Qan (V:=I6 (QaR x.item y.item)) results76 rfl,(Zr Y ?_)⟩
 rfl
theorem QsI (w:World) (item:Int) (a:Option Addr) (c:Nat) (l:List Cen) (hl:∀ e∈l,Qj2 e/\1<=e.count) (hr:Rd w (.slice a l.length c) 7 (l.map cec)):Calls prog 78 #[.int .u16 item,.slice a l.length c] w (fun e w'=>e = .returned (.agg (lc ⟨item,Qeg l⟩).toArray)/\Own w no w' []):=by
 refine Qah (n:=38) func78 rfl ntmps78 rfl ?_
 have Y:=Own.start w
 have hn1:=hr.sml
 refine Qae (Qab (Qaa (QaJ (cs:=lc (⟨0,0⟩:Line)) QvL rfl Y fun b1 w2 Y=>(Qad (Qae (Qab (Qaa (QaJ (cs:=cec (⟨0,0,0,0,(⟨0,0⟩:Dot),0⟩:Cen)) Qgb rfl Y fun b3 w4 Y=>(Qad (Qae (Qab (Qaa (Qam (.int .u32 0) (Qad (Qae (Qae (Qab (Qaa (Qaf (.slice a l.length c) (Qaa (Qa5 (n:=l.length) QbK (Rd.own' hr Y) (by simp) rfl (Qaa (Qaf (I6 0) (Qad (Qal (QaE (fun J μ J' w'=>∃ (Jo:Env) (k:Nat) (sm:Int) (u:Cen),J'=upd (upd (mix ([6,8]++sq 11 20) Jo J) 11 (I6 (k:Int))) 6 (.int .u32 sm)/\(k<=l.length)/\(sm=Qfy (l.take k))/\(u=(l.take k).foldl Qe9 cz)/\μ=l.length-k/\Own w no w' [blk b1 (lc (⟨0,0⟩:Line)) 127,blk b3 (cec u) 106]) ?_ ?_))))))))))))))))))))))))))
 ·exact ⟨_,_,0,0,cz,Qai (Qai (Qao (ds:=([6,8]++sq 11 20)) (Agr.refl _ _)) rfl) rfl,(by omega),rfl,rfl,rfl,Y⟩
 rintro μ J' w5 ⟨Jo,k,sm,u,rfl,hk,hsm,hset,rfl,Y⟩
 refine Qae (Qab (Qaa (Qa0 rfl rfl (Qad (Qae (Qak (t:=decide ((k:Int)<((l.length:Nat):Int))) rfl (fun c6=>?_) (fun c6=>?_)))))))
 ·
  replace c6:=QQ1 c6
  refine Qap (Qae (Qal (Qae (Qab (Qaa (Qax QbK QaF.1 (Rd.own' hr Y) rfl rfl (by omega) (by rw [QQ6];omega) (Qaa (Qa9 (j:=0) (vs:=cec (gd l k)) k QaF (Rd.own' hr Y) (Qa4 (by omega)) rfl rfl rfl (by omega) (Qaa (QaJ (cs:=cec (⟨0,0,0,0,(⟨0,0⟩:Dot),0⟩:Cen)) Qgb rfl Y fun b7 w8 Y=>(Qaa (Qcz (V:=.agg (cec (gd l k)).toArray) (vs:=cec (gd l k)) (cs':=cec (gd l k)) QaF.1 Y 2 rfl rfl rfl rfl rfl (QQ8 rfl) (Qby _) (Qaz rfl) fun w9 Y=>?_))))))))))))
  replace Y:=Ow [blk b1 (lc (⟨0,0⟩:Line)) 127,blk b3 (cec u) 106,blk b7 (cec (gd l k)) 106] Y
  refine Qad (Qal (Qae (Qab (Qaa (Qac QeR rfl (Qaa (QaN (.int .u8 ((gd l k).kind)) QcI Y 2 (Qaa (QaT rfl rfl (Qaa (Qam (.bool (decide ((gd l k).kind=1))) (Qad (Qak (t:=decide ((gd l k).kind=1)) rfl (fun c10=>?_) (fun c10=>?_))))))))))))))
  ·
   replace c10:=QQ1 c10
   have ⟨hq1,hq2⟩:=(hl _ (Qbo (l:=l) (i:=k) (by omega))).1.2.2.1
   refine Qab (Qaa (Qaf (.int .u32 sm) (Qaa (Qac QeC rfl (Qaa (QaN (I7 ((gd l k).qty)) Qar Y 2 (Qaa (QbV QiB QiZ rfl (QeX (by omega) (by omega)) (Qaa (QaB (a:=sm) (b:=(gd l k).qty) (c:=(sm+((gd l k).qty))%4294967296) rfl rfl (Qhy _) (Qaa (Qam (.int .u32 ((sm+((gd l k).qty))%4294967296)) (Qad (Qab (Qaa (QaB (a:=(k:Int)) (b:=1) (c:=((k+1:Nat):Int)) rfl rfl (Qaj (by omega) (by omega)) (Qaa (Qaf (I6 ((k+1:Nat):Int)) (Qad ?_)))))))))))))))))))
   refine ⟨_,?_,_,k+1,(sm+((gd l k).qty))%4294967296,u,Qai (Qai (Qao (ds:=([6,8]++sq 11 20)) (by repeat (first|exact Agr.refl _ _|refine Agr.upd ?_ rfl|refine Agr.mix ?_ rfl))) rfl) rfl,(by omega),(QpF hsm (by omega) c10),(by rw [← QgE hset (by omega),QnN c10]),rfl,Y.take 2⟩
   omega
  replace c10:=QQ2 c10
  refine Qae (Qab (Qaa (QaK (cs:=cec (gd l k)) QaF Y 2 rfl rfl rfl (Qaa (QaK (cs:=cec u) QaF Y 1 rfl rfl rfl (Qaa (Qas (vs:=[.agg (cec (gd l k)).toArray,.agg (cec u).toArray]) (V:=I6 (QuF (gd l k) u)) Qu2 rfl rfl ?hc Y fun w11 Y=>?_)))))))
  case hc=>exact (Qwh _ (gd l k) u)
  refine Qaa (Qa8 (V:=.bool (decide (0<QuF (gd l k) u))) (V':=.bool (Qex u (gd l k))) (Qca rfl rfl ⟨rfl,rfl⟩) (congrArg Value.bool (Qug _ _)) (Qaa (Qam (.bool (Qex u (gd l k))) (Qad (Qak (t:=Qex u (gd l k)) rfl (fun c12=>?_) (fun c12=>?_))))))
  ·
   refine Qab (Qaa (QaK (cs:=cec (gd l k)) QaF Y 2 rfl rfl rfl (Qaa (Qcz (V:=.agg (cec (gd l k)).toArray) (vs:=cec (gd l k)) (cs':=cec (gd l k)) QaF.1 Y 1 rfl rfl rfl rfl rfl (QQ8 rfl) (Qby _) (Qaz rfl) fun w13 Y=>(Qad (Qab (Qaa (QaB (a:=(k:Int)) (b:=1) (c:=((k+1:Nat):Int)) rfl rfl (Qaj (by omega) (by omega)) (Qaa (Qaf (I6 ((k+1:Nat):Int)) (Qad ?_)))))))))))
   refine ⟨_,?_,_,k+1,sm,gd l k,Qai (Qai (Qao (ds:=([6,8]++sq 11 20)) (by repeat (first|exact Agr.refl _ _|refine Agr.upd ?_ rfl|refine Agr.mix ?_ rfl))) rfl) rfl,(by omega),(QnR hsm (by omega) c10),(by rw [← QgE hset (by omega),Qph c10 c12]),rfl,Y.take 2⟩
   omega
  refine Qap (Qab (Qaa (QaB (a:=(k:Int)) (b:=1) (c:=((k+1:Nat):Int)) rfl rfl (Qaj (by omega) (by omega)) (Qaa (Qaf (I6 ((k+1:Nat):Int)) (Qad ?_))))))
  refine ⟨_,?_,_,k+1,sm,u,Qai (Qai (Qao (ds:=([6,8]++sq 11 20)) (by repeat (first|exact Agr.refl _ _|refine Agr.upd ?_ rfl|refine Agr.mix ?_ rfl))) rfl) rfl,(by omega),(QnR hsm (by omega) c10),(by rw [← QgE hset (by omega),Qst c10 c12]),rfl,Y.take 2⟩
  omega
 replace c6:=QQ2 c6
 refine QaI (Qae ?_)
 have ⟨hq1,hq2⟩:0<=u.qty/\u.qty<65536:=by rw [hset];exact Qqg fun e he=>(hl e (List.mem_of_mem_take he)).1
 refine Qab (Qaa (Qaf (I7 item) (Qaa (Qaf (.int .u32 sm) (Qaa (Qac QeC rfl (Qaa (QaN (I7 u.qty) Qar Y 1 (Qaa (QbV QiB QiZ rfl (QeX (by omega) (by omega)) (Qaa (QaB (a:=sm) (b:=u.qty) (c:=(sm+u.qty)%4294967296) rfl rfl (Qhy _) (Qaa (QbI (vs:=[(0,I7 item),(1,.int .u32 ((sm+u.qty)%4294967296))]) (cs:=lc (⟨item,(sm+u.qty)%4294967296⟩:Line)) QnF (rfl) rfl (Qaa (Qcz (V:=.agg (lc (⟨item,(sm+u.qty)%4294967296⟩:Line)).toArray) (vs:=lc (⟨item,(sm+u.qty)%4294967296⟩:Line)) (cs':=lc (⟨item,(sm+u.qty)%4294967296⟩:Line)) Qcw.1 Y 0 rfl rfl rfl rfl rfl (QQ8 rfl) (QgQ _) (Qaz rfl) fun w14 Y=>(Qad (Qav ?_))))))))))))))))))
 refine ⟨_,QcA (cs:=lc (⟨item,(sm+u.qty)%4294967296⟩:Line)) results78 Qcw Y 0 rfl rfl rfl,(Zr Y ?_)⟩
 have hT:=QcC (l:=l) (k:=k) (by omega)
 rw [hT] at hsm hset
 subst hsm hset
 rw [Qpj fun e he=>(hl e he).2]
end Tt
end Go.Proofs
namespace Go.Proofs
open Go Go.Vx Go.RowKit
open Tryz
namespace Tt
theorem QrM (w:World) (S:Nat->Prop) (a:Option Addr) (N c:Nat) (l:List Cen) (hz:l.length=N) (hN:N<=2305843009213693951) (lo hi:Nat) (hlo:lo<=hi) (hhi:hi<=N) (g:Nat) (hg:En prog g) (cf:Cen->Cen->Int) (hc:CmpO cf) (hcmp:∀ (w:World) (x y:Cen),Calls prog g #[.agg (cec x).toArray,.agg (cec y).toArray] w (fun e w'=>e = .returned (.int .i64 (cf x y))/\Own w no w' [])) (hR:(row (.slice a N c) (l.map cec) 106 7).holds w S) (hlt:∀ b,S b->b<w.heap.size):Calls prog 136 #[.slice a N c,.int .i64 (lo:Int),.int .i64 (hi:Int),.func (.func g) #[] #[]] w (fun e w'=>∃ x:List Cen,e = .returned (.tuple #[])/\Own w S w' [row (.slice a N c) (x.map cec) 106 7]/\(x.length=N/\Merged cf l x lo hi)):=by
 refine Qah (n:=53) func136 rfl ntmps136 rfl ?_
 have Y:=Own.lent hR hlt
 refine Qae (Qab (Qaa (Qaf (I6 (lo:Int)) (Qaa (QaB (a:=(lo:Int)) (b:=1) (c:=((lo+1:Nat):Int)) rfl rfl (Qaj (by omega) (by omega)) (Qaa (Qam (I6 ((lo+1:Nat):Int)) (Qad (Qal (QaE (fun J μ J' w'=>∃ (Jo:Env) (k:Nat) (m:List Cen),J'=upd (mix ([8,9]++sq 12 41) Jo J) 8 (I6 (k:Int))/\(lo+1<=k)/\(k<=hi∨k=lo+1)/\(m.length=N)/\(Qbj l m lo hi)/\(Qbt cf m lo k)/\μ=hi-k/\Own w S w' [row (.slice a N c) (m.map cec) 106 7]) ?_ ?_))))))))))
 ·exact ⟨_,_,lo+1,l,Qai (Qao (ds:=([8,9]++sq 12 41)) (Agr.refl _ _)) rfl,(Nat.le_refl _),(Or.inr rfl),hz,(Qbj.refl l hlo (by omega)),(Qbt.small (Nat.le_refl _)),rfl,Y⟩
 rintro μ J' w1 ⟨Jo,k,m,rfl,hk0,hk,hz1,hpm,hor,rfl,Y⟩
 refine Qae (Qae (Qab (Qaa (Qaf (I6 (k:Int)) (Qaa (Qaf (I6 (hi:Int)) (Qaa (Qa0 rfl rfl (Qad (Qak (t:=decide ((k:Int)<(hi:Int))) rfl (fun c2=>?_) (fun c2=>?_)))))))))))
 ·
  replace c2:=QQ1 c2
  refine Qap (Qae (Qal (Qae (Qab (Qaa (Qaf (I6 (k:Int)) (Qaa (Qam (I6 (k:Int)) (Qad (Qal (QaE (fun J μ J' w'=>∃ (Jo:Env) (j:Nat) (m2:List Cen),J'=upd (mix ([9]++sq 18 35) Jo J) 9 (I6 (j:Int))/\(lo<=j)/\(j<=k)/\(m2.length=N)/\(Qbj l m2 lo hi)/\(Quw cf m2 lo k j)/\μ=j+1/\Own w S w' [row (.slice a N c) (m2.map cec) 106 7]) ?_ ?_)))))))))))
  ·exact ⟨_,_,k,m,Qai (Qao (ds:=([9]++sq 18 35)) (Agr.refl _ _)) rfl,(by omega),(Nat.le_refl _),hz1,hpm,(QnA hor),rfl,Y⟩
  rintro μ J' w3 ⟨Jo,j,m2,rfl,hj0,hj,hz2,hpm2,hin,rfl,Y⟩
  refine Qae (Qae (QaH HM (so 18 17) [] [0,0,3,7,15,15,15,111,239,15,15,1039,3599,7695,16383,32767,65535] [pv (I6 (j:Int)),pv (I6 (lo:Int)),pv (.bool (decide ((lo:Int)<(j:Int)))),pv (.bool (decide ((lo:Int)<(j:Int)))),pg ((decide ((lo:Int)<(j:Int))) == true) (.func (.func g) #[] #[]),pg ((decide ((lo:Int)<(j:Int))) == true) (.slice a N c),pg ((decide ((lo:Int)<(j:Int))) == true) (I6 (j:Int)),pg ((decide ((lo:Int)<(j:Int))) == true) (.pointer (some ⟨bkS (.slice a N c),ofS (.slice a N c)+(j:Int).toNat*7,none⟩)),pg ((decide ((lo:Int)<(j:Int))) == true) (.agg (cec (gd m2 j)).toArray),pg ((decide ((lo:Int)<(j:Int))) == true) (.slice a N c),pg ((decide ((lo:Int)<(j:Int))) == true) (I6 (j:Int)),pg ((decide ((lo:Int)<(j:Int))) == true) (I6 ((j-1:Nat):Int)),pg ((decide ((lo:Int)<(j:Int))) == true) (.pointer (some ⟨bkS (.slice a N c),ofS (.slice a N c)+((j-1:Nat):Int).toNat*7,none⟩)),pg ((decide ((lo:Int)<(j:Int))) == true) (.agg (cec (gd m2 (j-1))).toArray),pg ((decide ((lo:Int)<(j:Int))) == true) (I6 (cf (gd m2 j) (gd m2 (j-1)))),pg ((decide ((lo:Int)<(j:Int))) == true) (.bool (decide (cf (gd m2 j) (gd m2 (j-1))<0))),pv (.bool ((decide ((lo:Int)<(j:Int)))&&(decide (cf (gd m2 j) (gd m2 (j-1))<0))))] (fun _ _=>_) [16] (by kernel_rfl) Y ⟨?_,?_,?_,?_,?_,?_,?_,?_,?_,?_,?_,?_,?_,?_,?_,?_,?_,trivial⟩ ?_))
  ·exact oi [] fun Y=>Qaf (.int .i64 (j:Int)) (Zz Y)
  ·exact oi [] fun Y=>Qaf (.int .i64 (lo:Int)) (Zz Y)
  ·exact oi [0,1] fun Y=>Qca rfl rfl (Zz Y)
  ·exact oi [2] fun Y=>Qaf (.bool (decide ((lo:Int)<(j:Int)))) (Zz Y)
  ·exact ogi [3] fun hG Y=>Qaf (.func (.func g) #[] #[]) (Zz Y)
  ·exact ogi [3] fun hG Y=>Qaf (.slice a N c) (Zz Y)
  ·exact ogi [3] fun hG Y=>Qaf (.int .i64 (j:Int)) (Zz Y)
  ·refine oyi [3,5,6] [5,6] fun hG Y=>?_
   have hgd:=QQ1 (eq_of_beq (hG))
   exact Qax QbK QaF.1 (Y.rd 0 rfl) rfl rfl (by omega) (by rw [QQ6];omega) (Zz Y)
  ·refine oyi [3,7] [7] fun hG Y=>?_
   have hgd:=QQ1 (eq_of_beq (hG))
   exact Qa9 (j:=0) (vs:=cec (gd m2 j)) j QaF (Y.rd 0 rfl) (Qa4 (by omega)) rfl rfl rfl (by omega) (Zz Y)
  ·exact ogi [3] fun hG Y=>Qaf (.slice a N c) (Zz Y)
  ·exact ogi [3] fun hG Y=>Qaf (.int .i64 (j:Int)) (Zz Y)
  ·refine oyi [3,10] [10] fun hG Y=>?_
   have hgd:=QQ1 (eq_of_beq (hG))
   exact Qbb (a:=(j:Int)) (b:=1) (c:=((j-1:Nat):Int)) rfl rfl (Qaj (by omega) (by omega)) (Zz Y)
  ·refine oyi [3,9,11] [9,11] fun hG Y=>?_
   have hgd:=QQ1 (eq_of_beq (hG))
   exact Qax QbK QaF.1 (Y.rd 0 rfl) rfl rfl (by omega) (by rw [QQ6];omega) (Zz Y)
  ·refine oyi [3,12] [12] fun hG Y=>?_
   have hgd:=QQ1 (eq_of_beq (hG))
   exact Qa9 (j:=0) (vs:=cec (gd m2 (j-1))) (j-1) QaF (Y.rd 0 rfl) (Qa4 (by omega)) rfl rfl rfl (by omega) (Zz Y)
  ·exact oyi [3,4,8,13] [4,8,13] fun hG Y=>Qfu (vs:=[.agg (cec (gd m2 j)).toArray,.agg (cec (gd m2 (j-1))).toArray]) (cs:=[]) (V:=.int .i64 (cf (gd m2 j) (gd m2 (j-1)))) hg rfl rfl (hcmp _ (gd m2 j) (gd m2 (j-1))) Y fun _ Y=>Zz Y
  ·exact oyi [3,14] [14] fun hG Y=>Qa0 rfl rfl (Zz Y)
  ·exact oi [3,15] fun Y=>Qbg (h':=decide (cf (gd m2 j) (gd m2 (j-1))<0)) rfl rfl rfl (Zz Y)
  rintro J1 w5 J2 hJ Y
  replace hJ:J2=upd (mix (sq 18 17) J1 _) 34 (.bool ((decide ((lo:Int)<(j:Int)))&&(decide (cf (gd m2 j) (gd m2 (j-1))<0)))):=hJ
  subst hJ
  refine Qak (t:=(decide ((lo:Int)<(j:Int)))&&(decide (cf (gd m2 j) (gd m2 (j-1))<0))) rfl (fun c6=>?_) (fun c6=>?_)
  ·
   have c6r:=Qcl c6
   replace c6:=QbZ c6
   replace c6:=QQ1 c6
   replace c6r:=QQ1 c6r
   refine Qap (Qae (Qal (QaH HM (so 37 15++[none,some 52,none]) [] [0,0,0,0,8,0,0,64,224,480,0,0,3072,7168,16355,32739,65535,131071] [pv (.slice a N c),pv (I6 (j:Int)),pv (.slice a N c),pv (I6 (j:Int)),pv (I6 ((j-1:Nat):Int)),pv (.slice a N c),pv (I6 (j:Int)),pv (I6 ((j-1:Nat):Int)),pv (.pointer (some ⟨bkS (.slice a N c),ofS (.slice a N c)+((j-1:Nat):Int).toNat*7,none⟩)),pv (.agg (cec (gd m2 (j-1))).toArray),pv (.slice a N c),pv (I6 (j:Int)),pv (.pointer (some ⟨bkS (.slice a N c),ofS (.slice a N c)+(j:Int).toNat*7,none⟩)),pv (.agg (cec (gd m2 j)).toArray),pv (.pointer (some ⟨bkS (.slice a N c),ofS (.slice a N c)+(j:Int).toNat*7,none⟩)),pn,pv (.pointer (some ⟨bkS (.slice a N c),ofS (.slice a N c)+((j-1:Nat):Int).toNat*7,none⟩)),pn] (fun D J=>[cond (D 17) (row (.slice a N c) (((m2.set j (gd m2 (j-1))).set (j-1) (gd m2 j)).map cec) 106 7) (cond (D 15) (row (.slice a N c) ((m2.set j (gd m2 (j-1))).map cec) 106 7) (row (.slice a N c) (m2.map cec) 106 7))]) [] (by kernel_rfl) Y ⟨?_,?_,?_,?_,?_,?_,?_,?_,?_,?_,?_,?_,?_,?_,?_,?_,?_,?_,trivial⟩ ?_)))
   ·exact oi [] fun Y=>Qaf (.slice a N c) (Zz Y)
   ·exact oi [] fun Y=>Qaf (.int .i64 (j:Int)) (Zz Y)
   ·exact oi [] fun Y=>Qaf (.slice a N c) (Zz Y)
   ·exact oi [] fun Y=>Qaf (.int .i64 (j:Int)) (Zz Y)
   ·exact oi [3] fun Y=>Qbb (a:=(j:Int)) (b:=1) (c:=((j-1:Nat):Int)) rfl rfl (Qaj (by omega) (by omega)) (Zz Y)
   ·exact oi [] fun Y=>Qaf (.slice a N c) (Zz Y)
   ·exact oi [] fun Y=>Qaf (.int .i64 (j:Int)) (Zz Y)
   ·exact oi [6] fun Y=>Qbb (a:=(j:Int)) (b:=1) (c:=((j-1:Nat):Int)) rfl rfl (Qaj (by omega) (by omega)) (Zz Y)
   ·exact ob [5,7] [15,17] rfl rfl fun D J w Y=>Qax QbK QaF.1 (Y.rd 0 rfl) rfl rfl (by omega) (by rw [QQ6];omega) (Zz Y)
   ·exact ob [8] [15,17] rfl rfl fun D J w Y=>Qa9 (j:=0) (vs:=cec (gd m2 (j-1))) (j-1) QaF (Y.rd 0 rfl) (Qa4 (by omega)) rfl rfl rfl (by omega) (Zz Y)
   ·exact oi [] fun Y=>Qaf (.slice a N c) (Zz Y)
   ·exact oi [] fun Y=>Qaf (.int .i64 (j:Int)) (Zz Y)
   ·exact ob [10,11] [15,17] rfl rfl fun D J w Y=>Qax QbK QaF.1 (Y.rd 0 rfl) rfl rfl (by omega) (by rw [QQ6];omega) (Zz Y)
   ·exact ob [12] [15,17] rfl rfl fun D J w Y=>Qa9 (j:=0) (vs:=cec (gd m2 j)) j QaF (Y.rd 0 rfl) (Qa4 (by omega)) rfl rfl rfl (by omega) (Zz Y)
   ·exact ob [0,1] [15,17] rfl rfl fun D J w Y=>Qax QbK QaF.1 (Y.rd 0 rfl) rfl rfl (by omega) (by rw [QQ6];omega) (Zz Y)
   ·exact ob [9,14] [17] rfl rfl fun D J w Y=>Qh8 (z:=gd m2 (j-1)) j QaF.1 Y 0 rfl rfl rfl (by first|omega|(simp only [List.length_set];omega)) rfl rfl rfl (Qby _) fun _ Y=>⟨trivial,Y⟩
   ·exact ob [2,4,15] [17] rfl rfl fun D J w Y=>Qax QbK QaF.1 (Y.rd 0 rfl) rfl rfl (by omega) (by simp only [QQ6,List.length_set];omega) (Zz Y)
   ·exact oi [13,15,16] fun Y=>Qh8 (z:=gd m2 j) (j-1) QaF.1 Y 0 rfl rfl rfl (by first|omega|(simp only [List.length_set];omega)) rfl rfl rfl (Qby _) fun _ Y=>⟨trivial,Y⟩
   rintro J1 w9 J2 hJ Y
   replace hJ:J2=mix (sq 37 16) J1 _:=hJ
   replace Y:Own w S w9 [row (.slice a N c) (((m2.set j (gd m2 (j-1))).set (j-1) (gd m2 j)).map cec) 106 7]:=Y
   subst hJ
   replace Y:Own w S _ [row (.slice a N c) ((swL m2 j (j-1)).map cec) 106 7]:=Y.take 1
   refine Qab (Qaa (Qaf (I6 (j:Int)) (Qaa (Qbb (a:=(j:Int)) (b:=1) (c:=((j-1:Nat):Int)) rfl rfl (Qaj (by omega) (by omega)) (Qaa (Qam (I6 ((j-1:Nat):Int)) (Qad ?_)))))))
   refine ⟨_,?_,_,j-1,swL m2 j (j-1),Qai (Qao (ds:=([9]++sq 18 35)) (by repeat (first|exact Agr.refl _ _|refine Agr.upd ?_ rfl|refine Agr.mix ?_ rfl))) rfl,(by omega),(by omega),(by rw [Qif];exact hz2),(hpm2.trans (QsS (by omega) (by omega) (by omega) (by omega) (by omega))),(QpZ hc hin (by omega) (by omega) (by omega) c6r),rfl,Y.take 1⟩
   omega
  refine QaI ?_
  have hor2:Qbt cf m2 lo (k+1):=QtU hc hin hj0 (by
      have ht:=c6
      rcases Nat.lt_or_ge lo j with q|q
      ·right;intro h;simp [q,h] at ht
      ·left;omega)
  refine Qab (Qaa (Qaf (I6 (k:Int)) (Qaa (QaB (a:=(k:Int)) (b:=1) (c:=((k+1:Nat):Int)) rfl rfl (Qaj (by omega) (by omega)) (Qaa (Qam (I6 ((k+1:Nat):Int)) (Qad ?_)))))))
  refine ⟨_,?_,_,k+1,m2,Qai (Qao (ds:=([8,9]++sq 12 41)) (by repeat (first|exact Agr.refl _ _|refine Agr.upd ?_ rfl|refine Agr.mix ?_ rfl))) rfl,(by omega),(by omega),hz2,hpm2,hor2,rfl,Y.take 1⟩
  omega
 replace c2:=QQ2 c2
 refine QaI ?_
 refine ⟨_,Qbl results136,?_⟩
 refine ⟨m,rfl,Y.take 1,hz1,hpm,?_⟩
 rcases Nat.lt_or_ge k hi with q|q
 ·omega
 exact hor.sub (Nat.le_refl _) q
end Tt
end Go.Proofs
namespace Go.Proofs
open Go Go.Vx Go.RowKit
open Tryz
namespace Tt
theorem Qnx (w:World) (S:Nat->Prop) (a:Option Addr) (N c:Nat) (l:List Cen) (hz:l.length=N) (hN:N<=2305843009213693951) (p q n:Nat) (hp:p+n<=N) (hq:q+n<=N) (g:Nat) (hg:En prog g) (cf:Cen->Cen->Int) (hc:CmpO cf) (hcmp:∀ (w:World) (x y:Cen),Calls prog g #[.agg (cec x).toArray,.agg (cec y).toArray] w (fun e w'=>e = .returned (.int .i64 (cf x y))/\Own w no w' [])) (hR:(row (.slice a N c) (l.map cec) 106 7).holds w S) (hlt:∀ b,S b->b<w.heap.size):Calls prog 184 #[.slice a N c,.int .i64 (p:Int),.int .i64 (q:Int),.int .i64 (n:Int),.func (.func g) #[] #[]] w (fun e w'=>∃ x:List Cen,e = .returned (.tuple #[])/\Own w S w' [row (.slice a N c) (x.map cec) 106 7]/\(x.length=N/\x=swN l p q n)):=by
 refine Qah (n:=38) func184 rfl ntmps184 rfl ?_
 have Y:=Own.lent hR hlt
 refine Qae (Qab (Qaa (Qam (I6 0) (Qad (Qal (QaE (fun J μ J' w'=>∃ (Jo:Env) (k:Nat) (m:List Cen),J'=upd (mix (sq 10 28) Jo J) 10 (I6 (k:Int))/\(k<=n)/\(m.length=N)/\(m=swN l p q k)/\μ=n-k/\Own w S w' [row (.slice a N c) (m.map cec) 106 7]) ?_ ?_))))))
 ·exact ⟨_,_,0,l,Qai (Qao (ds:=(sq 10 28)) (Agr.refl _ _)) rfl,(Nat.zero_le _),hz,rfl,rfl,Y⟩
 rintro μ J' w1 ⟨Jo,k,m,rfl,hk,hz1,hm,rfl,Y⟩
 refine Qae (Qae (Qab (Qaa (Qaf (I6 (k:Int)) (Qaa (Qaf (I6 (n:Int)) (Qaa (Qa0 rfl rfl (Qad (Qak (t:=decide ((k:Int)<(n:Int))) rfl (fun c2=>?_) (fun c2=>?_)))))))))))
 ·
  replace c2:=QQ1 c2
  refine Qap (Qae (Qal (QaH HM (so 16 21++[none,some 37,none]) [] [0,0,0,6,0,0,0,96,0,0,0,1536,3840,7936,0,0,0,98304,245760,507904,1048335,2096911,4194303,8388607] [pv (.slice a N c),pv (I6 (p:Int)),pv (I6 (k:Int)),pv (I6 ((p+k:Nat):Int)),pv (.slice a N c),pv (I6 (q:Int)),pv (I6 (k:Int)),pv (I6 ((q+k:Nat):Int)),pv (.slice a N c),pv (I6 (q:Int)),pv (I6 (k:Int)),pv (I6 ((q+k:Nat):Int)),pv (.pointer (some ⟨bkS (.slice a N c),ofS (.slice a N c)+((q+k:Nat):Int).toNat*7,none⟩)),pv (.agg (cec (gd m (q+k))).toArray),pv (.slice a N c),pv (I6 (p:Int)),pv (I6 (k:Int)),pv (I6 ((p+k:Nat):Int)),pv (.pointer (some ⟨bkS (.slice a N c),ofS (.slice a N c)+((p+k:Nat):Int).toNat*7,none⟩)),pv (.agg (cec (gd m (p+k))).toArray),pv (.pointer (some ⟨bkS (.slice a N c),ofS (.slice a N c)+((p+k:Nat):Int).toNat*7,none⟩)),pn,pv (.pointer (some ⟨bkS (.slice a N c),ofS (.slice a N c)+((q+k:Nat):Int).toNat*7,none⟩)),pn] (fun D J=>[cond (D 23) (row (.slice a N c) (((m.set (p+k) (gd m (q+k))).set (q+k) (gd m (p+k))).map cec) 106 7) (cond (D 21) (row (.slice a N c) ((m.set (p+k) (gd m (q+k))).map cec) 106 7) (row (.slice a N c) (m.map cec) 106 7))]) [] (by kernel_rfl) Y ⟨?_,?_,?_,?_,?_,?_,?_,?_,?_,?_,?_,?_,?_,?_,?_,?_,?_,?_,?_,?_,?_,?_,?_,?_,trivial⟩ ?_)))
  ·exact oi [] fun Y=>Qaf (.slice a N c) (Zz Y)
  ·exact oi [] fun Y=>Qaf (.int .i64 (p:Int)) (Zz Y)
  ·exact oi [] fun Y=>Qaf (.int .i64 (k:Int)) (Zz Y)
  ·exact oi [1,2] fun Y=>QaB (a:=(p:Int)) (b:=(k:Int)) (c:=((p+k:Nat):Int)) rfl rfl (Qaj (by omega) (by omega)) (Zz Y)
  ·exact oi [] fun Y=>Qaf (.slice a N c) (Zz Y)
  ·exact oi [] fun Y=>Qaf (.int .i64 (q:Int)) (Zz Y)
  ·exact oi [] fun Y=>Qaf (.int .i64 (k:Int)) (Zz Y)
  ·exact oi [5,6] fun Y=>QaB (a:=(q:Int)) (b:=(k:Int)) (c:=((q+k:Nat):Int)) rfl rfl (Qaj (by omega) (by omega)) (Zz Y)
  ·exact oi [] fun Y=>Qaf (.slice a N c) (Zz Y)
  ·exact oi [] fun Y=>Qaf (.int .i64 (q:Int)) (Zz Y)
  ·exact oi [] fun Y=>Qaf (.int .i64 (k:Int)) (Zz Y)
  ·exact oi [9,10] fun Y=>QaB (a:=(q:Int)) (b:=(k:Int)) (c:=((q+k:Nat):Int)) rfl rfl (Qaj (by omega) (by omega)) (Zz Y)
  ·exact ob [8,11] [21,23] rfl rfl fun D J w Y=>Qax QbK QaF.1 (Y.rd 0 rfl) rfl rfl (by omega) (by rw [QQ6];omega) (Zz Y)
  ·exact ob [12] [21,23] rfl rfl fun D J w Y=>Qa9 (j:=0) (vs:=cec (gd m (q+k))) (q+k) QaF (Y.rd 0 rfl) (Qa4 (by omega)) rfl rfl rfl (by omega) (Zz Y)
  ·exact oi [] fun Y=>Qaf (.slice a N c) (Zz Y)
  ·exact oi [] fun Y=>Qaf (.int .i64 (p:Int)) (Zz Y)
  ·exact oi [] fun Y=>Qaf (.int .i64 (k:Int)) (Zz Y)
  ·exact oi [15,16] fun Y=>QaB (a:=(p:Int)) (b:=(k:Int)) (c:=((p+k:Nat):Int)) rfl rfl (Qaj (by omega) (by omega)) (Zz Y)
  ·exact ob [14,17] [21,23] rfl rfl fun D J w Y=>Qax QbK QaF.1 (Y.rd 0 rfl) rfl rfl (by omega) (by rw [QQ6];omega) (Zz Y)
  ·exact ob [18] [21,23] rfl rfl fun D J w Y=>Qa9 (j:=0) (vs:=cec (gd m (p+k))) (p+k) QaF (Y.rd 0 rfl) (Qa4 (by omega)) rfl rfl rfl (by omega) (Zz Y)
  ·exact ob [0,3] [21,23] rfl rfl fun D J w Y=>Qax QbK QaF.1 (Y.rd 0 rfl) rfl rfl (by omega) (by rw [QQ6];omega) (Zz Y)
  ·exact ob [13,20] [23] rfl rfl fun D J w Y=>Qh8 (z:=gd m (q+k)) (p+k) QaF.1 Y 0 rfl rfl rfl (by first|omega|(simp only [List.length_set];omega)) rfl rfl rfl (Qby _) fun _ Y=>⟨trivial,Y⟩
  ·exact ob [4,7,21] [23] rfl rfl fun D J w Y=>Qax QbK QaF.1 (Y.rd 0 rfl) rfl rfl (by omega) (by simp only [QQ6,List.length_set];omega) (Zz Y)
  ·exact oi [19,21,22] fun Y=>Qh8 (z:=gd m (p+k)) (q+k) QaF.1 Y 0 rfl rfl rfl (by first|omega|(simp only [List.length_set];omega)) rfl rfl rfl (Qby _) fun _ Y=>⟨trivial,Y⟩
  rintro J1 w5 J2 hJ Y
  replace hJ:J2=mix (sq 16 22) J1 _:=hJ
  replace Y:Own w S w5 [row (.slice a N c) (((m.set (p+k) (gd m (q+k))).set (q+k) (gd m (p+k))).map cec) 106 7]:=Y
  subst hJ
  replace Y:Own w S _ [row (.slice a N c) ((swL m (p+k) (q+k)).map cec) 106 7]:=Y.take 1
  refine Qab (Qaa (Qaf (I6 (k:Int)) (Qaa (QaB (a:=(k:Int)) (b:=1) (c:=((k+1:Nat):Int)) rfl rfl (Qaj (by omega) (by omega)) (Qaa (Qam (I6 ((k+1:Nat):Int)) (Qad ?_)))))))
  refine ⟨_,?_,_,k+1,swL m (p+k) (q+k),Qai (Qao (ds:=(sq 10 28)) (by repeat (first|exact Agr.refl _ _|refine Agr.upd ?_ rfl|refine Agr.mix ?_ rfl))) rfl,(by omega),(by rw [Qif];exact hz1),(by rw [Qlp,← hm]),rfl,Y.take 1⟩
  omega
 replace c2:=QQ2 c2
 refine QaI ?_
 refine ⟨_,Qbl results184,?_⟩
 exact ⟨m,rfl,Y.take 1,hz1,by rw [hm,show k=n by omega]⟩
theorem QvF (w:World) (S:Nat->Prop) (a:Option Addr) (N c:Nat) (l:List Cen) (hz:l.length=N) (hN:N<=2305843009213693951) (lo mid hi:Nat) (h1:lo<mid) (h2:mid<hi) (h3:hi<=N) (g:Nat) (hg:En prog g) (cf:Cen->Cen->Int) (hc:CmpO cf) (hcmp:∀ (w:World) (x y:Cen),Calls prog g #[.agg (cec x).toArray,.agg (cec y).toArray] w (fun e w'=>e = .returned (.int .i64 (cf x y))/\Own w no w' [])) (hR:(row (.slice a N c) (l.map cec) 106 7).holds w S) (hlt:∀ b,S b->b<w.heap.size):Calls prog 170 #[.slice a N c,.int .i64 (lo:Int),.int .i64 (mid:Int),.int .i64 (hi:Int),.func (.func g) #[] #[]] w (fun e w'=>∃ x:List Cen,e = .returned (.tuple #[])/\Own w S w' [row (.slice a N c) (x.map cec) 106 7]/\(x.length=N/\Qcf l x lo mid hi)):=by
 refine Qah (n:=58) func170 rfl ntmps170 rfl ?_
 have Y:=Own.lent hR hlt
 obtain ⟨t,hrt,hro0⟩:=Qkb (l:=l) (a:=lo) (m:=mid) (b:=hi) (by omega) (by omega) (by omega)
 refine Qae (Qab (Qaa (Qaf (I6 (mid:Int)) (Qaa (Qaf (I6 (lo:Int)) (Qaa (Qbb (a:=(mid:Int)) (b:=(lo:Int)) (c:=((mid-lo:Nat):Int)) rfl rfl (Qaj (by omega) (by omega)) (Qaa (Qam (I6 ((mid-lo:Nat):Int)) (Qad (Qae (Qab (Qaa (Qaf (I6 (hi:Int)) (Qaa (Qaf (I6 (mid:Int)) (Qaa (Qbb (a:=(hi:Int)) (b:=(mid:Int)) (c:=((hi-mid:Nat):Int)) rfl rfl (Qaj (by omega) (by omega)) (Qaa (Qam (I6 ((hi-mid:Nat):Int)) (Qad (Qae (Qal (QaE (fun J μ J' w'=>∃ (Jo:Env) (i:Nat) (j:Nat) (m:List Cen),J'=upd (upd (mix ([10,11]++sq 18 32) Jo J) 10 (I6 (i:Int))) 11 (I6 (j:Int))/\(0<i)/\(0<j)/\(m.length=N)/\(Qjl m t mid i j)/\μ=i+j/\Own w S w' [row (.slice a N c) (m.map cec) 106 7]) ?_ ?_))))))))))))))))))))))))
 ·exact ⟨_,_,mid-lo,hi-mid,l,Qai (Qai (Qao (ds:=([10,11]++sq 18 32)) (Agr.refl _ _)) rfl) rfl,(by omega),(by omega),hz,hro0,rfl,Y⟩
 rintro μ J' w1 ⟨Jo,i,j,m,rfl,hi0,hj0,hz1,hro,rfl,Y⟩
 have hrl:=QiU hro
 refine Qae (Qae (Qab (Qaa (Qaf (I6 (i:Int)) (Qaa (Qaf (I6 (j:Int)) (Qaa (Qck rfl rfl (Qad (Qak (t:=!decide ((i:Int)=(j:Int))) rfl (fun c2=>?_) (fun c2=>?_)))))))))))
 ·
  replace c2:=QbE c2
  replace c2:=QQ2 c2
  refine Qap (Qal (Qae (Qab (Qaa (Qaf (I6 (i:Int)) (Qaa (Qaf (I6 (j:Int)) (Qaa (Qca rfl rfl (Qad (Qak (t:=decide ((j:Int)<(i:Int))) rfl (fun c3=>?_) (fun c3=>?_))))))))))))
  ·
   replace c3:=QQ1 c3
   refine Qae (Qab (Qaa (Qaf (.slice a N c) (Qaa (Qaf (I6 (mid:Int)) (Qaa (Qaf (I6 (i:Int)) (Qaa (Qbb (a:=(mid:Int)) (b:=(i:Int)) (c:=((mid-i:Nat):Int)) rfl rfl (Qaj (by omega) (by omega)) (Qaa (Qaf (I6 (mid:Int)) (Qaa (Qaf (I6 (j:Int)) (Qaa (Qaf (.func (.func g) #[] #[]) (Qaa (QbF (α:=List Cen) (vs:=[.slice a N c,I6 ((mid-i:Nat):Int),I6 (mid:Int),I6 (j:Int),.func (.func g) #[] #[]]) (V:=fun _=>.tuple #[]) (R:=row (.slice a N c) (m.map cec) 106 7) (R':=fun x=>row (.slice a N c) (x.map cec) 106 7) (Lo:=fun _=>[]) (F:=fun x _=>x.length=N/\x=swN m (mid-i) mid j) QnG rfl rfl Y 0 rfl (fun S hS hlt=>Qnx _ S a N c m (by first|assumption|omega) hN (mid-i) mid j (by omega) (by omega) g hg cf hc hcmp hS hlt) fun mz4 w5 Y hF6=>(Qad (Qab (Qaa (Qaf (I6 (i:Int)) (Qaa (Qaf (I6 (j:Int)) (Qaa (Qbb (a:=(i:Int)) (b:=(j:Int)) (c:=((i-j:Nat):Int)) rfl rfl (Qaj (by omega) (by omega)) (Qaa (Qam (I6 ((i-j:Nat):Int)) (Qad ?_))))))))))))))))))))))))))))
   refine ⟨_,?_,_,i-j,j,mz4,Qai (Qai (Qao (ds:=([10,11]++sq 18 32)) (by repeat (first|exact Agr.refl _ _|refine Agr.upd ?_ rfl|refine Agr.mix ?_ rfl))) rfl) rfl,(by omega),(by omega),hF6.1,(by rw [hF6.2];exact QqZ hro (by omega)),rfl,Y.take 1⟩
   omega
  replace c3:=QQ2 c3
  refine Qae (Qab (Qaa (Qaf (.slice a N c) (Qaa (Qaf (I6 (mid:Int)) (Qaa (Qaf (I6 (i:Int)) (Qaa (Qbb (a:=(mid:Int)) (b:=(i:Int)) (c:=((mid-i:Nat):Int)) rfl rfl (Qaj (by omega) (by omega)) (Qaa (Qaf (I6 (mid:Int)) (Qaa (Qaf (I6 (j:Int)) (Qaa (QaB (a:=(mid:Int)) (b:=(j:Int)) (c:=((mid+j:Nat):Int)) rfl rfl (Qaj (by omega) (by omega)) (Qaa (Qaf (I6 (i:Int)) (Qaa (Qbb (a:=((mid+j:Nat):Int)) (b:=(i:Int)) (c:=(((mid+j)-i:Nat):Int)) rfl rfl (Qaj (by omega) (by omega)) (Qaa (Qaf (I6 (i:Int)) (Qaa (Qaf (.func (.func g) #[] #[]) (Qaa (QbF (α:=List Cen) (vs:=[.slice a N c,I6 ((mid-i:Nat):Int),I6 (((mid+j)-i:Nat):Int),I6 (i:Int),.func (.func g) #[] #[]]) (V:=fun _=>.tuple #[]) (R:=row (.slice a N c) (m.map cec) 106 7) (R':=fun x=>row (.slice a N c) (x.map cec) 106 7) (Lo:=fun _=>[]) (F:=fun x _=>x.length=N/\x=swN m (mid-i) ((mid+j)-i) i) QnG rfl rfl Y 0 rfl (fun S hS hlt=>Qnx _ S a N c m (by first|assumption|omega) hN (mid-i) ((mid+j)-i) i (by omega) (by omega) g hg cf hc hcmp hS hlt) fun mz7 w8 Y hF9=>(Qad (Qab (Qaa (Qaf (I6 (j:Int)) (Qaa (Qaf (I6 (i:Int)) (Qaa (Qbb (a:=(j:Int)) (b:=(i:Int)) (c:=((j-i:Nat):Int)) rfl rfl (Qaj (by omega) (by omega)) (Qaa (Qam (I6 ((j-i:Nat):Int)) (Qad ?_))))))))))))))))))))))))))))))))))))
  refine ⟨_,?_,_,i,j-i,mz7,Qai (Qai (Qao (ds:=([10,11]++sq 18 32)) (by repeat (first|exact Agr.refl _ _|refine Agr.upd ?_ rfl|refine Agr.mix ?_ rfl))) rfl) rfl,(by omega),(by omega),hF9.1,(by rw [hF9.2];exact Qpt hro (by omega)),rfl,Y.take 1⟩
  omega
 replace c2:=Qbd c2
 replace c2:=QQ1 c2
 refine QaI ?_
 have hrl:=QiU hro
 have hij:i=j:=by omega
 refine Qab (Qaa (Qaf (.slice a N c) (Qaa (Qaf (I6 (mid:Int)) (Qaa (Qaf (I6 (i:Int)) (Qaa (Qbb (a:=(mid:Int)) (b:=(i:Int)) (c:=((mid-i:Nat):Int)) rfl rfl (Qaj (by omega) (by omega)) (Qaa (Qaf (I6 (mid:Int)) (Qaa (Qaf (I6 (i:Int)) (Qaa (Qaf (.func (.func g) #[] #[]) (Qaa (QbF (α:=List Cen) (vs:=[.slice a N c,I6 ((mid-i:Nat):Int),I6 (mid:Int),I6 (i:Int),.func (.func g) #[] #[]]) (V:=fun _=>.tuple #[]) (R:=row (.slice a N c) (m.map cec) 106 7) (R':=fun x=>row (.slice a N c) (x.map cec) 106 7) (Lo:=fun _=>[]) (F:=fun x _=>x.length=N/\x=swN m (mid-i) mid i) QnG rfl rfl Y 0 rfl (fun S hS hlt=>Qnx _ S a N c m (by first|assumption|omega) hN (mid-i) mid i (by omega) (by omega) g hg cf hc hcmp hS hlt) fun mz10 w11 Y hF12=>(Qad ?_)))))))))))))))))
 refine ⟨_,Qbl results170,?_⟩
 have hxt:mz10=t:=by rw [hF12.2];exact Qq3 hro (by omega)
 rw [hxt] at Y
 exact ⟨t,rfl,Y.take 1,by rw [← hxt];exact hF12.1,hrt⟩
end Tt
end Go.Proofs
