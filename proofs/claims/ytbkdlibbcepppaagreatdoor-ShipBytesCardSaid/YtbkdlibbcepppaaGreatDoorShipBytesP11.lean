/- A part of a proof: what functions of the program compute, and plain facts on that. -/
import Derived.Test.YtbkdlibbcepppaaGreatDoorShipBytesP10
import Derived.KernelRfl
import Derived.Test.YtbkdlibbcepppaaGreatDoorRows
import Derived.ChangeVars
import Derived.LaidLaws
import Derived.Stop.LaidErr
set_option linter.unusedVariables false
set_option linter.unusedSectionVars false
set_option linter.unusedSimpArgs false
set_option maxHeartbeats 4000000
set_option maxRecDepth 100000
namespace Go.Proofs.YtbkdlibbcepppaaGreatDoor
open Go Go.Vx Go.RowKit Go.Ce Go.ChangeShapes Go.WideShapes
theorem Qa4 {H:Type} {enc:TypeId × Value->H} {P:Program} {w:World} {base:Nat} {sp:Nat->Bool} {held:Bool} {fuel:Nat} {t:TypeId} {k:IntKind} {c:Value} {y:DataW H × List MemPlace}
  (ht:P.underlying t=some (.int k)) (h:DataW.trod enc P w base sp held fuel t [c]=some y):∃ n,c = .int k n/\y=(.lit (.int k n),[]):=by
 cases fuel with
 | zero=>simp [DataW.trod] at h
 | succ fuel =>
  cases c<;>simp [DataW.trod,ht] at h
  rename_i k' n
  obtain ⟨⟨rfl,_⟩,rfl⟩:=h
  exact ⟨n,rfl,rfl⟩
theorem Qjt:Tryz.prog.globalNamed "trug/crc.half"=some 0:=by kernel_rfl
theorem QmG:(Tryz.prog.globals[0]?).map (·.type)=some 35:=by kernel_rfl
theorem QlU:Tryz.prog.cellsOf 35=16:=by kernel_rfl
theorem QnP:Tryz.prog.cellsOf 34=1:=by kernel_rfl
theorem QiS {W:World} (h:laidMet Tryz.prog [("math/bits.deBruijn32tab",Rows.laid_math_bits_deBruijn32tab),("math/bits.deBruijn64tab",Rows.laid_math_bits_deBruijn64tab),("internal/strconv.uint64pow10",Rows.laid_internal_strconv_uint64pow10),("trug/crc.half",Rows.laid_trug_crc_half)] W):∃ T,W.heap[0]?=some (.cells (numsV .u32 Ct.half).toArray T (0,0)):=by
 obtain ⟨ps,⟨g,t,cs,fuel,p,q,hg,ht,hvar,hd,_,rfl⟩,_,hrows⟩:=h.tail.tail.tail
 obtain rfl:=Option.some.inj (Qjt.symm.trans hg)
 obtain rfl:=Option.some.inj (QmG.symm.trans ht)
 have hcs:cs=(numsV .u32 Ct.half).toArray:=by
  obtain ⟨l⟩:=cs
  cases fuel with
  | zero=>simp [DataW.trod] at hd
  | succ fuel =>
   simp only [DataW.trod,Tryz.underlying35,QlU,QnP] at hd
   split at hd
   ·rename_i hl
    obtain ⟨c0,c1,c2,c3,c4,c5,c6,c7,c8,c9,c10,c11,c12,c13,c14,c15,rfl⟩:∃ c0 c1 c2 c3 c4 c5 c6 c7 c8 c9 c10 c11 c12 c13 c14 c15,l=[c0,c1,c2,c3,c4,c5,c6,c7,c8,c9,c10,c11,c12,c13,c14,c15]:=by
     match l,hl with
     | [c0,c1,c2,c3,c4,c5,c6,c7,c8,c9,c10,c11,c12,c13,c14,c15],_=>exact ⟨c0,c1,c2,c3,c4,c5,c6,c7,c8,c9,c10,c11,c12,c13,c14,c15,rfl⟩
    have e:List.range 16=[0,1,2,3,4,5,6,7,8,9,10,11,12,13,14,15]:=rfl
    rw [e] at hd
    simp only [Option.map_eq_some_iff,List.mapM_cons,List.mapM_nil,Option.bind_eq_bind,Option.bind_eq_some_iff,Option.pure_def,Option.some.injEq] at hd
    obtain ⟨xs,⟨y0,h0,_,⟨y1,h1,_,⟨y2,h2,_,⟨y3,h3,_,⟨y4,h4,_,⟨y5,h5,_,⟨y6,h6,_,⟨y7,h7,_,⟨y8,h8,_,⟨y9,h9,_,⟨y10,h10,_,⟨y11,h11,_,⟨y12,h12,_,⟨y13,h13,_,⟨y14,h14,_,⟨y15,h15,_,rfl,rfl⟩,rfl⟩,rfl⟩,rfl⟩,rfl⟩,rfl⟩,rfl⟩,rfl⟩,rfl⟩,rfl⟩,rfl⟩,rfl⟩,rfl⟩,rfl⟩,rfl⟩,rfl⟩,hx⟩:=hd
    obtain ⟨n0,rfl,rfl⟩:=Qa4 Tryz.underlying34 h0
    obtain ⟨n1,rfl,rfl⟩:=Qa4 Tryz.underlying34 h1
    obtain ⟨n2,rfl,rfl⟩:=Qa4 Tryz.underlying34 h2
    obtain ⟨n3,rfl,rfl⟩:=Qa4 Tryz.underlying34 h3
    obtain ⟨n4,rfl,rfl⟩:=Qa4 Tryz.underlying34 h4
    obtain ⟨n5,rfl,rfl⟩:=Qa4 Tryz.underlying34 h5
    obtain ⟨n6,rfl,rfl⟩:=Qa4 Tryz.underlying34 h6
    obtain ⟨n7,rfl,rfl⟩:=Qa4 Tryz.underlying34 h7
    obtain ⟨n8,rfl,rfl⟩:=Qa4 Tryz.underlying34 h8
    obtain ⟨n9,rfl,rfl⟩:=Qa4 Tryz.underlying34 h9
    obtain ⟨n10,rfl,rfl⟩:=Qa4 Tryz.underlying34 h10
    obtain ⟨n11,rfl,rfl⟩:=Qa4 Tryz.underlying34 h11
    obtain ⟨n12,rfl,rfl⟩:=Qa4 Tryz.underlying34 h12
    obtain ⟨n13,rfl,rfl⟩:=Qa4 Tryz.underlying34 h13
    obtain ⟨n14,rfl,rfl⟩:=Qa4 Tryz.underlying34 h14
    obtain ⟨n15,rfl,rfl⟩:=Qa4 Tryz.underlying34 h15
    simp [Rows.laid_trug_crc_half] at hx
    obtain ⟨⟨rfl,rfl,rfl,rfl,rfl,rfl,rfl,rfl,rfl,rfl,rfl,rfl,rfl,rfl,rfl,rfl⟩,_⟩:=hx
    rfl
   ·cases hd
 subst hcs
 obtain ⟨⟨c,T,hc⟩,_⟩:=hrows 0 0 (by simp [MemPlace.row,numsV,Ct.half])
 simp only [World.var?,Qjt,Option.bind_some,hc] at hvar
 exact ⟨T,by rw [hc,Option.some.inj hvar]⟩
end Go.Proofs.YtbkdlibbcepppaaGreatDoor
