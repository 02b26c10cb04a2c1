/- A part of a proof: what functions of the program compute, and plain facts on that. -/
import Derived.Test.YtbkdlibbcepppaaGreatDoorArchiveNobodyP9
import Derived.Test.YtbkdlibbcepppaaGreatDoorRows
import Derived.Test.YtbkdlibbcepppaaGreatDoorChecked
import Derived.ChangeSame
import Derived.ChangeVars
import Derived.JoinedOf
import Derived.RowKit
import Derived.RowKitTokens
set_option linter.unusedVariables false
set_option linter.unusedSectionVars false
set_option linter.unusedSimpArgs false
namespace Go.Vx
open Go.RowKit Go.ChangeShapes Go.WideShapes Go.ChangeAt Go.Proofs.Ct
theorem open_acx {P : Program} {t tk tp tv tS tc ti s1 s2 e1 e2 ec : TypeId} {f0 f1 f2 f3 f4 f5 f6 q0 q1 q2 : Field} (ht : P.underlying t = some (.struct #[f0, f1, f2, f3, f4, f5, f6]))
    (hoff : [f0.offset, f1.offset, f2.offset, f3.offset, f4.offset, f5.offset, f6.offset] = [0, 1, 24, 40, 58, 59, 60]) (hty : [f0.type, f1.type, f2.type, f3.type, f4.type, f5.type, f6.type] = [tk, tp, tv, tS, tk, tc, ti])
    (hS : P.underlying tS = some (.struct #[q0, q1, q2])) (hoffS : [q0.offset, q1.offset, q2.offset] = [0, 16, 17]) (htyS : [q0.type, q1.type, q2.type] = [tv, s1, s2])
    (hK : P.underlying tk = some (.int .u8)) (hI : P.underlying ti = some (.int .i64)) (hO : OpenT P tp oc OpnOk)
    (hV : OpenT P tv vc VecOk) (u1 : P.underlying s1 = some (.slice e1)) (hE : OpenT P e1 cec CenOk) (u2 : P.underlying s2 = some (.slice e2)) (hL : OpenT P e2 lsc LstOk) (u3 : P.underlying tc = some (.slice ec))
    (hc : [P.cellsOf tk, P.cellsOf tp, P.cellsOf tv, P.cellsOf tS, P.cellsOf tc, P.cellsOf ti, P.cellsOf s1, P.cellsOf s2, P.cellsOf e1, P.cellsOf e2, P.cellsOf t] = [1, 23, 16, 18, 1, 1, 1, 1, 7, 2, 61]) (hts : (P.cellTypes P.depth t).map (fun ts => (ts.length, ts[56]?, ts[57]?, ts[59]?)) = some (61, some s1, some s2, some tc))
    {H : Type} {enc : TypeId × Value → H} {w : World} {r : Reach} {b0 base : Nat} {spare : Nat → Bool} {held : Bool} {v : Value} {d : DataW H} {ps : List MemPlace}
    (hv : Value.okWide P w r b0 t v) (h : DataW.Trod enc P w base spare held t v d ps) :
    ∃ x : Acx, v = .agg (acxc x).toArray ∧ (0 ≤ x.kind ∧ x.kind < 256) ∧ acxI x w := by
  unfold Value.okWide at hv
  rw [ht] at hv
  obtain ⟨cs, rfl, hsz, ts, hts', _, hcell⟩ := hv
  obtain ⟨fuel, h⟩ := h
  have h' : DataW.trod enc P w base spare held fuel t cs.toList = some (d, ps) := h
  obtain ⟨xs, n, _, _, hl, hxl, hx⟩ := DataW.trod_struct ht h'
  simp only [List.cons.injEq, and_true] at hoff hty hc hoffS htyS
  obtain ⟨o0, o1, o2, o3, o4, o5, o6⟩ := hoff
  obtain ⟨t0, t1, t2, t3, t4, t5, t6⟩ := hty
  obtain ⟨p0, p1, p2⟩ := hoffS
  obtain ⟨y0, y1, y2⟩ := htyS
  obtain ⟨k0, k1, k2, k3, k4, k5, k6, k7, k8, k9, k10⟩ := hc
  rw [k10] at hl
  rw [hts'] at hts
  simp only [Option.map_some, Option.some.injEq, Prod.mk.injEq] at hts
  obtain ⟨hlen, hs1, hs2, hs3⟩ := hts
  have g0 := hx 0 f0 rfl
  have g1 := hx 1 f1 rfl
  have g2 := hx 2 f2 rfl
  have g3 := hx 3 f3 rfl
  have g4 := hx 4 f4 rfl
  have g6 := hx 6 f6 rfl
  have hx2 : xs.length = 7 := by simpa using hxl
  rw [List.getElem?_eq_getElem (by omega)] at g0 g1 g2 g3 g4 g6
  rw [o0, t0, k0] at g0
  rw [o1, t1, k1] at g1
  rw [o2, t2, k2] at g2
  rw [o3, t3, k3] at g3
  rw [o4, t4, k0] at g4
  rw [o6, t6, k5] at g6
  obtain ⟨ys, m, _, _, hl2, hyl, hy⟩ := DataW.trod_struct hS g3
  have j0 := hy 0 q0 rfl
  have j1 := hy 1 q1 rfl
  have j2 := hy 2 q2 rfl
  have hy2 : ys.length = 3 := by simpa using hyl
  rw [List.getElem?_eq_getElem (by omega)] at j0 j1 j2
  rw [p0, y0, k2, List.drop_zero, List.take_take, Nat.min_eq_left (by decide)] at j0
  rw [p1, y1, k6, List.drop_take, List.take_take, Nat.min_eq_left (by decide), List.drop_drop] at j1
  rw [p2, y2, k7, List.drop_take, List.take_take, Nat.min_eq_left (by decide), List.drop_drop] at j2
  obtain ⟨kk, hkk, e0⟩ := O_int hK _ _ _ _ _ _ _ _ _ g0
  obtain ⟨op, hop, e1⟩ := hO _ _ _ _ _ _ _ _ _ g1
  obtain ⟨ve, hve, e2⟩ := hV _ _ _ _ _ _ _ _ _ g2
  obtain ⟨kn, hkn, e3⟩ := hV _ _ _ _ _ _ _ _ _ j0
  obtain ⟨ch, hch, e4⟩ := O_int hK _ _ _ _ _ _ _ _ _ g4
  obtain ⟨of, hof, e6⟩ := O_int hI _ _ _ _ _ _ _ _ _ g6
  have a1 : (cs.toList.drop 56).take 1 = [cs.toList[56]'(by omega)] := by rw [List.drop_eq_getElem_cons (by omega)]; rfl
  have a2 : (cs.toList.drop 57).take 1 = [cs.toList[57]'(by omega)] := by rw [List.drop_eq_getElem_cons (by omega)]; rfl
  have a3 : (cs.toList.drop 59).take 1 = [cs.toList[59]'(by omega)] := by rw [List.drop_eq_getElem_cons (by omega)]; rfl
  have sp : ∀ (a b : Nat), cs.toList.drop a = (cs.toList.drop a).take b ++ cs.toList.drop (a + b) := fun a b => by rw [← List.drop_drop, List.take_append_drop]
  have hsp : cs.toList = (cs.toList.drop 0).take 1 ++ ((cs.toList.drop 1).take 23 ++ ((cs.toList.drop 24).take 16 ++ ((cs.toList.drop 40).take 16 ++ ((cs.toList.drop 56).take 1 ++ ((cs.toList.drop 57).take 1 ++ ((cs.toList.drop 58).take 1 ++ ((cs.toList.drop 59).take 1 ++ (cs.toList.drop 60).take 1))))))) := by
    have hd : (cs.toList.drop 60).take 1 = cs.toList.drop 60 := List.take_of_length_le (by rw [List.length_drop]; omega)
    rw [hd, ← sp 59 1, ← sp 58 1, ← sp 57 1, ← sp 56 1, ← sp 40 16, ← sp 24 16, ← sp 1 23, ← sp 0 1]; rfl
  generalize hz1 : cs.toList[56]'(by omega) = z1 at a1
  generalize hz2 : cs.toList[57]'(by omega) = z2 at a2
  generalize hz3 : cs.toList[59]'(by omega) = z3 at a3
  rw [a1] at j1
  rw [a2] at j2
  have i1 : cs[56]? = some z1 := by rw [← hz1, ← Array.getElem?_toList]; exact List.getElem?_eq_getElem _
  have i2 : cs[57]? = some z2 := by rw [← hz2, ← Array.getElem?_toList]; exact List.getElem?_eq_getElem _
  have i3 : cs[59]? = some z3 := by rw [← hz3, ← Array.getElem?_toList]; exact List.getElem?_eq_getElem _
  obtain ⟨yy1, hy1, w1⟩ := hcell 56 z1 i1
  obtain ⟨yy2, hyy2, w2⟩ := hcell 57 z2 i2
  obtain ⟨yy3, hy3, w3⟩ := hcell 59 z3 i3
  rw [hlen, show 56 % 61 = 56 by rfl, hs1] at hy1
  rw [hlen, show 57 % 61 = 57 by rfl, hs2] at hyy2
  rw [hlen, show 59 % 61 = 59 by rfl, hs3] at hy3
  cases hy1
  cases hyy2
  cases hy3
  have v1 : Value.okWide P w r b0 s1 z1 := by unfold Value.okWide; rw [u1]; exact w1
  have v2 : Value.okWide P w r b0 s2 z2 := by unfold Value.okWide; rw [u2]; exact w2
  have v3 : Value.okWide P w r b0 tc z3 := by unfold Value.okWide; rw [u3]; exact w3
  obtain ⟨_, _, _, hw1⟩ := okWide_slice u1 v1
  obtain ⟨_, _, _, hw2⟩ := okWide_slice u2 v2
  obtain ⟨a', n', c', hw3⟩ := okWide_slice u3 v3
  have tr1 : DataW.Trod enc P w base spare held s1 z1 (ys[1].1) (ys[1].2) := ⟨m, by subst hw1; exact j1⟩
  have tr2 : DataW.Trod enc P w base spare held s2 z2 (ys[2].1) (ys[2].2) := ⟨m, by subst hw2; exact j2⟩
  obtain ⟨a, c, l1, hv1, hok1, hr1⟩ := open_rows u1 hE (fun _ => rfl) k8 v1 tr1
  obtain ⟨b, e, l2, hv2, hok2, hr2⟩ := open_rows u2 hL (fun _ => rfl) k9 v2 tr2
  refine ⟨⟨kk, op, ve, ⟨kn, l1, l2⟩, a, c, b, e, ch, n', a', c', of⟩, ?_, inK_u8 hkk, hr1, hr2⟩
  rw [e0, e1, e2, e3, a1, a2, e4, a3, e6, hv1, hv2, hw3] at hsp
  simp only [List.cons_append, List.nil_append] at hsp
  show Value.agg cs = .agg (acxc _).toArray
  congr 1
  rw [← Array.toArray_toList (xs := cs), hsp]
  rfl
end Go.Vx
namespace Go.Proofs.YtbkdlibbcepppaaGreatDoor
open Go Go.ChangeShapes Go.WideShapes Go.ChangeAt Go.RowKit Go.Vx
set_option maxRecDepth 100000
theorem O36 : OpenT Tryz.prog 36 vc VecOk := O_vec Tryz.underlying36 Tryz.underlying34 (by kernel_rfl) (by kernel_rfl)
theorem O52 : OpenT Tryz.prog 52 dc DotOk := O_dot Tryz.underlying52 rfl rfl Tryz.underlying5 Tryz.underlying34 (by kernel_rfl) (by kernel_rfl) (by kernel_rfl)
theorem O54 : OpenT Tryz.prog 54 oc OpnOk := O_opn Tryz.underlying54 rfl rfl O52 O36 Tryz.underlying5 Tryz.underlying23 Tryz.underlying23 Tryz.underlying23 Tryz.underlying34 (by kernel_rfl) (by kernel_rfl)
theorem O240 : OpenT Tryz.prog 240 cec CenOk := O_cen Tryz.underlying240 rfl rfl O52 Tryz.underlying23 Tryz.underlying23 Tryz.underlying23 Tryz.underlying5 Tryz.underlying65 (by kernel_rfl) (by kernel_rfl)
theorem O241 : OpenT Tryz.prog 241 lsc LstOk := O_lst Tryz.underlying241 rfl Tryz.underlying23 Tryz.underlying34 (by kernel_rfl) (by kernel_rfl)
theorem Tryz.own : ownKnob Tryz.prog.godebug = none := by kernel_rfl
theorem Tryz.laidOut : laidOutB Tryz.prog = true := by kernel_rfl
abbrev laidL {H : Type} : List (String × DataW H) := [("math/bits.deBruijn32tab", Rows.laid_math_bits_deBruijn32tab), ("math/bits.deBruijn64tab", Rows.laid_math_bits_deBruijn64tab), ("internal/strconv.uint64pow10", Rows.laid_internal_strconv_uint64pow10), ("trug/crc.half", Rows.laid_trug_crc_half)]
noncomputable def cellsOfD : DataW Unit → Array Value
  | .agg l => (l.map fun d => match d with | .lit (.int k n) => Value.int k n | _ => .bool false).toArray
  | _ => #[]
noncomputable def laidWorld (os : Os) : World :=
  let put (h : Array Obj) (g : Nat) (d : DataW Unit) : Array Obj := h.modify g fun | .cells _ t frozen => .cells (cellsOfD d) t frozen | o => o
  { World.holding Tryz.prog os ⟨#[], #[], []⟩ with heap := put (put (put (put (World.holding Tryz.prog os ⟨#[], #[], []⟩).heap 0 Rows.laid_trug_crc_half) 1 Rows.laid_internal_strconv_uint64pow10) 2 Rows.laid_math_bits_deBruijn32tab) 3 Rows.laid_math_bits_deBruijn64tab }
theorem laidWorld_met (os : Os) (args : Array Value) : laidMet Tryz.prog laidL ((laidWorld os).forCall (fun _ _ => 0) ⟨#[], args, []⟩).memory :=
  laidMet_of_run' 8 (by kernel_rfl) (by kernel_rfl)
abbrev zAct : Value := .agg #[.int .u8 0, .int .u8 0, .int .u32 0, .int .u8 0, .int .u16 0, .int .u16 0, .int .u16 0, .int .u32 0, .int .u32 0, .int .u32 0, .int .u32 0, .int .u32 0, .int .u32 0, .int .u32 0, .int .u32 0, .int .u32 0, .int .u32 0, .int .u32 0, .int .u32 0, .int .u32 0, .int .u32 0, .int .u32 0, .int .u32 0, .int .u32 0, .int .u32 0, .int .u32 0, .int .u32 0, .int .u32 0, .int .u32 0, .int .u32 0, .int .u32 0, .int .u32 0, .int .u32 0, .int .u32 0, .int .u32 0, .int .u32 0, .int .u32 0, .int .u32 0, .int .u32 0, .int .u32 0, .int .u32 0, .int .u32 0, .int .u32 0, .int .u32 0, .int .u32 0, .int .u32 0, .int .u32 0, .int .u32 0, .int .u32 0, .int .u32 0, .int .u32 0, .int .u32 0, .int .u32 0, .int .u32 0, .int .u32 0, .int .u32 0, .slice none 0 0, .slice none 0 0, .int .u8 0, .slice none 0 0, .int .i64 0]
theorem archiveNobody_lifted (os : Os) (started : os.Started) (H : Type) (enc : TypeId × Value → H) :
    ReturnsInHanded {} Tryz.checked os 4 .any (fun w args => (Rows.archiveNobodySpec.pre enc Tryz.prog Tryz.f4 Rows.archiveNobodyRow.domain false w args ∧ laidMet Tryz.prog laidL w) ∧ sizedMet enc Tryz.prog Tryz.f4 (OpenSpec.ofChange Rows.archiveNobodySpec) false w args)
      (Rows.archiveNobodySpec.post enc Tryz.prog Tryz.f4 false true false false) := by
  refine returnsInHanded_of_change_and (C := Tryz.checked) (X := fun w _ => laidMet Tryz.prog laidL w) (fun _ _ _ hh h => h.of_heap hh) Tryz.own started (by kernel_rfl) Tryz.func4
    (ChangeSpec.witness_at (enc := enc) (C := Tryz.checked) (os := os) (X := fun w _ => laidMet Tryz.prog laidL w) false (laidWorld os) #[zAct] 8 rfl (by kernel_rfl) (by kernel_rfl) (by kernel_rfl) (by kernel_rfl) (by kernel_rfl) (laidWorld_met os _)) ?_
  intro W base args ds gs before hval0 hW _ _ hL _
  have hval : ∀ (j : Nat) t v, Tryz.f4.params[j]? = some t → args[j]? = some v → Value.okWide Tryz.prog W .any base t v := hval0
  have hW' := hW
  obtain ⟨p, q, hA0, hV, rfl, hfz, hnd⟩ := hW
  have hA : DataW.TrodAll enc Tryz.prog W 0 (fun _ => true) true Tryz.f4.params.toList args.toList ds p := hA0
  rw [Tryz.params4] at hA hval
  obtain ⟨v0, d0, rfl, rfl, h0⟩ := trodAll_one hA
  obtain ⟨rfl, rfl⟩ := trodVars_none hV
  have h0k := h0
  obtain ⟨x, rfl, hk, hI⟩ := open_acx Tryz.underlying60 rfl rfl Tryz.underlying58 rfl rfl Tryz.underlying5 Tryz.underlying3 O54 O36 Tryz.underlying55 O240 Tryz.underlying56 O241 Tryz.underlying30 (by kernel_rfl) (by kernel_rfl) (hval 0 60 v0 rfl rfl) h0
  clear hA0 hval0
  simp only [List.append_nil] at hW'
  have hlt : ∀ x ∈ p, x.block < W.heap.size := fun x hx => hW'.lt x hx
  obtain ⟨T, hT⟩ := half_of_laid hL
  have walk : Calls Tryz.prog 4 #[.agg (Go.Proofs.Ct.acxc x).toArray] W (fun e w' => e = .returned (.bool true) ∧ Own W no w' []) := Ct.archNo_ok T x hk hI hT
  refine walk.mono fun e W' ⟨he, ho⟩ => ?_
  subst he
  have bel : Below W.heap.size W W' := ho.below
  refine ⟨_, rfl, _, _, _, [], p, [], hW', ?_, ?_, rfl, bel.frame _, fun h => by cases h⟩
  · exact trodAll_mk1 (shut_bool Tryz.underlying4 true)
  · exact trodAll_mk1 (Below.trod Tryz.laidOut (by kernel_rfl) (of_decide_eq_true (by kernel_rfl)) h0k bel hlt)
end Go.Proofs.YtbkdlibbcepppaaGreatDoor
