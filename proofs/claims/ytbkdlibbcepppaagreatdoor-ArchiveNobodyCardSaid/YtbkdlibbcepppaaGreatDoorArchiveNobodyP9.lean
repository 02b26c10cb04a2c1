/- A part of a proof: what functions of the program compute, and plain facts on that. -/
import Derived.Test.YtbkdlibbcepppaaGreatDoorArchiveNobodyP8
set_option linter.unusedVariables false
set_option linter.unusedSectionVars false
set_option linter.unusedSimpArgs false
namespace Go.Vx
open Go.RowKit Go.ChangeShapes Go.WideShapes Go.ChangeAt
theorem O_opn {P : Program} {t td tv : TypeId} {f0 f1 f2 f3 f4 f5 f6 : Field} (ht : P.underlying t = some (.struct #[f0, f1, f2, f3, f4, f5, f6]))
    (hoff : [f0.offset, f1.offset, f2.offset, f3.offset, f4.offset, f5.offset, f6.offset] = [0, 2, 3, 4, 5, 6, 7])
    (hty : [f0.type, f6.type] = [td, tv])
    (hD : OpenT P td dc DotOk) (hV : OpenT P tv vc VecOk)
    (u1 : P.underlying f1.type = some (.int .u8)) (u2 : P.underlying f2.type = some (.int .u16)) (u3 : P.underlying f3.type = some (.int .u16)) (u4 : P.underlying f4.type = some (.int .u16)) (u5 : P.underlying f5.type = some (.int .u32))
    (hc : [P.cellsOf f0.type, P.cellsOf f1.type, P.cellsOf f2.type, P.cellsOf f3.type, P.cellsOf f4.type, P.cellsOf f5.type, P.cellsOf f6.type] = [2, 1, 1, 1, 1, 1, 16]) (hct : P.cellsOf t = 23) : OpenT P t oc OpnOk := by
  intro H enc w base spare held fuel cs x h
  obtain ⟨xs, m, _, _, hl, hxl, hx⟩ := DataW.trod_struct ht h
  rw [hct] at hl
  have g0 := hx 0 f0 rfl
  have g1 := hx 1 f1 rfl
  have g2 := hx 2 f2 rfl
  have g3 := hx 3 f3 rfl
  have g4 := hx 4 f4 rfl
  have g5 := hx 5 f5 rfl
  have g6 := hx 6 f6 rfl
  have hx2 : xs.length = 7 := by simpa using hxl
  simp only [List.cons.injEq, and_true] at hoff hty hc
  obtain ⟨o0, o1, o2, o3, o4, o5, o6⟩ := hoff
  obtain ⟨c0, c1, c2, c3, c4, c5, c6⟩ := hc
  obtain ⟨t0, t6⟩ := hty
  rw [List.getElem?_eq_getElem (by omega)] at g0 g1 g2 g3 g4 g5 g6
  rw [o0, c0, t0] at g0
  rw [o1, c1] at g1
  rw [o2, c2] at g2
  rw [o3, c3] at g3
  rw [o4, c4] at g4
  rw [o5, c5] at g5
  rw [o6, c6, t6] at g6
  obtain ⟨d, hd, e0⟩ := hD _ _ _ _ _ _ _ _ _ g0
  obtain ⟨k, hk, e1⟩ := O_int u1 _ _ _ _ _ _ _ _ _ g1
  obtain ⟨c, hc', e2⟩ := O_int u2 _ _ _ _ _ _ _ _ _ g2
  obtain ⟨i, hi, e3⟩ := O_int u3 _ _ _ _ _ _ _ _ _ g3
  obtain ⟨q, hq, e4⟩ := O_int u4 _ _ _ _ _ _ _ _ _ g4
  obtain ⟨tk, htk, e5⟩ := O_int u5 _ _ _ _ _ _ _ _ _ g5
  obtain ⟨v, hv, e6⟩ := hV _ _ _ _ _ _ _ _ _ g6
  refine ⟨⟨d, k, c, i, q, tk, v⟩, ⟨hd, inK_u8 hk, inK_u16 hc', inK_u16 hi, inK_u16 hq, inK_u32 htk, hv⟩, ?_⟩
  match cs, hl with
  | x0 :: x1 :: x2 :: x3 :: x4 :: x5 :: x6 :: R, hR =>
    have e6' : R = vc v := by
      simp only [List.drop_succ_cons, List.drop_zero] at e6
      rw [List.take_of_length_le (by simp at hR; omega)] at e6; exact e6
    simp [ic, dc] at e0 e1 e2 e3 e4 e5
    rw [e0.1, e0.2, e1, e2, e3, e4, e5, e6']
    rfl
end Go.Vx
namespace Go.Vx
open Go.RowKit Go.ChangeShapes Go.WideShapes Go.ChangeAt
theorem inK_u64 {a : Int} (h : inK .u64 a) : 0 ≤ a ∧ a < 18446744073709551616 := by
  unfold inK at h
  simp [Lit.wf, IntKind.min, IntKind.max, IntKind.signed, IntKind.bits] at h
  omega
theorem O_lst {P : Program} {t : TypeId} {f0 f1 : Field} (ht : P.underlying t = some (.struct #[f0, f1])) (hoff : [f0.offset, f1.offset] = [0, 1]) (u0 : P.underlying f0.type = some (.int .u16)) (u1 : P.underlying f1.type = some (.int .u32))
    (hc : [P.cellsOf f0.type, P.cellsOf f1.type] = [1, 1]) (hct : P.cellsOf t = 2) : OpenT P t lsc LstOk := by
  intro H enc w base spare held fuel cs x h
  obtain ⟨xs, m, _, _, hl, hxl, hx⟩ := DataW.trod_struct ht h
  rw [hct] at hl
  have g0 := hx 0 f0 rfl
  have g1 := hx 1 f1 rfl
  have hx2 : xs.length = 2 := by simpa using hxl
  simp only [List.cons.injEq, and_true] at hoff hc
  obtain ⟨o0, o1⟩ := hoff
  obtain ⟨c0, c1⟩ := hc
  rw [List.getElem?_eq_getElem (by omega)] at g0 g1
  rw [o0, c0] at g0
  rw [o1, c1] at g1
  obtain ⟨k, hk, e0⟩ := O_int u0 _ _ _ _ _ _ _ _ _ g0
  obtain ⟨c, hc', e1⟩ := O_int u1 _ _ _ _ _ _ _ _ _ g1
  refine ⟨⟨k, c⟩, ⟨inK_u16 hk, inK_u32 hc'⟩, ?_⟩
  match cs, hl with
  | [x0, x1], _ =>
    simp [ic] at e0 e1
    rw [e0, e1]; rfl
theorem O_cen {P : Program} {t td : TypeId} {f0 f1 f2 f3 f4 f5 : Field} (ht : P.underlying t = some (.struct #[f0, f1, f2, f3, f4, f5]))
    (hoff : [f0.offset, f1.offset, f2.offset, f3.offset, f4.offset, f5.offset] = [0, 1, 2, 3, 4, 6]) (hty : f4.type = td) (hD : OpenT P td dc DotOk)
    (u0 : P.underlying f0.type = some (.int .u16)) (u1 : P.underlying f1.type = some (.int .u16)) (u2 : P.underlying f2.type = some (.int .u16)) (u3 : P.underlying f3.type = some (.int .u8)) (u5 : P.underlying f5.type = some (.int .u64))
    (hc : [P.cellsOf f0.type, P.cellsOf f1.type, P.cellsOf f2.type, P.cellsOf f3.type, P.cellsOf f4.type, P.cellsOf f5.type] = [1, 1, 1, 1, 2, 1]) (hct : P.cellsOf t = 7) : OpenT P t cec CenOk := by
  intro H enc w base spare held fuel cs x h
  obtain ⟨xs, m, _, _, hl, hxl, hx⟩ := DataW.trod_struct ht h
  rw [hct] at hl
  have g0 := hx 0 f0 rfl
  have g1 := hx 1 f1 rfl
  have g2 := hx 2 f2 rfl
  have g3 := hx 3 f3 rfl
  have g4 := hx 4 f4 rfl
  have g5 := hx 5 f5 rfl
  have hx2 : xs.length = 6 := by simpa using hxl
  simp only [List.cons.injEq, and_true] at hoff hc
  obtain ⟨o0, o1, o2, o3, o4, o5⟩ := hoff
  obtain ⟨c0, c1, c2, c3, c4, c5⟩ := hc
  rw [List.getElem?_eq_getElem (by omega)] at g0 g1 g2 g3 g4 g5
  rw [o0, c0] at g0
  rw [o1, c1] at g1
  rw [o2, c2] at g2
  rw [o3, c3] at g3
  rw [o4, c4, hty] at g4
  rw [o5, c5] at g5
  obtain ⟨a, ha, e0⟩ := O_int u0 _ _ _ _ _ _ _ _ _ g0
  obtain ⟨b, hb, e1⟩ := O_int u1 _ _ _ _ _ _ _ _ _ g1
  obtain ⟨c, hc', e2⟩ := O_int u2 _ _ _ _ _ _ _ _ _ g2
  obtain ⟨k, hk, e3⟩ := O_int u3 _ _ _ _ _ _ _ _ _ g3
  obtain ⟨d, hd, e4⟩ := hD _ _ _ _ _ _ _ _ _ g4
  obtain ⟨n, hn, e5⟩ := O_int u5 _ _ _ _ _ _ _ _ _ g5
  refine ⟨⟨a, b, c, k, d, n⟩, ⟨inK_u16 ha, inK_u16 hb, inK_u16 hc', inK_u8 hk, hd, inK_u64 hn⟩, ?_⟩
  match cs, hl with
  | [x0, x1, x2, x3, x4, x5, x6], _ =>
    simp [ic, dc] at e0 e1 e2 e3 e4 e5
    rw [e0, e1, e2, e3, e4.1, e4.2, e5]; rfl
end Go.Vx
