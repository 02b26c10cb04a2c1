/- A part of a proof: what functions of the program compute, and plain facts on that. -/
import Derived.Test.YtnanhhiofnohbaaVtR
namespace Go.Proofs
open Go Go.Vx Go.RowKit
namespace Tt

set_option maxRecDepth 20000 in
set_option maxHeartbeats 4000000 in
theorem dotsAny_no (w : World) (v : Vec) (a : Option Addr) (c : Nat) (l : List Dot) (q : Int) (hv : VecOk v) (hl : ∀ d ∈ l, DotOk d) (hq : 0 ≤ q ∧ q < 256) (hr : Rd w (.slice a l.length c) 2 (l.map dc)) (hsort : SortC Try.prog 64 51 dc 34 2 sortD) (hB : rightB v 16 = false) : Calls Try.prog 4 #[.agg (vc v).toArray, .slice a l.length c, .int .u8 q] w (fun e w' => e = .returned (.bool true) ∧ Own w no w' []) := by
  refine calls_of_Wn (n := 89) Try.func4 rfl Try.ntmps4 rfl ?_
  have hs := Own.start w
  refine W_seq ?_
  refine W_region ?_
  refine RW_op (L_box (V := .agg (vc v).toArray) (cs := vc v) rfl rfl hs fun b1 w2 hs => ?_)
  refine RW_op (L_assign (V := .bool false) rfl ?_)
  refine RW_nil ?_
  refine W_seq ?_
  refine W_seq ?_
  refine W_region ?_
  refine RW_op (L_callP (vs := []) (V := .bool true) EN_15 rfl rfl (alive5_ok _ hsort) hs fun w3 hs => ?_)
  refine RW_op (L_not rfl ?_)
  refine RW_nil ?_
  refine W_condF rfl ?_
  refine W_skip ?_
  refine W_seq ?_
  replace hs := hs.drew
  refine W_draw2 HM [14, 15, 16, 17, 7, 8] [[], [0], [], [2, 1], [1, 3, 0, 1], [3, 4, 0, 1, 2, 3, 4]] (fun D ρ wx => Own w no wx [blk b1 (vc v) 24] ∧ (D 0 = true → ρ 14 = .agg (vc v).toArray) ∧ (D 1 = true → ρ 15 = .pointer none) ∧ (D 2 = true → ρ 16 = .agg (vc v).toArray) ∧ (D 3 = true → ρ 17 = .pointer none) ∧ (D 4 = true → ρ 7 = .pointer none) ∧ (D 5 = true → ρ 8 = .pointer none)) rfl rfl rfl ⟨hs, fun h => absurd h Bool.false_ne_true, fun h => absurd h Bool.false_ne_true, fun h => absurd h Bool.false_ne_true, fun h => absurd h Bool.false_ne_true, fun h => absurd h Bool.false_ne_true, fun h => absurd h Bool.false_ne_true⟩ ⟨?_, ?_, ?_, ?_, ?_, ?_, trivial⟩ ?_
  · rintro D ρ wx hD hd hdc hf ⟨hs, f0, f1, f2, f3, f4, f5⟩
    have r3 : ρ 3 = .pointer (some ⟨b1, 0, none⟩) := outD hf 3 rfl
    exact .inl ⟨rfl, L_ldW (cs := vc v) SA_24 hs 0 rfl r3 rfl ⟨hs, fun _ => rfl, f1, f2, f3, f4, f5⟩⟩
  · rintro D ρ wx hD hd hdc hf ⟨hs, f0, f1, f2, f3, f4, f5⟩
    have g0 := f0 (doneD hd 0 rfl)
    exact .inl ⟨rfl, L_callP (vs := [.agg (vc v).toArray]) (V := .pointer none) EN_16 rfl (mapc g0 rfl) (gNew_no _ v hv hB) hs fun _ hs0 => ⟨hs0, f0, fun _ => rfl, f2, f3, f4, f5⟩⟩
  · rintro D ρ wx hD hd hdc hf ⟨hs, f0, f1, f2, f3, f4, f5⟩
    have r3 : ρ 3 = .pointer (some ⟨b1, 0, none⟩) := outD hf 3 rfl
    exact .inl ⟨rfl, L_ldW (cs := vc v) SA_24 hs 0 rfl r3 rfl ⟨hs, f0, f1, fun _ => rfl, f3, f4, f5⟩⟩
  · rintro D ρ wx hD hd hdc hf ⟨hs, f0, f1, f2, f3, f4, f5⟩
    have g2 := f2 (doneD hd 2 rfl)
    exact .inl ⟨rfl, L_callP (vs := [.agg (vc v).toArray]) (V := .pointer none) EN_16 rfl (mapc g2 rfl) (gNew_no _ v hv hB) hs fun _ hs0 => ⟨hs0, f0, f1, f2, fun _ => rfl, f4, f5⟩⟩
  · rintro D ρ wx hD hd hdc hf ⟨hs, f0, f1, f2, f3, f4, f5⟩
    have g1 := f1 (doneD hd 1 rfl)
    exact .inl ⟨rfl, L_assign (V := .pointer none) g1 ⟨hs, f0, f1, f2, f3, fun _ => rfl, f5⟩⟩
  · rintro D ρ wx hD hd hdc hf ⟨hs, f0, f1, f2, f3, f4, f5⟩
    have g3 := f3 (doneD hd 3 rfl)
    exact .inl ⟨rfl, L_assign (V := .pointer none) g3 ⟨hs, f0, f1, f2, f3, f4, fun _ => rfl⟩⟩
  · rintro ρ1 w1 D hD hf ⟨hs, f0, f1, f2, f3, f4, f5⟩
    have e4 := f4 (hD 4 rfl)
    have e5 := f5 (hD 5 rfl)
    clear f0 f1 f2 f3 f4 f5
    obtain ⟨ρ2, hρ⟩ : ∃ ρ2, ρ1 = upd (upd (mix [14, 15, 16, 17, 7, 8] ρ2 _) 7 (.pointer none)) 8 (.pointer none) := ⟨ρ1, upd_of (upd_of (mix_of (ds := [14, 15, 16, 17, 7, 8]) hf) e4) e5⟩
    clear hf hD e4 e5
    subst hρ
    refine W_seq ?_
    refine W_seq ?_
    refine W_region ?_
    refine RW_op (L_move (V := .pointer none) rfl ?_)
    refine RW_op (L_ptrnil UD_27 rfl rfl ?_)
    refine RW_op (L_move (V := .bool true) rfl ?_)
    refine RW_gn (T := true) rfl rfl ?_
    refine RW_gn (T := true) rfl rfl ?_
    refine RW_op (L_pick (g := true) (V := .bool true) rfl rfl ?_)
    refine RW_nil ?_
    refine W_condT rfl ?_
    refine W_seq ?_
    refine W_region ?_
    refine RW_op (L_ldW (cs := vc v) SA_24 hs 0 rfl rfl rfl ?_)
    refine RW_op (L_callP (vs := [.agg (vc v).toArray, .int .i64 16]) (V := .bool (rightB v 16)) EN_17 rfl rfl (rRight_ok _ v 16 (by first | assumption | exact vzero_ok)) hs fun w7 hs => ?_)
    refine RW_op (L_not rfl ?_)
    refine RW_op (L_assign (V := .bool (!(rightB v 16))) rfl ?_)
    refine RW_nil ?_
    refine W_ret ?_
    refine ⟨_, res_one (V := .bool (!(rightB v 16))) Try.results4 rfl, ?_⟩
    refine ⟨congrArg Ending.returned ?_, hs.take 0⟩
    rw [hB]; rfl
end Tt
end Go.Proofs
