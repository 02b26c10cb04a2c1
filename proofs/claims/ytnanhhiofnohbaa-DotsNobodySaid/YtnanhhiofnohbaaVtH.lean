/- A part of a proof: what functions of the program compute, and plain facts on that. -/
import Derived.Test.YtnanhhiofnohbaaVtG
namespace Go.Proofs
open Go Go.Vx Go.RowKit
namespace Tt
theorem EN_63 : En Try.prog 63 := Try.call63
theorem EN_64 : En Try.prog 64 := Try.call64
theorem EN_79 : En Try.prog 79 := Try.call79
set_option maxRecDepth 20000 in
set_option maxHeartbeats 4000000 in
theorem collectD_ok (w : World) (f N : Nat) (caps : List Value) (hf : En Try.prog f) (hN : N * 9 ≤ 140737488355328) (G : List Value → Prop) (hcall : Gives Try.prog f caps (okS dv N) G w) : Calls Try.prog 63 #[.func (.func f) #[] caps.toArray] w (fun e w' => ∃ x : List Dot × Option Addr × Nat, e = .returned (.slice x.2.1 x.1.length x.2.2) ∧ Own w no w' [row (.slice x.2.1 x.1.length x.2.2) (x.1.map dc) 34 2] ∧ G (x.1.map dv) ∧ x.1.length ≤ N) := by
  refine calls_of_Wn (n := 5) Try.func63 rfl Try.ntmps63 rfl ?_
  have hs := Own.start w
  refine W_seq ?_
  refine W_region ?_
  refine RW_op (L_assign (V := .slice none 0 0) rfl ?_)
  refine RW_nil ?_
  refine W_seq ?_
  refine W_region ?_
  refine RW_op (L_move (V := .func (.func f) #[] caps.toArray) rfl ?_)
  refine RW_op (L_callX (vs := [.slice none 0 0, .func (.func f) #[] caps.toArray]) EN_79 rfl rfl (apSeqD_ok _ f N caps hf hN G hcall) hs fun x1 w2 hs hF3 => ?_)
  refine RW_op (L_assign (V := .slice x1.2.1 x1.1.length x1.2.2) rfl ?_)
  refine RW_nil ?_
  refine W_ret ?_
  refine ⟨_, res_one (V := .slice x1.2.1 x1.1.length x1.2.2) Try.results63 rfl, ?_⟩
  exact ⟨(x1.1, x1.2.1, x1.2.2), rfl, hs.only 0 rfl, hF3⟩
set_option maxRecDepth 20000 in
set_option maxHeartbeats 4000000 in
theorem sortedD_ok (w : World) (f N : Nat) (caps : List Value) (hf : En Try.prog f) (hN : N * 9 ≤ 140737488355328) (G : List Value → Prop) (hcall : Gives Try.prog f caps (okS dv N) G w) (hsort : SortC Try.prog 64 51 dc 34 2 sortD) : Calls Try.prog 49 #[.func (.func f) #[] caps.toArray, .func (.func 51) #[] #[]] w (fun e w' => ∃ x : List Dot × Option Addr × Nat, e = .returned (.slice x.2.1 x.1.length x.2.2) ∧ Own w no w' [row (.slice x.2.1 x.1.length x.2.2) (x.1.map dc) 34 2] ∧ ∃ m, G (m.map dv) ∧ sortD m x.1) := by
  refine calls_of_Wn (n := 12) Try.func49 rfl Try.ntmps49 rfl ?_
  have hs := Own.start w
  refine W_seq ?_
  refine W_region ?_
  refine RW_op (L_assign (V := .slice none 0 0) rfl ?_)
  refine RW_nil ?_
  refine W_seq ?_
  refine W_region ?_
  refine RW_op (L_move (V := .func (.func f) #[] caps.toArray) rfl ?_)
  refine RW_op (L_callX (vs := [.func (.func f) #[] caps.toArray]) EN_63 rfl rfl (collectD_ok _ f N caps hf hN G hcall) hs fun x1 w2 hs hF3 => ?_)
  refine RW_op (L_assign (V := .slice x1.2.1 x1.1.length x1.2.2) rfl ?_)
  refine RW_nil ?_
  refine W_seq ?_
  have hn := hF3.2
  refine W_region ?_
  refine RW_op (L_move (V := .slice x1.2.1 x1.1.length x1.2.2) rfl ?_)
  refine RW_op (L_move (V := .func (.func 51) #[] #[]) rfl ?_)
  refine RW_op (L_callB (α := { m : List Dot // sortD x1.1 m }) (vs := [.slice x1.2.1 x1.1.length x1.2.2, .func (.func 51) #[] #[]]) (V := fun _ => .tuple #[]) (R := row (.slice x1.2.1 x1.1.length x1.2.2) (x1.1.map dc) 34 2) (R' := fun x => row (.slice x1.2.1 x1.1.length x1.2.2) (x.1.map dc) 34 2) (Lo := fun _ => []) (F := fun _ _ => True) EN_64 rfl rfl hs 0 rfl (fun S hS hlt => hsort _ S _ _ _ hS hlt (by omega)) fun x4 w5 hs _ => ?_)
  replace hs : Own w no w5 _ := hs
  refine RW_nil ?_
  refine W_seq ?_
  refine W_region ?_
  refine RW_op (L_move (V := .slice x1.2.1 x1.1.length x1.2.2) rfl ?_)
  refine RW_op (L_assign (V := .slice x1.2.1 x1.1.length x1.2.2) rfl ?_)
  refine RW_nil ?_
  refine W_ret ?_
  refine ⟨_, res_one (V := .slice x1.2.1 x1.1.length x1.2.2) Try.results49 rfl, ?_⟩
  have hl : x1.1.length = x4.1.length := (x4.2.1.length_eq).symm
  refine ⟨(x4.1, x1.2.1, x1.2.2), by rw [hl], ?_, x1.1, hF3.1, x4.2⟩
  have ho := hs.only 0 rfl
  rw [hl] at ho
  exact ho
end Tt
end Go.Proofs
