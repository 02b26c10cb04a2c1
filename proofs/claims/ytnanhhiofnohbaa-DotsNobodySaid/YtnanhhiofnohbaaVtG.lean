/- A part of a proof: what functions of the program compute, and plain facts on that. -/
import Derived.Test.YtnanhhiofnohbaaVtF
namespace Go.Proofs
open Go Go.Vx Go.RowKit
namespace Tt

set_option maxRecDepth 20000 in
set_option maxHeartbeats 4000000 in
theorem apSeqD_ok (w : World) (f N : Nat) (caps : List Value) (hf : En Try.prog f) (hN : N * 9 ≤ 140737488355328) (G : List Value → Prop) (hcall : Gives Try.prog f caps (okS dv N) G w) : Calls Try.prog 79 #[.slice none 0 0, .func (.func f) #[] caps.toArray] w (fun e w' => ∃ x : List Dot × Option Addr × Nat, e = .returned (.slice x.2.1 x.1.length x.2.2) ∧ Own w no w' [row (.slice x.2.1 x.1.length x.2.2) (x.1.map dc) 34 2] ∧ G (x.1.map dv) ∧ x.1.length ≤ N) := by
  refine calls_of_Wd (n := 13) Try.func79 rfl Try.ntmps79 rfl ?_
  have hs := Own.start w
  refine Wd_seqR ?_
  refine W_region ?_
  refine RW_op (L_box (V := .slice none 0 0) (cs := [.slice none 0 0]) rfl rfl hs fun b1 w2 hs => ?_)
  refine RW_op (L_assign (V := .slice none 0 0) rfl ?_)
  refine RW_nil ?_
  refine Wd_seqL ?_
  refine Wd_seqR ?_
  refine W_region ?_
  refine RW_op (L_move (V := .func (.func f) #[] caps.toArray) rfl ?_)
  refine RW_nil ?_
  refine Wd_block ?_
  replace hs := hs.more (row (.slice none 0 0) (List.map dc []) 34 2) (row_nil _ _ _ _)
  replace hs := hs.join 0 1 (by decide) rfl rfl
  replace hs := hs.conv 0 rfl (R' := accR N b1 25 34 2 dc dv []) (fun S h => ⟨⟨([], none, 0), rfl, Nat.zero_le _⟩, h⟩)
  refine Wd_rangeFunc (caps := caps) (ok := okS dv N) (G := G) rfl rfl hf hs 0 (accR N b1 25 34 2 dc dv) rfl ?_ hcall ?_
  · rintro l fn dd pre x w2 S ⟨⟨d, rfl⟩, hpN⟩ hs
    refine W_region ?_
    refine RW_op (L_alloc (cs := dc (⟨0, 0⟩ : Dot)) ZV_34 rfl hs fun b3 w4 hs => ?_)
    refine RW_op (L_st (V := .agg (dc d).toArray) (vs := dc d) (cs' := dc d) SA_34.1 hs 2 rfl rfl rfl rfl rfl (Nat.le_of_ble_eq_true rfl) (dc_one _) (spl_whole rfl) fun w5 hs => ?_)
    refine RW_nil ?_
    refine ⟨[blk b3 (dc d) 34], hs, ?_⟩
    intro w3 hs
    obtain ⟨⟨⟨l0, a0, c0⟩, hx, hxN⟩, hs⟩ := hs.unpack 0 rfl
    replace hs := hs.split 0 rfl
    dsimp only at hx
    have hlen := congrArg List.length hx
    rw [List.length_map] at hlen
    refine W_block ?_
    refine W_region ?_
    refine RW_op (L_ld (V := .slice a0 l0.length c0) S1_25 hs 0 rfl rfl rfl ?_)
    refine RW_op (L_ldW (cs := dc d) SA_34 hs 2 rfl rfl rfl ?_)
    refine RW_op (L_bs (vals := [.agg (dc d).toArray]) (ls := List.map dc ([d] : List Dot)) EL_25 rfl rfl rfl (len_map (enc := dc) (fun _ => rfl) _) (one_map dc_one _) (Nat.le_of_ble_eq_true rfl) hs fun b6 w7 hs => ?_)
    refine RW_op (L_appN (ls' := (l0 ++ [d]).map dc) (n := (l0 ++ [d]).length) EL_25 hs 3 rfl rfl rfl (hs.rd 4 rfl) (one_map dc_one _) (by simp only [List.length_map, List.length_append, List.length_cons, List.length_nil]; omega) (by simp) (by simp) fun a8 c8 w9 hs => ?_)
    refine RW_op (L_st1 (V := .slice a8 ((l0 ++ [d]).length) c8) (cs' := [.slice a8 ((l0 ++ [d]).length) c8]) S1_25 hs 0 rfl rfl rfl rfl (Nat.le_of_ble_eq_true rfl) rfl fun w10 hs => ?_)
    refine RW_nil ?_
    replace hs := hs.join 0 3 (by decide) rfl rfl
    replace hs := hs.conv 0 rfl (R' := accR N b1 25 34 2 dc dv (pre ++ [dv d])) (fun S h => ⟨⟨(l0 ++ [d], a8, c8), by rw [List.map_append, hx]; rfl, by rw [List.length_append]; exact hpN⟩, h⟩)
    exact hs.take 2
  · rintro xs dd w3 hG hs
    obtain ⟨⟨⟨l1, a1, c1⟩, hx, hxN⟩, hs⟩ := hs.unpack 0 rfl
    dsimp only at hx
    subst hx
    replace hs := hs.split 0 rfl
    refine Wd_of ?_
    refine W_seq ?_
    refine W_region ?_
    refine RW_op (L_ld (V := .slice a1 l1.length c1) S1_25 hs 0 rfl rfl rfl ?_)
    refine RW_op (L_assign (V := .slice a1 l1.length c1) rfl ?_)
    refine RW_nil ?_
    refine W_ret ?_
    refine ends_mark (V := .slice a1 l1.length c1) hs 2 rfl (fun w => res_one (V := .slice a1 l1.length c1) Try.results79 rfl) fun w hs => ?_
    exact ⟨(l1, a1, c1), rfl, hs.only 3 rfl, hG, by simpa using hxN⟩
end Tt
end Go.Proofs
