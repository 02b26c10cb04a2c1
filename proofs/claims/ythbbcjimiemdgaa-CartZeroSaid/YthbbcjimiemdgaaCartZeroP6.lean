/- A part of a proof: what functions of the program compute, and plain facts on that. -/
import Derived.Test.YthbbcjimiemdgaaCartZeroP5
import Derived.KernelRfl
import Derived.Test.YthbbcjimiemdgaaProg
import Derived.Shelf.SlSortCmp.WholeK
import Derived.Shelf.SlLaysF0
import Derived.Ground.SlsfProg
import Derived.Shelf.SlSortCmp.NoneTotal
set_option linter.unusedVariables false
set_option linter.unusedSimpArgs false
namespace Go.Proofs
open Go Go.Vx Go.RowKit
namespace Tt
set_option maxRecDepth 20000 in
set_option maxHeartbeats 4000000 in
theorem ahead_ok (w : World) (x y : Cen) : Calls Try.prog 92 #[.agg (cec x).toArray, .agg (cec y).toArray] w (fun e w' => e = .returned (.bool (aheadB x y)) ∧ Own w no w' []) := by
  refine calls_of_Wn (n := 36) Try.func92 rfl Try.ntmps92 rfl ?_
  have hs := Own.start w
  refine W_seq ?_
  refine W_region ?_
  refine RW_op (L_box (V := .agg (cec x).toArray) (cs := cec x) rfl rfl hs fun b1 w2 hs => ?_)
  refine RW_op (L_box (V := .agg (cec y).toArray) (cs := cec y) rfl rfl hs fun b3 w4 hs => ?_)
  refine RW_op (L_assign (V := .bool false) rfl ?_)
  refine RW_nil ?_
  refine W_seq ?_
  refine W_seq ?_
  refine W_region ?_
  refine RW_op (L_fieldAddr FA_134_0 rfl ?_)
  refine RW_op (L_ld (V := .int .u16 x.cart) S1_70 hs 0 rfl rfl rfl ?_)
  refine RW_op (L_fieldAddr FA_134_0 rfl ?_)
  refine RW_op (L_ld (V := .int .u16 y.cart) S1_70 hs 1 rfl rfl rfl ?_)
  refine RW_op (L_neq rfl rfl ?_)
  refine RW_nil ?_
  refine W_cond (t := !decide (x.cart = y.cart)) rfl (fun c5 => ?_) (fun c5 => ?_)
  ·
    replace c5 := not_t c5
    replace c5 := of_decide_eq_false c5
    refine W_seq ?_
    refine W_region ?_
    refine RW_op (L_fieldAddr FA_134_0 rfl ?_)
    refine RW_op (L_ld (V := .int .u16 x.cart) S1_70 hs 0 rfl rfl rfl ?_)
    refine RW_op (L_fieldAddr FA_134_0 rfl ?_)
    refine RW_op (L_ld (V := .int .u16 y.cart) S1_70 hs 1 rfl rfl rfl ?_)
    refine RW_op (L_lss rfl rfl ?_)
    refine RW_op (L_assign (V := .bool (decide (x.cart < y.cart))) rfl ?_)
    refine RW_nil ?_
    refine W_ret ?_
    refine ⟨_, res_one (V := .bool (decide (x.cart < y.cart))) Try.results92 rfl, ?_⟩
    refine ⟨congrArg Ending.returned ?_, hs.take 0⟩
    unfold aheadB; rw [if_neg c5]
  ·
    replace c5 := not_f c5
    replace c5 := of_decide_eq_true c5
    refine W_skip ?_
    refine W_seq ?_
    refine W_seq ?_
    refine W_region ?_
    refine RW_op (L_fieldAddr FA_134_4 rfl ?_)
    refine RW_op (L_fieldAddr FA_96_0 rfl ?_)
    refine RW_op (L_ld (V := .int .u8 x.dot.rep) S1_5 hs 0 rfl rfl rfl ?_)
    refine RW_op (L_fieldAddr FA_134_4 rfl ?_)
    refine RW_op (L_fieldAddr FA_96_0 rfl ?_)
    refine RW_op (L_ld (V := .int .u8 y.dot.rep) S1_5 hs 1 rfl rfl rfl ?_)
    refine RW_op (L_neq rfl rfl ?_)
    refine RW_nil ?_
    refine W_cond (t := !decide (x.dot.rep = y.dot.rep)) rfl (fun c6 => ?_) (fun c6 => ?_)
    ·
      replace c6 := not_t c6
      replace c6 := of_decide_eq_false c6
      refine W_seq ?_
      refine W_region ?_
      refine RW_op (L_fieldAddr FA_134_4 rfl ?_)
      refine RW_op (L_fieldAddr FA_96_0 rfl ?_)
      refine RW_op (L_ld (V := .int .u8 x.dot.rep) S1_5 hs 0 rfl rfl rfl ?_)
      refine RW_op (L_fieldAddr FA_134_4 rfl ?_)
      refine RW_op (L_fieldAddr FA_96_0 rfl ?_)
      refine RW_op (L_ld (V := .int .u8 y.dot.rep) S1_5 hs 1 rfl rfl rfl ?_)
      refine RW_op (L_lss rfl rfl ?_)
      refine RW_op (L_assign (V := .bool (decide (x.dot.rep < y.dot.rep))) rfl ?_)
      refine RW_nil ?_
      refine W_ret ?_
      refine ⟨_, res_one (V := .bool (decide (x.dot.rep < y.dot.rep))) Try.results92 rfl, ?_⟩
      refine ⟨congrArg Ending.returned ?_, hs.take 0⟩
      unfold aheadB; rw [if_pos c5, if_neg c6]
    ·
      replace c6 := not_f c6
      replace c6 := of_decide_eq_true c6
      refine W_skip ?_
      refine W_seq ?_
      refine W_region ?_
      refine RW_op (L_fieldAddr FA_134_4 rfl ?_)
      refine RW_op (L_fieldAddr FA_96_1 rfl ?_)
      refine RW_op (L_ld (V := .int .u32 x.dot.seq) S1_51 hs 0 rfl rfl rfl ?_)
      refine RW_op (L_fieldAddr FA_134_4 rfl ?_)
      refine RW_op (L_fieldAddr FA_96_1 rfl ?_)
      refine RW_op (L_ld (V := .int .u32 y.dot.seq) S1_51 hs 1 rfl rfl rfl ?_)
      refine RW_op (L_lss rfl rfl ?_)
      refine RW_op (L_assign (V := .bool (decide (x.dot.seq < y.dot.seq))) rfl ?_)
      refine RW_nil ?_
      refine W_ret ?_
      refine ⟨_, res_one (V := .bool (decide (x.dot.seq < y.dot.seq))) Try.results92 rfl, ?_⟩
      refine ⟨congrArg Ending.returned ?_, hs.take 0⟩
      unfold aheadB; rw [if_pos c5, if_pos c6]
set_option maxRecDepth 20000 in
set_option maxHeartbeats 4000000 in
theorem rtick_ok (w : World) (s : Sta) (a1 : Option Addr) (c1 : Nat) (a2 : Option Addr) (c2 : Nat) (c : Int) (hr1 : Rd w (.slice a1 s.ents.length c1) 7 (s.ents.map cec)) (hr2 : Rd w (.slice a2 s.ticks.length c2) 2 (s.ticks.map lsc)) : Calls Try.prog 75 #[.agg ((vc s.known) ++ [(.slice a1 s.ents.length c1 : Value), (.slice a2 s.ticks.length c2 : Value) ]).toArray, .int .u16 c] w (fun e w' => e = .returned (.tuple #[.int .u32 ((tickP s.ticks c).getD 0), .bool (tickP s.ticks c).isSome]) ∧ Own w no w' []) := by
  refine calls_of_Wn (n := 28) Try.func75 rfl Try.ntmps75 rfl ?_
  have hs := Own.start w
  have hn2 := hr2.sml
  refine W_seq ?_
  refine W_region ?_
  refine RW_op (L_box (V := .agg ((vc s.known) ++ [(.slice a1 s.ents.length c1 : Value), (.slice a2 s.ticks.length c2 : Value) ]).toArray) (cs := (vc s.known) ++ [(.slice a1 s.ents.length c1 : Value), (.slice a2 s.ticks.length c2 : Value) ]) rfl rfl hs fun b1 w2 hs => ?_)
  refine RW_op (L_assign (V := .int .u32 0) rfl ?_)
  refine RW_op (L_assign (V := .bool false) rfl ?_)
  refine RW_nil ?_
  refine W_seq ?_
  refine W_seq ?_
  refine W_region ?_
  refine RW_op (L_assign (V := .int .i64 0) rfl ?_)
  refine RW_nil ?_
  refine W_block ?_
  refine W_loopI (fun ρ μ ρ' w' => ∃ (ρo : Env) (k : Nat), ρ' = upd (mix [4, 5, 6, 7, 8, 9, 10, 11, 12, 13, 14, 15, 16, 17, 18, 19, 20, 21, 22, 23, 24, 25, 26, 27] ρo ρ) 6 (.int .i64 ((k : Nat) : Int)) ∧ (k ≤ s.ticks.length) ∧ (∀ j : Nat, j < k → decide ((gd s.ticks j).cart = c) = false) ∧ μ = s.ticks.length - k ∧ Own w no w' [blk b1 ((vc s.known) ++ [(.slice a1 s.ents.length c1 : Value), (.slice a2 s.ticks.length c2 : Value) ]) 57]) ?_ ?_
  · exact ⟨_, _, 0, upd_of (mix_of (ds := [4, 5, 6, 7, 8, 9, 10, 11, 12, 13, 14, 15, 16, 17, 18, 19, 20, 21, 22, 23, 24, 25, 26, 27]) (Agr.refl _ _)) rfl, (by omega), (fun j hj => absurd hj (Nat.not_lt_zero j)), rfl, hs⟩
  · rintro μ ρ' w3 ⟨ρo, k, rfl, hk, hno, rfl, hs⟩
    refine W_seq ?_
    refine W_seq ?_
    refine W_region ?_
    refine RW_op (L_move (V := .int .i64 ((k : Nat) : Int)) rfl ?_)
    refine RW_op (L_fieldAddr FA_57_2 rfl ?_)
    refine RW_op (L_ld (V := .slice a2 s.ticks.length c2) S1_55 hs 0 rfl rfl rfl ?_)
    refine RW_op (L_lenR (n := s.ticks.length) UD_55 (Rd.own' hr2 hs) (by simp) rfl ?_)
    refine RW_op (L_lss rfl rfl ?_)
    refine RW_nil ?_
    refine W_cond (t := decide (((k : Nat) : Int) < ((s.ticks.length : Nat) : Int))) rfl (fun c4 => ?_) (fun c4 => ?_)
    ·
      replace c4 := of_decide_eq_true c4
      refine W_skip ?_
      refine W_seq ?_
      refine W_block ?_
      refine W_seq ?_
      refine W_region ?_
      refine RW_op (L_fieldAddr FA_57_2 rfl ?_)
      refine RW_op (L_ld (V := .slice a2 s.ticks.length c2) S1_55 hs 0 rfl rfl rfl ?_)
      refine RW_op (L_move (V := .int .i64 ((k : Nat) : Int)) rfl ?_)
      refine RW_op (L_ixR UD_55 SA_135.1 (Rd.own' hr2 hs) rfl rfl (by omega) (by rw [List.length_map]; omega) ?_)
      refine RW_op (L_fieldAddr FA_135_0 rfl ?_)
      refine RW_op (L_ldR (j := 0) (V := .int .u16 ((gd s.ticks k).cart)) k S1_70 (Rd.own' hr2 hs) (gd_at (by omega)) rfl rfl (by omega) ?_)
      refine RW_op (L_move (V := .int .u16 c) rfl ?_)
      refine RW_op (L_eql rfl rfl ?_)
      refine RW_nil ?_
      refine W_cond (t := decide ((gd s.ticks k).cart = c)) rfl (fun c5 => ?_) (fun c5 => ?_)
      ·
        replace c5 := of_decide_eq_true c5
        refine W_seq ?_
        refine W_region ?_
        refine RW_op (L_fieldAddr FA_57_2 rfl ?_)
        refine RW_op (L_ld (V := .slice a2 s.ticks.length c2) S1_55 hs 0 rfl rfl rfl ?_)
        refine RW_op (L_move (V := .int .i64 ((k : Nat) : Int)) rfl ?_)
        refine RW_op (L_ixR UD_55 SA_135.1 (Rd.own' hr2 hs) rfl rfl (by omega) (by rw [List.length_map]; omega) ?_)
        refine RW_op (L_fieldAddr FA_135_1 rfl ?_)
        refine RW_op (L_ldR (j := 1) (V := .int .u32 ((gd s.ticks k).tick)) k S1_51 (Rd.own' hr2 hs) (gd_at (by omega)) rfl rfl (by omega) ?_)
        refine RW_op (L_assign (V := .int .u32 ((gd s.ticks k).tick)) rfl ?_)
        refine RW_op (L_assign (V := .bool true) rfl ?_)
        refine RW_nil ?_
        refine W_ret ?_
        refine ⟨_, res_two (U := .int .u32 ((gd s.ticks k).tick)) (V := .bool true) Try.results75 rfl rfl, ?_⟩
        refine ⟨congrArg Ending.returned ?_, hs.take 0⟩
        have hX := tickP_at (by omega) hno c5
        rw [hX]; rfl
      ·
        replace c5 := of_decide_eq_false c5
        refine W_skip ?_
        refine W_region ?_
        refine RW_op (L_move (V := .int .i64 ((k : Nat) : Int)) rfl ?_)
        refine RW_op (L_add (a := ((k : Nat) : Int)) (b := 1) (c := ((k + 1 : Nat) : Int)) rfl rfl (nat_i64 (by omega) (by omega)) ?_)
        refine RW_op (L_assign (V := .int .i64 ((k + 1 : Nat) : Int)) rfl ?_)
        refine RW_nil ?_
        refine ⟨_, ?_, _, k + 1, upd_of (mix_of (ds := [4, 5, 6, 7, 8, 9, 10, 11, 12, 13, 14, 15, 16, 17, 18, 19, 20, 21, 22, 23, 24, 25, 26, 27]) (by repeat (first | exact Agr.refl _ _ | refine Agr.upd ?_ rfl | refine Agr.mix ?_ rfl))) rfl, (by omega), (no_step2 hno (decide_eq_false c5)), rfl, hs.take 1⟩
        omega
    ·
      replace c4 := of_decide_eq_false c4
      refine W_exit ?_
      refine W_seq ?_
      refine W_region ?_
      refine RW_op (L_assign (V := .int .u32 0) rfl ?_)
      refine RW_op (L_assign (V := .bool false) rfl ?_)
      refine RW_nil ?_
      refine W_ret ?_
      refine ⟨_, res_two (U := .int .u32 0) (V := .bool false) Try.results75 rfl rfl, ?_⟩
      refine ⟨congrArg Ending.returned ?_, hs.take 0⟩
      have hX := tickP_none (ts := s.ticks) (c := c) fun j hj => hno j (by omega)
      rw [hX]; rfl
set_option maxRecDepth 20000 in
set_option maxHeartbeats 4000000 in
theorem rright_ok (w : World) (s : Sta) (a1 : Option Addr) (c1 : Nat) (a2 : Option Addr) (c2 : Nat) (x : Cen) (hx : CenOk x) (hr1 : Rd w (.slice a1 s.ents.length c1) 7 (s.ents.map cec)) (hr2 : Rd w (.slice a2 s.ticks.length c2) 2 (s.ticks.map lsc)) : Calls Try.prog 91 #[.agg ((vc s.known) ++ [(.slice a1 s.ents.length c1 : Value), (.slice a2 s.ticks.length c2 : Value) ]).toArray, .agg (cec x).toArray] w (fun e w' => e = .returned (.bool (entB s x)) ∧ Own w no w' []) := by
  refine calls_of_Wn (n := 36) Try.func91 rfl Try.ntmps91 rfl ?_
  have hs := Own.start w
  have hdx := hx.2.2.2.2.1
  refine W_seq ?_
  refine W_region ?_
  refine RW_op (L_box (V := .agg ((vc s.known) ++ [(.slice a1 s.ents.length c1 : Value), (.slice a2 s.ticks.length c2 : Value) ]).toArray) (cs := (vc s.known) ++ [(.slice a1 s.ents.length c1 : Value), (.slice a2 s.ticks.length c2 : Value) ]) rfl rfl hs fun b1 w2 hs => ?_)
  refine RW_op (L_box (V := .agg (cec x).toArray) (cs := cec x) rfl rfl hs fun b3 w4 hs => ?_)
  refine RW_op (L_assign (V := .bool false) rfl ?_)
  refine RW_nil ?_
  refine W_seq ?_
  refine W_region ?_
  refine RW_op (L_ldW (cs := (vc s.known) ++ [(.slice a1 s.ents.length c1 : Value), (.slice a2 s.ticks.length c2 : Value) ]) SA_57 hs 0 rfl rfl rfl ?_)
  refine RW_op (L_fieldAddr FA_134_0 rfl ?_)
  refine RW_op (L_ld (V := .int .u16 x.cart) S1_70 hs 1 rfl rfl rfl ?_)
  refine RW_op (L_callP (vs := [.agg ((vc s.known) ++ [(.slice a1 s.ents.length c1 : Value), (.slice a2 s.ticks.length c2 : Value) ]).toArray, .int .u16 x.cart]) (V := .tuple #[.int .u32 ((tickP s.ticks x.cart).getD 0), .bool ((tickP s.ticks x.cart).isSome)]) EN_75 rfl rfl ?hc hs fun w5 hs => ?_)
  case hc => exact (rtick_ok _ s a1 c1 a2 c2 x.cart (Rd.own' hr1 hs) (Rd.own' hr2 hs))
  refine RW_op (L_move (V := .tuple #[.int .u32 ((tickP s.ticks x.cart).getD 0), .bool ((tickP s.ticks x.cart).isSome)]) rfl ?_)
  refine RW_op (L_extract (V := .int .u32 ((tickP s.ticks x.cart).getD 0)) rfl rfl ?_)
  refine RW_op (L_extract (V := .bool ((tickP s.ticks x.cart).isSome)) rfl rfl ?_)
  refine RW_op (L_assign (V := .int .u32 ((tickP s.ticks x.cart).getD 0)) rfl ?_)
  refine RW_op (L_assign (V := .bool ((tickP s.ticks x.cart).isSome)) rfl ?_)
  refine RW_nil ?_
  refine W_seq ?_
  refine W_regO [some 14, some 15, some 16, some 17, some 18, some 19, some 20, some 21, some 22, some 23, some 24, some 25, some 26, some 27, some 28, some 29, some 30, some 31, some 32, some 33, some 34, some 35, some 4] [] [0, 1, 3, 7, 15, 31, 63, 127, 63, 319, 1023, 2047, 4095, 8191, 16383, 32767, 65535, 131071, 262143, 524287, 1048575, 2097151, 4194303] [pv (.bool ((tickP s.ticks x.cart).isSome)), pv (.bool ((tickP s.ticks x.cart).isSome)), pg (((tickP s.ticks x.cart).isSome) == true) (.agg (cec x).toArray), pg (((tickP s.ticks x.cart).isSome) == true) (.bool (shapedB x)), pv (.bool (((tickP s.ticks x.cart).isSome) && (shapedB x))), pv (.bool (((tickP s.ticks x.cart).isSome) && (shapedB x))), pg ((((tickP s.ticks x.cart).isSome) && (shapedB x)) == true) (.pointer (some ⟨b1, 0 + 0, none⟩)), pg ((((tickP s.ticks x.cart).isSome) && (shapedB x)) == true) (.agg (vc s.known).toArray), pg ((((tickP s.ticks x.cart).isSome) && (shapedB x)) == true) (.pointer (some ⟨b3, 0 + 4, none⟩)), pg ((((tickP s.ticks x.cart).isSome) && (shapedB x)) == true) (.agg (dc x.dot).toArray), pg ((((tickP s.ticks x.cart).isSome) && (shapedB x)) == true) (.bool (hasB s.known x.dot)), pv (.bool ((((tickP s.ticks x.cart).isSome) && (shapedB x)) && (hasB s.known x.dot))), pv (.bool ((((tickP s.ticks x.cart).isSome) && (shapedB x)) && (hasB s.known x.dot))), pg (((((tickP s.ticks x.cart).isSome) && (shapedB x)) && (hasB s.known x.dot)) == true) (.pointer (some ⟨b3, 0 + 6, none⟩)), pg (((((tickP s.ticks x.cart).isSome) && (shapedB x)) && (hasB s.known x.dot)) == true) (.int .u64 x.count), pg (((((tickP s.ticks x.cart).isSome) && (shapedB x)) && (hasB s.known x.dot)) == true) (.bool (decide (1 ≤ x.count))), pv (.bool (((((tickP s.ticks x.cart).isSome) && (shapedB x)) && (hasB s.known x.dot)) && (decide (1 ≤ x.count)))), pv (.bool (((((tickP s.ticks x.cart).isSome) && (shapedB x)) && (hasB s.known x.dot)) && (decide (1 ≤ x.count)))), pg ((((((tickP s.ticks x.cart).isSome) && (shapedB x)) && (hasB s.known x.dot)) && (decide (1 ≤ x.count))) == true) (.pointer (some ⟨b3, 0 + 6, none⟩)), pg ((((((tickP s.ticks x.cart).isSome) && (shapedB x)) && (hasB s.known x.dot)) && (decide (1 ≤ x.count))) == true) (.int .u64 x.count), pg ((((((tickP s.ticks x.cart).isSome) && (shapedB x)) && (hasB s.known x.dot)) && (decide (1 ≤ x.count))) == true) (.bool (decide (x.count ≤ 16777217))), pv (.bool ((((((tickP s.ticks x.cart).isSome) && (shapedB x)) && (hasB s.known x.dot)) && (decide (1 ≤ x.count))) && (decide (x.count ≤ 16777217)))), pv (.bool ((((((tickP s.ticks x.cart).isSome) && (shapedB x)) && (hasB s.known x.dot)) && (decide (1 ≤ x.count))) && (decide (x.count ≤ 16777217))))] (fun _ _ => _) [22] (by kernel_rfl) hs ⟨?_, ?_, ?_, ?_, ?_, ?_, ?_, ?_, ?_, ?_, ?_, ?_, ?_, ?_, ?_, ?_, ?_, ?_, ?_, ?_, ?_, ?_, ?_, trivial⟩ ?_
  · exact ob [] [] rfl rfl fun D ρ w hs => L_move (V := .bool ((tickP s.ticks x.cart).isSome)) rfl ⟨rfl, hs⟩
  · exact ob [0] [] rfl rfl fun D ρ w hs => L_move (V := .bool ((tickP s.ticks x.cart).isSome)) rfl ⟨rfl, hs⟩
  · exact obg [1] [] ((tickP s.ticks x.cart).isSome) rfl (fun _ => rfl) rfl (fun _ _ _ _ h => h) fun D ρ w hG hs => L_ldW (cs := cec x) SA_134 hs 1 rfl rfl rfl ⟨rfl, hs⟩
  · exact obgy [1, 2] [] [2] ((tickP s.ticks x.cart).isSome) rfl (fun _ => rfl) rfl (fun _ _ _ _ h => h) (fun hG => ⟨hG, trivial⟩) fun D ρ w hG hs => L_callP (vs := [.agg (cec x).toArray]) (V := .bool (shapedB x)) EN_122 rfl rfl (rShaped_ok _ x hx) hs fun _ hs => ⟨rfl, hs⟩
  · exact ob [1, 3] [] rfl rfl fun D ρ w hs => L_andC (h' := shapedB x) rfl rfl rfl ⟨rfl, hs⟩
  · exact ob [4] [] rfl rfl fun D ρ w hs => L_move (V := .bool (((tickP s.ticks x.cart).isSome) && (shapedB x))) rfl ⟨rfl, hs⟩
  · exact obg [5] [] (((tickP s.ticks x.cart).isSome) && (shapedB x)) rfl (fun _ => rfl) rfl (fun _ _ _ _ h => h) fun D ρ w hG hs => L_fieldAddr FA_57_0 rfl ⟨rfl, hs⟩
  · exact obgy [5, 6] [] [6] (((tickP s.ticks x.cart).isSome) && (shapedB x)) rfl (fun _ => rfl) rfl (fun _ _ _ _ h => h) (fun hG => ⟨hG, trivial⟩) fun D ρ w hG hs => L_ldA (vs := vc s.known) SA_53 hs 0 rfl rfl rfl rfl ⟨rfl, hs⟩
  · exact obg [5] [] (((tickP s.ticks x.cart).isSome) && (shapedB x)) rfl (fun _ => rfl) rfl (fun _ _ _ _ h => h) fun D ρ w hG hs => L_fieldAddr FA_134_4 rfl ⟨rfl, hs⟩
  · exact obgy [5, 8] [] [8] (((tickP s.ticks x.cart).isSome) && (shapedB x)) rfl (fun _ => rfl) rfl (fun _ _ _ _ h => h) (fun hG => ⟨hG, trivial⟩) fun D ρ w hG hs => L_ldA (vs := dc x.dot) SA_96 hs 1 rfl rfl rfl rfl ⟨rfl, hs⟩
  · exact obgy [5, 7, 9] [] [7, 9] (((tickP s.ticks x.cart).isSome) && (shapedB x)) rfl (fun _ => rfl) rfl (fun _ _ _ _ h => h) (fun hG => ⟨hG, hG, trivial⟩) fun D ρ w hG hs => L_callP (vs := [.agg (vc s.known).toArray, .agg (dc x.dot).toArray]) (V := .bool (hasB s.known x.dot)) EN_67 rfl rfl (rHas_ok _ s.known x.dot (by first | assumption | exact dotOk_mk (by omega) (by omega) (by omega) (by omega))) hs fun _ hs => ⟨rfl, hs⟩
  · exact ob [5, 10] [] rfl rfl fun D ρ w hs => L_andC (h' := hasB s.known x.dot) rfl rfl rfl ⟨rfl, hs⟩
  · exact ob [11] [] rfl rfl fun D ρ w hs => L_move (V := .bool ((((tickP s.ticks x.cart).isSome) && (shapedB x)) && (hasB s.known x.dot))) rfl ⟨rfl, hs⟩
  · exact obg [12] [] ((((tickP s.ticks x.cart).isSome) && (shapedB x)) && (hasB s.known x.dot)) rfl (fun _ => rfl) rfl (fun _ _ _ _ h => h) fun D ρ w hG hs => L_fieldAddr FA_134_5 rfl ⟨rfl, hs⟩
  · exact obgy [12, 13] [] [13] ((((tickP s.ticks x.cart).isSome) && (shapedB x)) && (hasB s.known x.dot)) rfl (fun _ => rfl) rfl (fun _ _ _ _ h => h) (fun hG => ⟨hG, trivial⟩) fun D ρ w hG hs => L_ld (V := .int .u64 x.count) S1_92 hs 1 rfl rfl rfl ⟨rfl, hs⟩
  · exact obgy [12, 14] [] [14] ((((tickP s.ticks x.cart).isSome) && (shapedB x)) && (hasB s.known x.dot)) rfl (fun _ => rfl) rfl (fun _ _ _ _ h => h) (fun hG => ⟨hG, trivial⟩) fun D ρ w hG hs => L_geq rfl rfl ⟨rfl, hs⟩
  · exact ob [12, 15] [] rfl rfl fun D ρ w hs => L_andC (h' := decide (1 ≤ x.count)) rfl rfl rfl ⟨rfl, hs⟩
  · exact ob [16] [] rfl rfl fun D ρ w hs => L_move (V := .bool (((((tickP s.ticks x.cart).isSome) && (shapedB x)) && (hasB s.known x.dot)) && (decide (1 ≤ x.count)))) rfl ⟨rfl, hs⟩
  · exact obg [17] [] (((((tickP s.ticks x.cart).isSome) && (shapedB x)) && (hasB s.known x.dot)) && (decide (1 ≤ x.count))) rfl (fun _ => rfl) rfl (fun _ _ _ _ h => h) fun D ρ w hG hs => L_fieldAddr FA_134_5 rfl ⟨rfl, hs⟩
  · exact obgy [17, 18] [] [18] (((((tickP s.ticks x.cart).isSome) && (shapedB x)) && (hasB s.known x.dot)) && (decide (1 ≤ x.count))) rfl (fun _ => rfl) rfl (fun _ _ _ _ h => h) (fun hG => ⟨hG, trivial⟩) fun D ρ w hG hs => L_ld (V := .int .u64 x.count) S1_92 hs 1 rfl rfl rfl ⟨rfl, hs⟩
  · exact obgy [17, 19] [] [19] (((((tickP s.ticks x.cart).isSome) && (shapedB x)) && (hasB s.known x.dot)) && (decide (1 ≤ x.count))) rfl (fun _ => rfl) rfl (fun _ _ _ _ h => h) (fun hG => ⟨hG, trivial⟩) fun D ρ w hG hs => L_leq rfl rfl ⟨rfl, hs⟩
  · exact ob [17, 20] [] rfl rfl fun D ρ w hs => L_andC (h' := decide (x.count ≤ 16777217)) rfl rfl rfl ⟨rfl, hs⟩
  · exact ob [21] [] rfl rfl fun D ρ w hs => L_assign (V := .bool ((((((tickP s.ticks x.cart).isSome) && (shapedB x)) && (hasB s.known x.dot)) && (decide (1 ≤ x.count))) && (decide (x.count ≤ 16777217)))) rfl ⟨rfl, hs⟩
  rintro ρ1 w8 ρ2 hρ hs
  replace hρ : ρ2 = upd (mix [14, 15, 16, 17, 18, 19, 20, 21, 22, 23, 24, 25, 26, 27, 28, 29, 30, 31, 32, 33, 34, 35, 4] ρ1 _) 4 (.bool ((((((tickP s.ticks x.cart).isSome) && (shapedB x)) && (hasB s.known x.dot)) && (decide (1 ≤ x.count))) && (decide (x.count ≤ 16777217)))) := hρ
  subst hρ
  refine W_ret ?_
  refine ⟨_, res_one (V := .bool ((((((tickP s.ticks x.cart).isSome) && (shapedB x)) && (hasB s.known x.dot)) && (decide (1 ≤ x.count))) && (decide (x.count ≤ 16777217)))) Try.results91 rfl, ?_⟩
  refine ⟨congrArg Ending.returned ?_, hs.take 0⟩
  rfl
set_option maxRecDepth 20000 in
set_option maxHeartbeats 4000000 in
theorem rRight8_ok (w : World) (s : Sta) (a1 : Option Addr) (c1 : Nat) (a2 : Option Addr) (c2 : Nat) (hok : StaOk s) (hr1 : Rd w (.slice a1 s.ents.length c1) 7 (s.ents.map cec)) (hr2 : Rd w (.slice a2 s.ticks.length c2) 2 (s.ticks.map lsc)) : Calls Try.prog 46 #[.agg ((vc s.known) ++ [(.slice a1 s.ents.length c1 : Value), (.slice a2 s.ticks.length c2 : Value) ]).toArray] w (fun e w' => e = .returned (.bool (rightS s)) ∧ Own w no w' []) := by
  refine calls_of_Wn (n := 95) Try.func46 rfl Try.ntmps46 rfl ?_
  have hs := Own.start w
  have ⟨hv0, hE0, hT0⟩ := hok
  have hn1 := hr1.sml
  have hn2 := hr2.sml
  refine W_seq ?_
  refine W_region ?_
  refine RW_op (L_box (V := .agg ((vc s.known) ++ [(.slice a1 s.ents.length c1 : Value), (.slice a2 s.ticks.length c2 : Value) ]).toArray) (cs := (vc s.known) ++ [(.slice a1 s.ents.length c1 : Value), (.slice a2 s.ticks.length c2 : Value) ]) rfl rfl hs fun b1 w2 hs => ?_)
  refine RW_op (L_assign (V := .bool false) rfl ?_)
  refine RW_nil ?_
  refine W_seq ?_
  refine W_seq ?_
  refine W_region ?_
  refine RW_op (L_assign (V := .int .i64 0) rfl ?_)
  refine RW_nil ?_
  refine W_block ?_
  refine W_loopI (fun ρ μ ρ' w' => ∃ (ρo : Env) (k : Nat), ρ' = upd (mix [2, 3, 6, 7, 8, 9, 10, 11, 12, 13, 14, 15, 16, 17, 18, 19, 20, 21, 22, 23, 24, 25, 26, 27, 28, 29, 30, 31, 32, 33, 34, 35, 36, 37, 38, 39] ρo ρ) 3 (.int .i64 ((k : Nat) : Int)) ∧ (k ≤ s.ticks.length) ∧ (∀ j : Nat, j < k → badT s.ticks j = false) ∧ μ = s.ticks.length - k ∧ Own w no w' [blk b1 ((vc s.known) ++ [(.slice a1 s.ents.length c1 : Value), (.slice a2 s.ticks.length c2 : Value) ]) 57]) ?_ ?_
  · exact ⟨_, _, 0, upd_of (mix_of (ds := [2, 3, 6, 7, 8, 9, 10, 11, 12, 13, 14, 15, 16, 17, 18, 19, 20, 21, 22, 23, 24, 25, 26, 27, 28, 29, 30, 31, 32, 33, 34, 35, 36, 37, 38, 39]) (Agr.refl _ _)) rfl, (by omega), (fun j hj => absurd hj (Nat.not_lt_zero j)), rfl, hs⟩
  · rintro μ ρ' w3 ⟨ρo, k, rfl, hk, hbt, rfl, hs⟩
    refine W_seq ?_
    refine W_seq ?_
    refine W_region ?_
    refine RW_op (L_move (V := .int .i64 ((k : Nat) : Int)) rfl ?_)
    refine RW_op (L_fieldAddr FA_57_2 rfl ?_)
    refine RW_op (L_ld (V := .slice a2 s.ticks.length c2) S1_55 hs 0 rfl rfl rfl ?_)
    refine RW_op (L_lenR (n := s.ticks.length) UD_55 (Rd.own' hr2 hs) (by simp) rfl ?_)
    refine RW_op (L_lss rfl rfl ?_)
    refine RW_nil ?_
    refine W_cond (t := decide (((k : Nat) : Int) < ((s.ticks.length : Nat) : Int))) rfl (fun c4 => ?_) (fun c4 => ?_)
    ·
      replace c4 := of_decide_eq_true c4
      refine W_skip ?_
      refine W_seq ?_
      refine W_block ?_
      refine W_seq ?_
      refine W_regD HM [some 13, some 14, some 15, some 16, some 17, some 18, some 19, some 20, some 21, some 22, some 23, some 24, some 25, some 26, some 27, some 28, some 29, some 30, some 31, some 32, some 33, some 34, some 35, some 36, some 37, some 38, some 39] [] [0, 1, 0, 7, 15, 31, 63, 127, 255, 511, 1023, 2047, 4095, 2047, 10239, 32767, 65535, 131071, 2047, 264191, 2047, 1837055, 3934207, 8128511, 16777215, 33554431, 67108863] [pv (.pointer (some ⟨b1, 0 + 17, none⟩)), pv (.slice a2 s.ticks.length c2), pv (.int .i64 ((k : Nat) : Int)), pv (.pointer (some ⟨bkS (.slice a2 s.ticks.length c2), ofS (.slice a2 s.ticks.length c2) + ((k : Nat) : Int).toNat * 2, none⟩)), pv (.pointer (some ⟨bkS (.slice a2 s.ticks.length c2), ofS (.slice a2 s.ticks.length c2) + ((k : Nat) : Int).toNat * 2 + 1, none⟩)), pv (.int .u32 ((gd s.ticks k).tick)), pv (.bool (decide (1073741824 < (gd s.ticks k).tick))), pv (.bool (decide (1073741824 < (gd s.ticks k).tick))), pg ((decide (1073741824 < (gd s.ticks k).tick)) == false) (.int .i64 ((k : Nat) : Int)), pg ((decide (1073741824 < (gd s.ticks k).tick)) == false) (.bool (decide (0 < ((k : Nat) : Int)))), pg ((decide (1073741824 < (gd s.ticks k).tick)) == false) (.bool (decide (0 < ((k : Nat) : Int)))), pg (((decide (1073741824 < (gd s.ticks k).tick)) == false) && ((decide (0 < ((k : Nat) : Int))) == true)) (.pointer (some ⟨b1, 0 + 17, none⟩)), pg (((decide (1073741824 < (gd s.ticks k).tick)) == false) && ((decide (0 < ((k : Nat) : Int))) == true)) (.slice a2 s.ticks.length c2), pg (((decide (1073741824 < (gd s.ticks k).tick)) == false) && ((decide (0 < ((k : Nat) : Int))) == true)) (.int .i64 ((k : Nat) : Int)), pg (((decide (1073741824 < (gd s.ticks k).tick)) == false) && ((decide (0 < ((k : Nat) : Int))) == true)) (.int .i64 ((k - 1 : Nat) : Int)), pg (((decide (1073741824 < (gd s.ticks k).tick)) == false) && ((decide (0 < ((k : Nat) : Int))) == true)) (.pointer (some ⟨bkS (.slice a2 s.ticks.length c2), ofS (.slice a2 s.ticks.length c2) + ((k - 1 : Nat) : Int).toNat * 2, none⟩)), pg (((decide (1073741824 < (gd s.ticks k).tick)) == false) && ((decide (0 < ((k : Nat) : Int))) == true)) (.pointer (some ⟨bkS (.slice a2 s.ticks.length c2), ofS (.slice a2 s.ticks.length c2) + ((k - 1 : Nat) : Int).toNat * 2 + 0, none⟩)), pg (((decide (1073741824 < (gd s.ticks k).tick)) == false) && ((decide (0 < ((k : Nat) : Int))) == true)) (.int .u16 ((gd s.ticks (k - 1)).cart)), pg (((decide (1073741824 < (gd s.ticks k).tick)) == false) && ((decide (0 < ((k : Nat) : Int))) == true)) (.pointer (some ⟨b1, 0 + 17, none⟩)), pg (((decide (1073741824 < (gd s.ticks k).tick)) == false) && ((decide (0 < ((k : Nat) : Int))) == true)) (.slice a2 s.ticks.length c2), pg (((decide (1073741824 < (gd s.ticks k).tick)) == false) && ((decide (0 < ((k : Nat) : Int))) == true)) (.int .i64 ((k : Nat) : Int)), pg (((decide (1073741824 < (gd s.ticks k).tick)) == false) && ((decide (0 < ((k : Nat) : Int))) == true)) (.pointer (some ⟨bkS (.slice a2 s.ticks.length c2), ofS (.slice a2 s.ticks.length c2) + ((k : Nat) : Int).toNat * 2, none⟩)), pg (((decide (1073741824 < (gd s.ticks k).tick)) == false) && ((decide (0 < ((k : Nat) : Int))) == true)) (.pointer (some ⟨bkS (.slice a2 s.ticks.length c2), ofS (.slice a2 s.ticks.length c2) + ((k : Nat) : Int).toNat * 2 + 0, none⟩)), pg (((decide (1073741824 < (gd s.ticks k).tick)) == false) && ((decide (0 < ((k : Nat) : Int))) == true)) (.int .u16 ((gd s.ticks k).cart)), pg (((decide (1073741824 < (gd s.ticks k).tick)) == false) && ((decide (0 < ((k : Nat) : Int))) == true)) (.bool (decide ((gd s.ticks k).cart ≤ (gd s.ticks (k - 1)).cart))), pg ((decide (1073741824 < (gd s.ticks k).tick)) == false) (.bool ((decide (0 < ((k : Nat) : Int))) && (decide ((gd s.ticks k).cart ≤ (gd s.ticks (k - 1)).cart)))), pv (.bool ((decide (1073741824 < (gd s.ticks k).tick)) || ((decide (0 < ((k : Nat) : Int))) && (decide ((gd s.ticks k).cart ≤ (gd s.ticks (k - 1)).cart)))))] (fun _ _ => _) [26] (by kernel_rfl) hs ⟨?_, ?_, ?_, ?_, ?_, ?_, ?_, ?_, ?_, ?_, ?_, ?_, ?_, ?_, ?_, ?_, ?_, ?_, ?_, ?_, ?_, ?_, ?_, ?_, ?_, ?_, ?_, trivial⟩ ?_
      · exact ob [] [] rfl rfl fun D ρ w hs => L_fieldAddr FA_57_2 rfl ⟨rfl, hs⟩
      · exact ob [0] [] rfl rfl fun D ρ w hs => L_ld (V := .slice a2 s.ticks.length c2) S1_55 hs 0 rfl rfl rfl ⟨rfl, hs⟩
      · exact ob [] [] rfl rfl fun D ρ w hs => L_move (V := .int .i64 ((k : Nat) : Int)) rfl ⟨rfl, hs⟩
      · exact ob [1, 2] [] rfl rfl fun D ρ w hs => L_ixR UD_55 SA_135.1 (Rd.own' hr2 hs) rfl rfl (by omega) (by rw [List.length_map]; omega) ⟨rfl, hs⟩
      · exact ob [3] [] rfl rfl fun D ρ w hs => L_fieldAddr FA_135_1 rfl ⟨rfl, hs⟩
      · exact ob [4] [] rfl rfl fun D ρ w hs => L_ldR (j := 1) (V := .int .u32 ((gd s.ticks k).tick)) k S1_51 (Rd.own' hr2 hs) (gd_at (by omega)) rfl rfl (by omega) ⟨rfl, hs⟩
      · exact ob [5] [] rfl rfl fun D ρ w hs => L_gtr rfl rfl ⟨rfl, hs⟩
      · exact ob [6] [] rfl rfl fun D ρ w hs => L_move (V := .bool (decide (1073741824 < (gd s.ticks k).tick))) rfl ⟨rfl, hs⟩
      · exact obg [7] [] (decide (1073741824 < (gd s.ticks k).tick)) rfl (fun _ => rfl) rfl (fun _ _ _ _ h => h) fun D ρ w hG hs => L_move (V := .int .i64 ((k : Nat) : Int)) rfl ⟨rfl, hs⟩
      · exact obgy [7, 8] [] [8] (decide (1073741824 < (gd s.ticks k).tick)) rfl (fun _ => rfl) rfl (fun _ _ _ _ h => h) (fun hG => ⟨hG, trivial⟩) fun D ρ w hG hs => L_gtr rfl rfl ⟨rfl, hs⟩
      · exact obgy [7, 9] [] [9] (decide (1073741824 < (gd s.ticks k).tick)) rfl (fun _ => rfl) rfl (fun _ _ _ _ h => h) (fun hG => ⟨hG, trivial⟩) fun D ρ w hG hs => L_move (V := .bool (decide (0 < ((k : Nat) : Int)))) rfl ⟨rfl, hs⟩
      · exact obg [10] [] (decide (0 < ((k : Nat) : Int))) rfl (fun _ => rfl) rfl (fun _ _ _ _ h => h) fun D ρ w hG hs => L_fieldAddr FA_57_2 rfl ⟨rfl, hs⟩
      · exact obgy [10, 11] [] [11] (decide (0 < ((k : Nat) : Int))) rfl (fun _ => rfl) rfl (fun _ _ _ _ h => h) (fun hG => ⟨hG, trivial⟩) fun D ρ w hG hs => L_ld (V := .slice a2 s.ticks.length c2) S1_55 hs 0 rfl rfl rfl ⟨rfl, hs⟩
      · exact obg [10] [] (decide (0 < ((k : Nat) : Int))) rfl (fun _ => rfl) rfl (fun _ _ _ _ h => h) fun D ρ w hG hs => L_move (V := .int .i64 ((k : Nat) : Int)) rfl ⟨rfl, hs⟩
      · refine obgy [10, 13] [] [13] (decide (0 < ((k : Nat) : Int))) rfl (fun _ => rfl) rfl (fun _ _ _ _ h => h) (fun hG => ⟨hG, trivial⟩) fun D ρ w hG hs => ?_
        have hgd0 := of_decide_eq_false (eq_of_beq (and_l (hG)))
        have hgd1 := of_decide_eq_true (eq_of_beq (and_r (hG)))
        exact L_sub (a := ((k : Nat) : Int)) (b := 1) (c := ((k - 1 : Nat) : Int)) rfl rfl (nat_i64 (by omega) (by omega)) ⟨rfl, hs⟩
      · refine obgy [10, 12, 14] [] [12, 14] (decide (0 < ((k : Nat) : Int))) rfl (fun _ => rfl) rfl (fun _ _ _ _ h => h) (fun hG => ⟨hG, hG, trivial⟩) fun D ρ w hG hs => ?_
        have hgd0 := of_decide_eq_false (eq_of_beq (and_l (hG)))
        have hgd1 := of_decide_eq_true (eq_of_beq (and_r (hG)))
        exact L_ixR UD_55 SA_135.1 (Rd.own' hr2 hs) rfl rfl (by omega) (by rw [List.length_map]; omega) ⟨rfl, hs⟩
      · exact obgy [10, 15] [] [15] (decide (0 < ((k : Nat) : Int))) rfl (fun _ => rfl) rfl (fun _ _ _ _ h => h) (fun hG => ⟨hG, trivial⟩) fun D ρ w hG hs => L_fieldAddr FA_135_0 rfl ⟨rfl, hs⟩
      · refine obgy [10, 16] [] [16] (decide (0 < ((k : Nat) : Int))) rfl (fun _ => rfl) rfl (fun _ _ _ _ h => h) (fun hG => ⟨hG, trivial⟩) fun D ρ w hG hs => ?_
        have hgd0 := of_decide_eq_false (eq_of_beq (and_l (hG)))
        have hgd1 := of_decide_eq_true (eq_of_beq (and_r (hG)))
        exact L_ldR (j := 0) (V := .int .u16 ((gd s.ticks (k - 1)).cart)) (k - 1) S1_70 (Rd.own' hr2 hs) (gd_at (by omega)) rfl rfl (by omega) ⟨rfl, hs⟩
      · exact obg [10] [] (decide (0 < ((k : Nat) : Int))) rfl (fun _ => rfl) rfl (fun _ _ _ _ h => h) fun D ρ w hG hs => L_fieldAddr FA_57_2 rfl ⟨rfl, hs⟩
      · exact obgy [10, 18] [] [18] (decide (0 < ((k : Nat) : Int))) rfl (fun _ => rfl) rfl (fun _ _ _ _ h => h) (fun hG => ⟨hG, trivial⟩) fun D ρ w hG hs => L_ld (V := .slice a2 s.ticks.length c2) S1_55 hs 0 rfl rfl rfl ⟨rfl, hs⟩
      · exact obg [10] [] (decide (0 < ((k : Nat) : Int))) rfl (fun _ => rfl) rfl (fun _ _ _ _ h => h) fun D ρ w hG hs => L_move (V := .int .i64 ((k : Nat) : Int)) rfl ⟨rfl, hs⟩
      · refine obgy [10, 19, 20] [] [19, 20] (decide (0 < ((k : Nat) : Int))) rfl (fun _ => rfl) rfl (fun _ _ _ _ h => h) (fun hG => ⟨hG, hG, trivial⟩) fun D ρ w hG hs => ?_
        have hgd0 := of_decide_eq_false (eq_of_beq (and_l (hG)))
        have hgd1 := of_decide_eq_true (eq_of_beq (and_r (hG)))
        exact L_ixR UD_55 SA_135.1 (Rd.own' hr2 hs) rfl rfl (by omega) (by rw [List.length_map]; omega) ⟨rfl, hs⟩
      · exact obgy [10, 21] [] [21] (decide (0 < ((k : Nat) : Int))) rfl (fun _ => rfl) rfl (fun _ _ _ _ h => h) (fun hG => ⟨hG, trivial⟩) fun D ρ w hG hs => L_fieldAddr FA_135_0 rfl ⟨rfl, hs⟩
      · refine obgy [10, 22] [] [22] (decide (0 < ((k : Nat) : Int))) rfl (fun _ => rfl) rfl (fun _ _ _ _ h => h) (fun hG => ⟨hG, trivial⟩) fun D ρ w hG hs => ?_
        have hgd0 := of_decide_eq_false (eq_of_beq (and_l (hG)))
        have hgd1 := of_decide_eq_true (eq_of_beq (and_r (hG)))
        exact L_ldR (j := 0) (V := .int .u16 ((gd s.ticks k).cart)) k S1_70 (Rd.own' hr2 hs) (gd_at (by omega)) rfl rfl (by omega) ⟨rfl, hs⟩
      · exact obgy [10, 17, 23] [] [17, 23] (decide (0 < ((k : Nat) : Int))) rfl (fun _ => rfl) rfl (fun _ _ _ _ h => h) (fun hG => ⟨hG, hG, trivial⟩) fun D ρ w hG hs => L_geq rfl rfl ⟨rfl, hs⟩
      · exact obgy [7, 10, 24] [] [10] (decide (1073741824 < (gd s.ticks k).tick)) rfl (fun _ => rfl) rfl (fun _ _ _ _ h => h) (fun hG => ⟨hG, trivial⟩) fun D ρ w hG hs => L_andN (h' := decide ((gd s.ticks k).cart ≤ (gd s.ticks (k - 1)).cart)) (G := ((decide (1073741824 < (gd s.ticks k).tick)) == false)) hG rfl rfl rfl ⟨rfl, hs⟩
      · exact ob [7, 25] [] rfl rfl fun D ρ w hs => L_orC (h' := (decide (0 < ((k : Nat) : Int))) && (decide ((gd s.ticks k).cart ≤ (gd s.ticks (k - 1)).cart))) rfl rfl rfl ⟨rfl, hs⟩
      rintro ρ1 w5 ρ2 hρ hs
      replace hρ : ρ2 = upd (mix [13, 14, 15, 16, 17, 18, 19, 20, 21, 22, 23, 24, 25, 26, 27, 28, 29, 30, 31, 32, 33, 34, 35, 36, 37, 38, 39] ρ1 _) 39 (.bool ((decide (1073741824 < (gd s.ticks k).tick)) || ((decide (0 < ((k : Nat) : Int))) && (decide ((gd s.ticks k).cart ≤ (gd s.ticks (k - 1)).cart))))) := hρ
      subst hρ
      refine W_cond (t := (decide (1073741824 < (gd s.ticks k).tick)) || ((decide (0 < ((k : Nat) : Int))) && (decide ((gd s.ticks k).cart ≤ (gd s.ticks (k - 1)).cart)))) rfl (fun c6 => ?_) (fun c6 => ?_)
      ·
        refine W_seq ?_
        refine W_region ?_
        refine RW_op (L_assign (V := .bool false) rfl ?_)
        refine RW_nil ?_
        refine W_ret ?_
        refine ⟨_, res_one (V := .bool false) Try.results46 rfl, ?_⟩
        refine ⟨congrArg Ending.returned ?_, hs.take 0⟩
        exact congrArg Value.bool (right_badT (i := k) (by omega) (by unfold badT; have hq := c6; simpa using hq)).symm
      ·
        have c6r := or_r c6
        replace c6 := or_l c6
        replace c6 := of_decide_eq_false c6
        refine W_skip ?_
        refine W_region ?_
        refine RW_op (L_move (V := .int .i64 ((k : Nat) : Int)) rfl ?_)
        refine RW_op (L_add (a := ((k : Nat) : Int)) (b := 1) (c := ((k + 1 : Nat) : Int)) rfl rfl (nat_i64 (by omega) (by omega)) ?_)
        refine RW_op (L_assign (V := .int .i64 ((k + 1 : Nat) : Int)) rfl ?_)
        refine RW_nil ?_
        refine ⟨_, ?_, _, k + 1, upd_of (mix_of (ds := [2, 3, 6, 7, 8, 9, 10, 11, 12, 13, 14, 15, 16, 17, 18, 19, 20, 21, 22, 23, 24, 25, 26, 27, 28, 29, 30, 31, 32, 33, 34, 35, 36, 37, 38, 39]) (by repeat (first | exact Agr.refl _ _ | refine Agr.upd ?_ rfl | refine Agr.mix ?_ rfl))) rfl, (by omega), (no_step2 hbt (by unfold badT; rw [decide_eq_false c6, Bool.false_or]; have hq := c6r; simpa using hq)), rfl, hs.take 1⟩
        omega
    ·
      replace c4 := of_decide_eq_false c4
      refine W_exit ?_
      refine W_seq ?_
      refine W_seq ?_
      refine W_region ?_
      refine RW_op (L_assign (V := .int .i64 0) rfl ?_)
      refine RW_nil ?_
      refine W_block ?_
      refine W_loopI (fun ρ μ ρ' w' => ∃ (ρo : Env) (k2 : Nat), ρ' = upd (mix [2, 4, 5, 40, 41, 42, 43, 44, 45, 46, 47, 48, 49, 50, 51, 52, 53, 54, 55, 56, 57, 58, 59, 60, 61, 62, 63, 64, 65, 66, 67, 68, 69, 70, 71, 72, 73, 74, 75, 76, 77, 78, 79, 80, 81, 82, 83, 84, 85, 86, 87, 88, 89, 90, 91] ρo ρ) 4 (.int .i64 ((k2 : Nat) : Int)) ∧ (k2 ≤ s.ents.length) ∧ (∀ j : Nat, j < k2 → badE s j = false) ∧ μ = s.ents.length - k2 ∧ Own w no w' [blk b1 ((vc s.known) ++ [(.slice a1 s.ents.length c1 : Value), (.slice a2 s.ticks.length c2 : Value) ]) 57]) ?_ ?_
      · exact ⟨_, _, 0, upd_of (mix_of (ds := [2, 4, 5, 40, 41, 42, 43, 44, 45, 46, 47, 48, 49, 50, 51, 52, 53, 54, 55, 56, 57, 58, 59, 60, 61, 62, 63, 64, 65, 66, 67, 68, 69, 70, 71, 72, 73, 74, 75, 76, 77, 78, 79, 80, 81, 82, 83, 84, 85, 86, 87, 88, 89, 90, 91]) (Agr.refl _ _)) rfl, (by omega), (fun j hj => absurd hj (Nat.not_lt_zero j)), rfl, hs⟩
      · rintro μ ρ' w7 ⟨ρo, k2, rfl, hk2, hbe, rfl, hs⟩
        refine W_seq ?_
        refine W_seq ?_
        refine W_region ?_
        refine RW_op (L_move (V := .int .i64 ((k2 : Nat) : Int)) rfl ?_)
        refine RW_op (L_fieldAddr FA_57_1 rfl ?_)
        refine RW_op (L_ld (V := .slice a1 s.ents.length c1) S1_54 hs 0 rfl rfl rfl ?_)
        refine RW_op (L_lenR (n := s.ents.length) UD_54 (Rd.own' hr1 hs) (by simp) rfl ?_)
        refine RW_op (L_lss rfl rfl ?_)
        refine RW_nil ?_
        refine W_cond (t := decide (((k2 : Nat) : Int) < ((s.ents.length : Nat) : Int))) rfl (fun c8 => ?_) (fun c8 => ?_)
        ·
          replace c8 := of_decide_eq_true c8
          refine W_skip ?_
          refine W_seq ?_
          refine W_block ?_
          refine W_seq ?_
          refine W_seq ?_
          refine W_regD HM [some 47, some 48, some 49, some 50, some 51, some 52, some 53, some 54, some 55, some 56, some 57, some 58, some 59, some 60, some 61, some 62, some 63, some 64, some 65, some 66, some 67, some 68, some 69, some 70, some 71, some 72, some 73] [] [0, 0, 2, 0, 14, 30, 63, 127, 255, 511, 1023, 2047, 4095, 8191, 4095, 20479, 65535, 131071, 4095, 266239, 4095, 1839103, 3936255, 8388607, 16777215, 33554431, 67108863] [pv (.agg ((vc s.known) ++ [(.slice a1 s.ents.length c1 : Value), (.slice a2 s.ticks.length c2 : Value) ]).toArray), pv (.pointer (some ⟨b1, 0 + 16, none⟩)), pv (.slice a1 s.ents.length c1), pv (.int .i64 ((k2 : Nat) : Int)), pv (.pointer (some ⟨bkS (.slice a1 s.ents.length c1), ofS (.slice a1 s.ents.length c1) + ((k2 : Nat) : Int).toNat * 7, none⟩)), pv (.agg (cec (gd s.ents k2)).toArray), pv (.bool (entB s (gd s.ents k2))), pv (.bool (!(entB s (gd s.ents k2)))), pv (.bool (!(entB s (gd s.ents k2)))), pg ((!(entB s (gd s.ents k2))) == false) (.int .i64 ((k2 : Nat) : Int)), pg ((!(entB s (gd s.ents k2))) == false) (.bool (decide (0 < ((k2 : Nat) : Int)))), pg ((!(entB s (gd s.ents k2))) == false) (.bool (decide (0 < ((k2 : Nat) : Int)))), pg (((!(entB s (gd s.ents k2))) == false) && ((decide (0 < ((k2 : Nat) : Int))) == true)) (.pointer (some ⟨b1, 0 + 16, none⟩)), pg (((!(entB s (gd s.ents k2))) == false) && ((decide (0 < ((k2 : Nat) : Int))) == true)) (.slice a1 s.ents.length c1), pg (((!(entB s (gd s.ents k2))) == false) && ((decide (0 < ((k2 : Nat) : Int))) == true)) (.int .i64 ((k2 : Nat) : Int)), pg (((!(entB s (gd s.ents k2))) == false) && ((decide (0 < ((k2 : Nat) : Int))) == true)) (.int .i64 ((k2 - 1 : Nat) : Int)), pg (((!(entB s (gd s.ents k2))) == false) && ((decide (0 < ((k2 : Nat) : Int))) == true)) (.pointer (some ⟨bkS (.slice a1 s.ents.length c1), ofS (.slice a1 s.ents.length c1) + ((k2 - 1 : Nat) : Int).toNat * 7, none⟩)), pg (((!(entB s (gd s.ents k2))) == false) && ((decide (0 < ((k2 : Nat) : Int))) == true)) (.agg (cec (gd s.ents (k2 - 1))).toArray), pg (((!(entB s (gd s.ents k2))) == false) && ((decide (0 < ((k2 : Nat) : Int))) == true)) (.pointer (some ⟨b1, 0 + 16, none⟩)), pg (((!(entB s (gd s.ents k2))) == false) && ((decide (0 < ((k2 : Nat) : Int))) == true)) (.slice a1 s.ents.length c1), pg (((!(entB s (gd s.ents k2))) == false) && ((decide (0 < ((k2 : Nat) : Int))) == true)) (.int .i64 ((k2 : Nat) : Int)), pg (((!(entB s (gd s.ents k2))) == false) && ((decide (0 < ((k2 : Nat) : Int))) == true)) (.pointer (some ⟨bkS (.slice a1 s.ents.length c1), ofS (.slice a1 s.ents.length c1) + ((k2 : Nat) : Int).toNat * 7, none⟩)), pg (((!(entB s (gd s.ents k2))) == false) && ((decide (0 < ((k2 : Nat) : Int))) == true)) (.agg (cec (gd s.ents k2)).toArray), pg (((!(entB s (gd s.ents k2))) == false) && ((decide (0 < ((k2 : Nat) : Int))) == true)) (.bool (aheadB (gd s.ents (k2 - 1)) (gd s.ents k2))), pg (((!(entB s (gd s.ents k2))) == false) && ((decide (0 < ((k2 : Nat) : Int))) == true)) (.bool (!(aheadB (gd s.ents (k2 - 1)) (gd s.ents k2)))), pg ((!(entB s (gd s.ents k2))) == false) (.bool ((decide (0 < ((k2 : Nat) : Int))) && (!(aheadB (gd s.ents (k2 - 1)) (gd s.ents k2))))), pv (.bool ((!(entB s (gd s.ents k2))) || ((decide (0 < ((k2 : Nat) : Int))) && (!(aheadB (gd s.ents (k2 - 1)) (gd s.ents k2))))))] (fun _ _ => _) [26] (by kernel_rfl) hs ⟨?_, ?_, ?_, ?_, ?_, ?_, ?_, ?_, ?_, ?_, ?_, ?_, ?_, ?_, ?_, ?_, ?_, ?_, ?_, ?_, ?_, ?_, ?_, ?_, ?_, ?_, ?_, trivial⟩ ?_
          · exact ob [] [] rfl rfl fun D ρ w hs => L_ldW (cs := (vc s.known) ++ [(.slice a1 s.ents.length c1 : Value), (.slice a2 s.ticks.length c2 : Value) ]) SA_57 hs 0 rfl rfl rfl ⟨rfl, hs⟩
          · exact ob [] [] rfl rfl fun D ρ w hs => L_fieldAddr FA_57_1 rfl ⟨rfl, hs⟩
          · exact ob [1] [] rfl rfl fun D ρ w hs => L_ld (V := .slice a1 s.ents.length c1) S1_54 hs 0 rfl rfl rfl ⟨rfl, hs⟩
          · exact ob [] [] rfl rfl fun D ρ w hs => L_move (V := .int .i64 ((k2 : Nat) : Int)) rfl ⟨rfl, hs⟩
          · exact ob [2, 3] [] rfl rfl fun D ρ w hs => L_ixR UD_54 SA_134.1 (Rd.own' hr1 hs) rfl rfl (by omega) (by rw [List.length_map]; omega) ⟨rfl, hs⟩
          · exact ob [4] [] rfl rfl fun D ρ w hs => L_ldRA (j := 0) (vs := cec (gd s.ents k2)) k2 SA_134 (Rd.own' hr1 hs) (gd_at (by omega)) rfl rfl rfl (by omega) ⟨rfl, hs⟩
          · exact ob [0, 5] [] rfl rfl fun D ρ w hs => L_callP (vs := [.agg ((vc s.known) ++ [(.slice a1 s.ents.length c1 : Value), (.slice a2 s.ticks.length c2 : Value) ]).toArray, .agg (cec (gd s.ents k2)).toArray]) (V := .bool (entB s (gd s.ents k2))) EN_91 rfl rfl (rright_ok _ s a1 c1 a2 c2 (gd s.ents k2) (hE0 _ (gd_mem (by omega))) (Rd.own' hr1 hs) (Rd.own' hr2 hs)) hs fun _ hs => ⟨rfl, hs⟩
          · exact ob [6] [] rfl rfl fun D ρ w hs => L_not rfl ⟨rfl, hs⟩
          · exact ob [7] [] rfl rfl fun D ρ w hs => L_move (V := .bool (!(entB s (gd s.ents k2)))) rfl ⟨rfl, hs⟩
          · exact obg [8] [] (!(entB s (gd s.ents k2))) rfl (fun _ => rfl) rfl (fun _ _ _ _ h => h) fun D ρ w hG hs => L_move (V := .int .i64 ((k2 : Nat) : Int)) rfl ⟨rfl, hs⟩
          · exact obgy [8, 9] [] [9] (!(entB s (gd s.ents k2))) rfl (fun _ => rfl) rfl (fun _ _ _ _ h => h) (fun hG => ⟨hG, trivial⟩) fun D ρ w hG hs => L_gtr rfl rfl ⟨rfl, hs⟩
          · exact obgy [8, 10] [] [10] (!(entB s (gd s.ents k2))) rfl (fun _ => rfl) rfl (fun _ _ _ _ h => h) (fun hG => ⟨hG, trivial⟩) fun D ρ w hG hs => L_move (V := .bool (decide (0 < ((k2 : Nat) : Int)))) rfl ⟨rfl, hs⟩
          · exact obg [11] [] (decide (0 < ((k2 : Nat) : Int))) rfl (fun _ => rfl) rfl (fun _ _ _ _ h => h) fun D ρ w hG hs => L_fieldAddr FA_57_1 rfl ⟨rfl, hs⟩
          · exact obgy [11, 12] [] [12] (decide (0 < ((k2 : Nat) : Int))) rfl (fun _ => rfl) rfl (fun _ _ _ _ h => h) (fun hG => ⟨hG, trivial⟩) fun D ρ w hG hs => L_ld (V := .slice a1 s.ents.length c1) S1_54 hs 0 rfl rfl rfl ⟨rfl, hs⟩
          · exact obg [11] [] (decide (0 < ((k2 : Nat) : Int))) rfl (fun _ => rfl) rfl (fun _ _ _ _ h => h) fun D ρ w hG hs => L_move (V := .int .i64 ((k2 : Nat) : Int)) rfl ⟨rfl, hs⟩
          · refine obgy [11, 14] [] [14] (decide (0 < ((k2 : Nat) : Int))) rfl (fun _ => rfl) rfl (fun _ _ _ _ h => h) (fun hG => ⟨hG, trivial⟩) fun D ρ w hG hs => ?_
            have hgd1 := of_decide_eq_true (eq_of_beq (and_r (hG)))
            exact L_sub (a := ((k2 : Nat) : Int)) (b := 1) (c := ((k2 - 1 : Nat) : Int)) rfl rfl (nat_i64 (by omega) (by omega)) ⟨rfl, hs⟩
          · refine obgy [11, 13, 15] [] [13, 15] (decide (0 < ((k2 : Nat) : Int))) rfl (fun _ => rfl) rfl (fun _ _ _ _ h => h) (fun hG => ⟨hG, hG, trivial⟩) fun D ρ w hG hs => ?_
            have hgd1 := of_decide_eq_true (eq_of_beq (and_r (hG)))
            exact L_ixR UD_54 SA_134.1 (Rd.own' hr1 hs) rfl rfl (by omega) (by rw [List.length_map]; omega) ⟨rfl, hs⟩
          · refine obgy [11, 16] [] [16] (decide (0 < ((k2 : Nat) : Int))) rfl (fun _ => rfl) rfl (fun _ _ _ _ h => h) (fun hG => ⟨hG, trivial⟩) fun D ρ w hG hs => ?_
            have hgd1 := of_decide_eq_true (eq_of_beq (and_r (hG)))
            exact L_ldRA (j := 0) (vs := cec (gd s.ents (k2 - 1))) (k2 - 1) SA_134 (Rd.own' hr1 hs) (gd_at (by omega)) rfl rfl rfl (by omega) ⟨rfl, hs⟩
          · exact obg [11] [] (decide (0 < ((k2 : Nat) : Int))) rfl (fun _ => rfl) rfl (fun _ _ _ _ h => h) fun D ρ w hG hs => L_fieldAddr FA_57_1 rfl ⟨rfl, hs⟩
          · exact obgy [11, 18] [] [18] (decide (0 < ((k2 : Nat) : Int))) rfl (fun _ => rfl) rfl (fun _ _ _ _ h => h) (fun hG => ⟨hG, trivial⟩) fun D ρ w hG hs => L_ld (V := .slice a1 s.ents.length c1) S1_54 hs 0 rfl rfl rfl ⟨rfl, hs⟩
          · exact obg [11] [] (decide (0 < ((k2 : Nat) : Int))) rfl (fun _ => rfl) rfl (fun _ _ _ _ h => h) fun D ρ w hG hs => L_move (V := .int .i64 ((k2 : Nat) : Int)) rfl ⟨rfl, hs⟩
          · refine obgy [11, 19, 20] [] [19, 20] (decide (0 < ((k2 : Nat) : Int))) rfl (fun _ => rfl) rfl (fun _ _ _ _ h => h) (fun hG => ⟨hG, hG, trivial⟩) fun D ρ w hG hs => ?_
            have hgd1 := of_decide_eq_true (eq_of_beq (and_r (hG)))
            exact L_ixR UD_54 SA_134.1 (Rd.own' hr1 hs) rfl rfl (by omega) (by rw [List.length_map]; omega) ⟨rfl, hs⟩
          · refine obgy [11, 21] [] [21] (decide (0 < ((k2 : Nat) : Int))) rfl (fun _ => rfl) rfl (fun _ _ _ _ h => h) (fun hG => ⟨hG, trivial⟩) fun D ρ w hG hs => ?_
            have hgd1 := of_decide_eq_true (eq_of_beq (and_r (hG)))
            exact L_ldRA (j := 0) (vs := cec (gd s.ents k2)) k2 SA_134 (Rd.own' hr1 hs) (gd_at (by omega)) rfl rfl rfl (by omega) ⟨rfl, hs⟩
          · exact obgy [11, 17, 22] [] [17, 22] (decide (0 < ((k2 : Nat) : Int))) rfl (fun _ => rfl) rfl (fun _ _ _ _ h => h) (fun hG => ⟨hG, hG, trivial⟩) fun D ρ w hG hs => L_callP (vs := [.agg (cec (gd s.ents (k2 - 1))).toArray, .agg (cec (gd s.ents k2)).toArray]) (V := .bool (aheadB (gd s.ents (k2 - 1)) (gd s.ents k2))) EN_92 rfl rfl (ahead_ok _ (gd s.ents (k2 - 1)) (gd s.ents k2)) hs fun _ hs => ⟨rfl, hs⟩
          · exact obgy [11, 23] [] [23] (decide (0 < ((k2 : Nat) : Int))) rfl (fun _ => rfl) rfl (fun _ _ _ _ h => h) (fun hG => ⟨hG, trivial⟩) fun D ρ w hG hs => L_not rfl ⟨rfl, hs⟩
          · exact obgy [8, 11, 24] [] [11] (!(entB s (gd s.ents k2))) rfl (fun _ => rfl) rfl (fun _ _ _ _ h => h) (fun hG => ⟨hG, trivial⟩) fun D ρ w hG hs => L_andN (h' := !(aheadB (gd s.ents (k2 - 1)) (gd s.ents k2))) (G := ((!(entB s (gd s.ents k2))) == false)) hG rfl rfl rfl ⟨rfl, hs⟩
          · exact ob [8, 25] [] rfl rfl fun D ρ w hs => L_orC (h' := (decide (0 < ((k2 : Nat) : Int))) && (!(aheadB (gd s.ents (k2 - 1)) (gd s.ents k2)))) rfl rfl rfl ⟨rfl, hs⟩
          rintro ρ1 w11 ρ2 hρ hs
          replace hρ : ρ2 = upd (mix [47, 48, 49, 50, 51, 52, 53, 54, 55, 56, 57, 58, 59, 60, 61, 62, 63, 64, 65, 66, 67, 68, 69, 70, 71, 72, 73] ρ1 _) 73 (.bool ((!(entB s (gd s.ents k2))) || ((decide (0 < ((k2 : Nat) : Int))) && (!(aheadB (gd s.ents (k2 - 1)) (gd s.ents k2)))))) := hρ
          subst hρ
          refine W_cond (t := (!(entB s (gd s.ents k2))) || ((decide (0 < ((k2 : Nat) : Int))) && (!(aheadB (gd s.ents (k2 - 1)) (gd s.ents k2))))) rfl (fun c12 => ?_) (fun c12 => ?_)
          ·
            refine W_seq ?_
            refine W_region ?_
            refine RW_op (L_assign (V := .bool false) rfl ?_)
            refine RW_nil ?_
            refine W_ret ?_
            refine ⟨_, res_one (V := .bool false) Try.results46 rfl, ?_⟩
            refine ⟨congrArg Ending.returned ?_, hs.take 0⟩
            refine congrArg Value.bool (right_badE (i := k2) (by omega) ?_).symm
            have hq := c12
            unfold badE
            revert hq
            rcases Nat.eq_zero_or_pos k2 with q9 | q9
            · subst q9; cases entB s (gd s.ents 0) <;> simp
            · rw [decide_eq_true (p := 0 < k2) q9, decide_eq_true (p := (0 : Int) < _) (by omega)]; cases entB s (gd s.ents k2) <;> cases aheadB (gd s.ents (k2 - 1)) (gd s.ents k2) <;> simp
          ·
            have c12r := or_r c12
            replace c12 := or_l c12
            replace c12 := not_f c12
            refine W_skip ?_
            refine W_seq ?_
            refine W_region ?_
            refine RW_op (L_assign (V := .int .i64 0) rfl ?_)
            refine RW_nil ?_
            refine W_block ?_
            have hen := c12
            have hah : (decide (0 < k2) && !aheadB (gd s.ents (k2 - 1)) (gd s.ents k2)) = false := by have hq := c12r; simpa using hq
            refine W_loopI (fun ρ μ ρ' w' => ∃ (ρo : Env) (k3 : Nat), ρ' = upd (mix [2, 5, 74, 75, 76, 77, 78, 79, 80, 81, 82, 83, 84, 85, 86, 87, 88, 89, 90, 91] ρo ρ) 5 (.int .i64 ((k3 : Nat) : Int)) ∧ (k3 ≤ k2) ∧ (∀ j : Nat, j < k3 → decide ((gd s.ents j).dot = (gd s.ents k2).dot) = false) ∧ μ = k2 - k3 ∧ Own w no w' [blk b1 ((vc s.known) ++ [(.slice a1 s.ents.length c1 : Value), (.slice a2 s.ticks.length c2 : Value) ]) 57]) ?_ ?_
            · exact ⟨_, _, 0, upd_of (mix_of (ds := [2, 5, 74, 75, 76, 77, 78, 79, 80, 81, 82, 83, 84, 85, 86, 87, 88, 89, 90, 91]) (Agr.refl _ _)) rfl, (by omega), (fun j hj => absurd hj (Nat.not_lt_zero j)), rfl, hs⟩
            · rintro μ ρ' w13 ⟨ρo, k3, rfl, hk3, hdd, rfl, hs⟩
              refine W_seq ?_
              refine W_seq ?_
              refine W_region ?_
              refine RW_op (L_move (V := .int .i64 ((k3 : Nat) : Int)) rfl ?_)
              refine RW_op (L_move (V := .int .i64 ((k2 : Nat) : Int)) rfl ?_)
              refine RW_op (L_lss rfl rfl ?_)
              refine RW_nil ?_
              refine W_cond (t := decide (((k3 : Nat) : Int) < ((k2 : Nat) : Int))) rfl (fun c14 => ?_) (fun c14 => ?_)
              ·
                replace c14 := of_decide_eq_true c14
                refine W_skip ?_
                refine W_seq ?_
                refine W_block ?_
                refine W_seq ?_
                refine W_regD HM [some 79, some 80, some 81, some 82, some 83, some 84, some 85, some 86, some 87, some 88, some 89, some 90, some 91] [] [0, 1, 0, 7, 15, 31, 0, 64, 0, 448, 960, 1984, 4095] [pv (.pointer (some ⟨b1, 0 + 16, none⟩)), pv (.slice a1 s.ents.length c1), pv (.int .i64 ((k3 : Nat) : Int)), pv (.pointer (some ⟨bkS (.slice a1 s.ents.length c1), ofS (.slice a1 s.ents.length c1) + ((k3 : Nat) : Int).toNat * 7, none⟩)), pv (.pointer (some ⟨bkS (.slice a1 s.ents.length c1), ofS (.slice a1 s.ents.length c1) + ((k3 : Nat) : Int).toNat * 7 + 4, none⟩)), pv (.agg (dc ((gd s.ents k3).dot)).toArray), pv (.pointer (some ⟨b1, 0 + 16, none⟩)), pv (.slice a1 s.ents.length c1), pv (.int .i64 ((k2 : Nat) : Int)), pv (.pointer (some ⟨bkS (.slice a1 s.ents.length c1), ofS (.slice a1 s.ents.length c1) + ((k2 : Nat) : Int).toNat * 7, none⟩)), pv (.pointer (some ⟨bkS (.slice a1 s.ents.length c1), ofS (.slice a1 s.ents.length c1) + ((k2 : Nat) : Int).toNat * 7 + 4, none⟩)), pv (.agg (dc ((gd s.ents k2).dot)).toArray), pv (.bool (decide ((gd s.ents k3).dot = (gd s.ents k2).dot)))] (fun _ _ => _) [12] (by kernel_rfl) hs ⟨?_, ?_, ?_, ?_, ?_, ?_, ?_, ?_, ?_, ?_, ?_, ?_, ?_, trivial⟩ ?_
                · exact ob [] [] rfl rfl fun D ρ w hs => L_fieldAddr FA_57_1 rfl ⟨rfl, hs⟩
                · exact ob [0] [] rfl rfl fun D ρ w hs => L_ld (V := .slice a1 s.ents.length c1) S1_54 hs 0 rfl rfl rfl ⟨rfl, hs⟩
                · exact ob [] [] rfl rfl fun D ρ w hs => L_move (V := .int .i64 ((k3 : Nat) : Int)) rfl ⟨rfl, hs⟩
                · exact ob [1, 2] [] rfl rfl fun D ρ w hs => L_ixR UD_54 SA_134.1 (Rd.own' hr1 hs) rfl rfl (by omega) (by rw [List.length_map]; omega) ⟨rfl, hs⟩
                · exact ob [3] [] rfl rfl fun D ρ w hs => L_fieldAddr FA_134_4 rfl ⟨rfl, hs⟩
                · exact ob [4] [] rfl rfl fun D ρ w hs => L_ldRA (j := 4) (vs := dc ((gd s.ents k3).dot)) k3 SA_96 (Rd.own' hr1 hs) (gd_at (by omega)) rfl rfl rfl (by omega) ⟨rfl, hs⟩
                · exact ob [] [] rfl rfl fun D ρ w hs => L_fieldAddr FA_57_1 rfl ⟨rfl, hs⟩
                · exact ob [6] [] rfl rfl fun D ρ w hs => L_ld (V := .slice a1 s.ents.length c1) S1_54 hs 0 rfl rfl rfl ⟨rfl, hs⟩
                · exact ob [] [] rfl rfl fun D ρ w hs => L_move (V := .int .i64 ((k2 : Nat) : Int)) rfl ⟨rfl, hs⟩
                · exact ob [7, 8] [] rfl rfl fun D ρ w hs => L_ixR UD_54 SA_134.1 (Rd.own' hr1 hs) rfl rfl (by omega) (by rw [List.length_map]; omega) ⟨rfl, hs⟩
                · exact ob [9] [] rfl rfl fun D ρ w hs => L_fieldAddr FA_134_4 rfl ⟨rfl, hs⟩
                · exact ob [10] [] rfl rfl fun D ρ w hs => L_ldRA (j := 4) (vs := dc ((gd s.ents k2).dot)) k2 SA_96 (Rd.own' hr1 hs) (gd_at (by omega)) rfl rfl rfl (by omega) ⟨rfl, hs⟩
                · exact ob [5, 11] [] rfl rfl fun D ρ w hs => L_eqA (xs := dc ((gd s.ents k3).dot)) (ys := dc ((gd s.ents k2).dot)) Try.eqGuardType96 (EQ_96 ((gd s.ents k3).dot) ((gd s.ents k2).dot)) rfl rfl rfl ⟨rfl, hs⟩
                rintro ρ1 w15 ρ2 hρ hs
                replace hρ : ρ2 = upd (mix [79, 80, 81, 82, 83, 84, 85, 86, 87, 88, 89, 90, 91] ρ1 _) 91 (.bool (decide ((gd s.ents k3).dot = (gd s.ents k2).dot))) := hρ
                subst hρ
                refine W_cond (t := decide ((gd s.ents k3).dot = (gd s.ents k2).dot)) rfl (fun c16 => ?_) (fun c16 => ?_)
                ·
                  replace c16 := of_decide_eq_true c16
                  refine W_seq ?_
                  refine W_region ?_
                  refine RW_op (L_assign (V := .bool false) rfl ?_)
                  refine RW_nil ?_
                  refine W_ret ?_
                  refine ⟨_, res_one (V := .bool false) Try.results46 rfl, ?_⟩
                  refine ⟨congrArg Ending.returned ?_, hs.take 0⟩
                  exact congrArg Value.bool (right_badE (i := k2) (by omega) (badE_dup (j := k3) (by omega) (by omega) c16)).symm
                ·
                  replace c16 := of_decide_eq_false c16
                  refine W_skip ?_
                  refine W_region ?_
                  refine RW_op (L_move (V := .int .i64 ((k3 : Nat) : Int)) rfl ?_)
                  refine RW_op (L_add (a := ((k3 : Nat) : Int)) (b := 1) (c := ((k3 + 1 : Nat) : Int)) rfl rfl (nat_i64 (by omega) (by omega)) ?_)
                  refine RW_op (L_assign (V := .int .i64 ((k3 + 1 : Nat) : Int)) rfl ?_)
                  refine RW_nil ?_
                  refine ⟨_, ?_, _, k3 + 1, upd_of (mix_of (ds := [2, 5, 74, 75, 76, 77, 78, 79, 80, 81, 82, 83, 84, 85, 86, 87, 88, 89, 90, 91]) (by repeat (first | exact Agr.refl _ _ | refine Agr.upd ?_ rfl | refine Agr.mix ?_ rfl))) rfl, (by omega), (no_step2 hdd (decide_eq_false c16)), rfl, hs.take 1⟩
                  omega
              ·
                replace c14 := of_decide_eq_false c14
                refine W_exit ?_
                refine W_region ?_
                refine RW_op (L_move (V := .int .i64 ((k2 : Nat) : Int)) rfl ?_)
                refine RW_op (L_add (a := ((k2 : Nat) : Int)) (b := 1) (c := ((k2 + 1 : Nat) : Int)) rfl rfl (nat_i64 (by omega) (by omega)) ?_)
                refine RW_op (L_assign (V := .int .i64 ((k2 + 1 : Nat) : Int)) rfl ?_)
                refine RW_nil ?_
                refine ⟨_, ?_, _, k2 + 1, upd_of (mix_of (ds := [2, 4, 5, 40, 41, 42, 43, 44, 45, 46, 47, 48, 49, 50, 51, 52, 53, 54, 55, 56, 57, 58, 59, 60, 61, 62, 63, 64, 65, 66, 67, 68, 69, 70, 71, 72, 73, 74, 75, 76, 77, 78, 79, 80, 81, 82, 83, 84, 85, 86, 87, 88, 89, 90, 91]) (by repeat (first | exact Agr.refl _ _ | refine Agr.upd ?_ rfl | refine Agr.mix ?_ rfl))) rfl, (by omega), (no_step2 hbe (badE_no (by omega) hen hah fun j hj => hdd j (by omega))), rfl, hs.take 1⟩
                omega
        ·
          replace c8 := of_decide_eq_false c8
          refine W_exit ?_
          refine W_seq ?_
          refine W_region ?_
          refine RW_op (L_fieldAddr FA_57_0 rfl ?_)
          refine RW_op (L_ldA (vs := vc s.known) SA_53 hs 0 rfl rfl rfl rfl ?_)
          refine RW_op (L_callP (vs := [.agg (vc s.known).toArray, .int .i64 16]) (V := .bool (rightB s.known 16)) EN_93 rfl rfl ?hc hs fun w17 hs => ?_)
          case hc => exact (rRight_ok _ s.known 16 (by first | assumption | exact vzero_ok))
          refine RW_op (L_assign (V := .bool (rightB s.known 16)) rfl ?_)
          refine RW_nil ?_
          refine W_ret ?_
          refine ⟨_, res_one (V := .bool (rightB s.known 16)) Try.results46 rfl, ?_⟩
          refine ⟨congrArg Ending.returned ?_, hs.take 0⟩
          exact congrArg Value.bool (rightS_fin (fun i hi => hbt i (by omega)) fun i hi => hbe i (by omega)).symm
set_option maxRecDepth 20000 in
set_option maxHeartbeats 4000000 in
theorem few_ok (w : World) (s : Sta) (a1 : Option Addr) (c1 : Nat) (a2 : Option Addr) (c2 : Nat) (hr1 : Rd w (.slice a1 s.ents.length c1) 7 (s.ents.map cec)) (hr2 : Rd w (.slice a2 s.ticks.length c2) 2 (s.ticks.map lsc)) : Calls Try.prog 27 #[.agg ((vc s.known) ++ [(.slice a1 s.ents.length c1 : Value), (.slice a2 s.ticks.length c2 : Value) ]).toArray] w (fun e w' => e = .returned (.bool (fewB s)) ∧ Own w no w' []) := by
  refine calls_of_Wn (n := 13) Try.func27 rfl Try.ntmps27 rfl ?_
  have hs := Own.start w
  refine W_seq ?_
  refine W_region ?_
  refine RW_op (L_box (V := .agg ((vc s.known) ++ [(.slice a1 s.ents.length c1 : Value), (.slice a2 s.ticks.length c2 : Value) ]).toArray) (cs := (vc s.known) ++ [(.slice a1 s.ents.length c1 : Value), (.slice a2 s.ticks.length c2 : Value) ]) rfl rfl hs fun b1 w2 hs => ?_)
  refine RW_op (L_assign (V := .bool false) rfl ?_)
  refine RW_nil ?_
  refine W_seq ?_
  refine W_regO [some 3, some 4, some 5, some 6, some 7, some 8, some 9, some 10, some 11, some 12, some 2] [] [0, 1, 3, 7, 15, 31, 63, 127, 255, 511, 1023] [pv (.pointer (some ⟨b1, 0 + 16, none⟩)), pv (.slice a1 s.ents.length c1), pv (.int .i64 ((s.ents.length : Nat) : Int)), pv (.bool (decide (((s.ents.length : Nat) : Int) ≤ 60))), pv (.bool (decide (((s.ents.length : Nat) : Int) ≤ 60))), pg ((decide (((s.ents.length : Nat) : Int) ≤ 60)) == true) (.pointer (some ⟨b1, 0 + 17, none⟩)), pg ((decide (((s.ents.length : Nat) : Int) ≤ 60)) == true) (.slice a2 s.ticks.length c2), pg ((decide (((s.ents.length : Nat) : Int) ≤ 60)) == true) (.int .i64 ((s.ticks.length : Nat) : Int)), pg ((decide (((s.ents.length : Nat) : Int) ≤ 60)) == true) (.bool (decide (((s.ticks.length : Nat) : Int) ≤ 60))), pv (.bool ((decide (((s.ents.length : Nat) : Int) ≤ 60)) && (decide (((s.ticks.length : Nat) : Int) ≤ 60)))), pv (.bool ((decide (((s.ents.length : Nat) : Int) ≤ 60)) && (decide (((s.ticks.length : Nat) : Int) ≤ 60))))] (fun _ _ => _) [10] (by kernel_rfl) hs ⟨?_, ?_, ?_, ?_, ?_, ?_, ?_, ?_, ?_, ?_, ?_, trivial⟩ ?_
  · exact ob [] [] rfl rfl fun D ρ w hs => L_fieldAddr FA_57_1 rfl ⟨rfl, hs⟩
  · exact ob [0] [] rfl rfl fun D ρ w hs => L_ld (V := .slice a1 s.ents.length c1) S1_54 hs 0 rfl rfl rfl ⟨rfl, hs⟩
  · exact ob [1] [] rfl rfl fun D ρ w hs => L_lenR (n := s.ents.length) UD_54 (Rd.own' hr1 hs) (by simp) rfl ⟨rfl, hs⟩
  · exact ob [2] [] rfl rfl fun D ρ w hs => L_leq rfl rfl ⟨rfl, hs⟩
  · exact ob [3] [] rfl rfl fun D ρ w hs => L_move (V := .bool (decide (((s.ents.length : Nat) : Int) ≤ 60))) rfl ⟨rfl, hs⟩
  · exact obg [4] [] (decide (((s.ents.length : Nat) : Int) ≤ 60)) rfl (fun _ => rfl) rfl (fun _ _ _ _ h => h) fun D ρ w hG hs => L_fieldAddr FA_57_2 rfl ⟨rfl, hs⟩
  · exact obgy [4, 5] [] [5] (decide (((s.ents.length : Nat) : Int) ≤ 60)) rfl (fun _ => rfl) rfl (fun _ _ _ _ h => h) (fun hG => ⟨hG, trivial⟩) fun D ρ w hG hs => L_ld (V := .slice a2 s.ticks.length c2) S1_55 hs 0 rfl rfl rfl ⟨rfl, hs⟩
  · exact obgy [4, 6] [] [6] (decide (((s.ents.length : Nat) : Int) ≤ 60)) rfl (fun _ => rfl) rfl (fun _ _ _ _ h => h) (fun hG => ⟨hG, trivial⟩) fun D ρ w hG hs => L_lenR (n := s.ticks.length) UD_55 (Rd.own' hr2 hs) (by simp) rfl ⟨rfl, hs⟩
  · exact obgy [4, 7] [] [7] (decide (((s.ents.length : Nat) : Int) ≤ 60)) rfl (fun _ => rfl) rfl (fun _ _ _ _ h => h) (fun hG => ⟨hG, trivial⟩) fun D ρ w hG hs => L_leq rfl rfl ⟨rfl, hs⟩
  · exact ob [4, 8] [] rfl rfl fun D ρ w hs => L_andC (h' := decide (((s.ticks.length : Nat) : Int) ≤ 60)) rfl rfl rfl ⟨rfl, hs⟩
  · exact ob [9] [] rfl rfl fun D ρ w hs => L_assign (V := .bool ((decide (((s.ents.length : Nat) : Int) ≤ 60)) && (decide (((s.ticks.length : Nat) : Int) ≤ 60)))) rfl ⟨rfl, hs⟩
  rintro ρ1 w3 ρ2 hρ hs
  replace hρ : ρ2 = upd (mix [3, 4, 5, 6, 7, 8, 9, 10, 11, 12, 2] ρ1 _) 2 (.bool ((decide (((s.ents.length : Nat) : Int) ≤ 60)) && (decide (((s.ticks.length : Nat) : Int) ≤ 60)))) := hρ
  subst hρ
  refine W_ret ?_
  refine ⟨_, res_one (V := .bool ((decide (((s.ents.length : Nat) : Int) ≤ 60)) && (decide (((s.ticks.length : Nat) : Int) ≤ 60)))) Try.results27 rfl, ?_⟩
  refine ⟨congrArg Ending.returned ?_, hs.take 0⟩
  rfl
end Tt
end Go.Proofs
namespace Go.Proofs
open Go Go.Vx Go.RowKit
namespace Tt
set_option maxRecDepth 20000 in
set_option maxHeartbeats 4000000 in
theorem cartZero_ok (w : World) (s : Sta) (a1 : Option Addr) (c1 : Nat) (a2 : Option Addr) (c2 : Nat) (hsortE : SortC Try.prog 63 64 cec 128 7 srtE) (hok : StaOk s) (hr1 : Rd w (.slice a1 s.ents.length c1) 7 (s.ents.map cec)) (hr2 : Rd w (.slice a2 s.ticks.length c2) 2 (s.ticks.map lsc)) : Calls Try.prog 12 #[.agg ((vc s.known) ++ [(.slice a1 s.ents.length c1 : Value), (.slice a2 s.ticks.length c2 : Value) ]).toArray] w (fun e w' => e = .returned (.bool true) ∧ Own w no w' []) := by
  refine calls_of_Wn (n := 58) Try.func12 rfl Try.ntmps12 rfl ?_
  have hs := Own.start w
  refine W_seq ?_
  refine W_region ?_
  refine RW_op (L_box (V := .agg ((vc s.known) ++ [(.slice a1 s.ents.length c1 : Value), (.slice a2 s.ticks.length c2 : Value) ]).toArray) (cs := (vc s.known) ++ [(.slice a1 s.ents.length c1 : Value), (.slice a2 s.ticks.length c2 : Value) ]) rfl rfl hs fun b1 w2 hs => ?_)
  refine RW_op (L_assign (V := .bool false) rfl ?_)
  refine RW_nil ?_
  refine W_seq ?_
  refine W_seq ?_
  refine W_region ?_
  refine RW_op (L_callP (vs := []) (V := .bool true) EN_26 rfl rfl ?hc hs fun w3 hs => ?_)
  case hc => exact (alive8_ok _ hsortE)
  refine RW_op (L_not rfl ?_)
  refine RW_nil ?_
  refine W_condF rfl ?_
  refine W_skip ?_
  refine W_seq ?_
  refine W_seq ?_
  refine W_regO [some 9, some 10, some 11, some 12, some 13, some 14, some 15, some 16] [] [0, 1, 3, 7, 15, 31, 63, 127] [pv (.agg ((vc s.known) ++ [(.slice a1 s.ents.length c1 : Value), (.slice a2 s.ticks.length c2 : Value) ]).toArray), pv (.bool (fewB s)), pv (.bool (!(fewB s))), pv (.bool (!(fewB s))), pg ((!(fewB s)) == false) (.agg ((vc s.known) ++ [(.slice a1 s.ents.length c1 : Value), (.slice a2 s.ticks.length c2 : Value) ]).toArray), pg ((!(fewB s)) == false) (.bool (rightS s)), pg ((!(fewB s)) == false) (.bool (!(rightS s))), pv (.bool ((!(fewB s)) || (!(rightS s))))] (fun _ _ => _) [7] (by kernel_rfl) hs ⟨?_, ?_, ?_, ?_, ?_, ?_, ?_, ?_, trivial⟩ ?_
  · exact ob [] [] rfl rfl fun D ρ w hs => L_ldW (cs := (vc s.known) ++ [(.slice a1 s.ents.length c1 : Value), (.slice a2 s.ticks.length c2 : Value) ]) SA_57 hs 0 rfl rfl rfl ⟨rfl, hs⟩
  · exact ob [0] [] rfl rfl fun D ρ w hs => L_callP (vs := [.agg ((vc s.known) ++ [(.slice a1 s.ents.length c1 : Value), (.slice a2 s.ticks.length c2 : Value) ]).toArray]) (V := .bool (fewB s)) EN_27 rfl rfl (few_ok _ s a1 c1 a2 c2 (Rd.own' hr1 hs) (Rd.own' hr2 hs)) hs fun _ hs => ⟨rfl, hs⟩
  · exact ob [1] [] rfl rfl fun D ρ w hs => L_not rfl ⟨rfl, hs⟩
  · exact ob [2] [] rfl rfl fun D ρ w hs => L_move (V := .bool (!(fewB s))) rfl ⟨rfl, hs⟩
  · exact obg [3] [] (!(fewB s)) rfl (fun _ => rfl) rfl (fun _ _ _ _ h => h) fun D ρ w hG hs => L_ldW (cs := (vc s.known) ++ [(.slice a1 s.ents.length c1 : Value), (.slice a2 s.ticks.length c2 : Value) ]) SA_57 hs 0 rfl rfl rfl ⟨rfl, hs⟩
  · exact obgy [3, 4] [] [4] (!(fewB s)) rfl (fun _ => rfl) rfl (fun _ _ _ _ h => h) (fun hG => ⟨hG, trivial⟩) fun D ρ w hG hs => L_callP (vs := [.agg ((vc s.known) ++ [(.slice a1 s.ents.length c1 : Value), (.slice a2 s.ticks.length c2 : Value) ]).toArray]) (V := .bool (rightS s)) EN_46 rfl rfl (rRight8_ok _ s a1 c1 a2 c2 hok (Rd.own' hr1 hs) (Rd.own' hr2 hs)) hs fun _ hs => ⟨rfl, hs⟩
  · exact obgy [3, 5] [] [5] (!(fewB s)) rfl (fun _ => rfl) rfl (fun _ _ _ _ h => h) (fun hG => ⟨hG, trivial⟩) fun D ρ w hG hs => L_not rfl ⟨rfl, hs⟩
  · exact ob [3, 6] [] rfl rfl fun D ρ w hs => L_orC (h' := !(rightS s)) rfl rfl rfl ⟨rfl, hs⟩
  rintro ρ1 w6 ρ2 hρ hs
  replace hρ : ρ2 = upd (mix [9, 10, 11, 12, 13, 14, 15, 16] ρ1 _) 16 (.bool ((!(fewB s)) || (!(rightS s)))) := hρ
  subst hρ
  refine W_cond (t := (!(fewB s)) || (!(rightS s))) rfl (fun c7 => ?_) (fun c7 => ?_)
  ·
    refine W_seq ?_
    refine W_region ?_
    refine RW_op (L_assign (V := .bool true) rfl ?_)
    refine RW_nil ?_
    refine W_ret ?_
    refine ⟨_, res_one (V := .bool true) Try.results12 rfl, ?_⟩
    refine ⟨congrArg Ending.returned ?_, hs.take 0⟩
    rfl
  ·
    have c7r := or_r c7
    replace c7 := or_l c7
    replace c7 := not_f c7
    replace c7r := not_f c7r
    refine W_skip ?_
    refine W_seq ?_
    have ⟨hf1, hf2⟩ := few_le c7
    have hrt := c7r
    have hz := zero_mergeI hrt
    have hzR := zero_mergeR hrt hok.1
    refine W_region ?_
    refine RW_op (L_ldW (cs := (vc s.known) ++ [(.slice a1 s.ents.length c1 : Value), (.slice a2 s.ticks.length c2 : Value) ]) SA_57 hs 0 rfl rfl rfl ?_)
    refine RW_op (L_callX (α := (Option Addr × Nat) × (Option Addr × Nat)) (vs := [.agg ((vc s.known) ++ [(.slice a1 s.ents.length c1 : Value), (.slice a2 s.ticks.length c2 : Value) ]).toArray]) (V := fun x : (Option Addr × Nat) × (Option Addr × Nat) => .agg (vc s.known ++ [(.slice x.1.1 (s.ents).length x.1.2 : Value), (.slice x.2.1 (s.ticks).length x.2.2 : Value)]).toArray) (Lo := fun x => [row (.slice x.1.1 (s.ents).length x.1.2) ((s.ents).map cec) 128 7, row (.slice x.2.1 (s.ticks).length x.2.2) ((s.ticks).map lsc) 126 2]) (F := fun _ _ => True) EN_29 rfl rfl ?hc hs fun x9 w8 hs _ => ?_)
    case hc => exact (theirs_ok _ s a1 c1 a2 c2 (by omega) (by omega) (Rd.own' hr1 hs) (Rd.own' hr2 hs))
    refine RW_op (L_buildP (vs := []) (cs := (vc vzero) ++ [(.slice none 0 0 : Value), (.slice none 0 0 : Value) ]) [vc vzero, [(.slice none 0 0 : Value)], [(.slice none 0 0 : Value)]] [vc vzero, [(.slice none 0 0 : Value)], [(.slice none 0 0 : Value)]] BT_62 rfl (rfl) rfl rfl ?_)
    refine RW_op (L_callX (α := (Option Addr × Nat) × (Option Addr × Nat)) (vs := [.agg ((vc s.known) ++ [(.slice x9.1.1 ((s.ents).length) x9.1.2 : Value), (.slice x9.2.1 ((s.ticks).length) x9.2.2 : Value) ]).toArray, .agg ((vc vzero) ++ [(.slice none 0 0 : Value), (.slice none 0 0 : Value) ]).toArray]) (V := fun x : (Option Addr × Nat) × (Option Addr × Nat) => .tuple #[.agg (vc s.known ++ [(.slice x.1.1 (s.ents).length x.1.2 : Value), (.slice x.2.1 (s.ticks).length x.2.2 : Value)]).toArray, .int .i64 0]) (Lo := fun x => [row (.slice x.1.1 (s.ents).length x.1.2) ((s.ents).map cec) 128 7, row (.slice x.2.1 (s.ticks).length x.2.2) ((s.ticks).map lsc) 126 2]) (F := fun _ _ => True) EN_28 rfl rfl ?hc hs fun x11 w10 hs _ => ?_)
    case hc => exact (cMerge_okE s 0 _ s x9.1.1 x9.1.2 x9.2.1 x9.2.2 (⟨vzero, [], []⟩ : Sta) none 0 none 0 hsortE hok (by omega) (by omega) szero_ok (by decide) (by decide) (hs.rd 1 rfl) (hs.rd 2 rfl) (Rd.nil _ 7) (Rd.nil _ 2) hzR.1 hz.1)
    refine RW_op (L_move (V := .tuple #[.agg ((vc s.known) ++ [(.slice x11.1.1 ((s.ents).length) x11.1.2 : Value), (.slice x11.2.1 ((s.ticks).length) x11.2.2 : Value) ]).toArray, .int .i64 0]) rfl ?_)
    refine RW_op (L_extract (V := .agg ((vc s.known) ++ [(.slice x11.1.1 ((s.ents).length) x11.1.2 : Value), (.slice x11.2.1 ((s.ticks).length) x11.2.2 : Value) ]).toArray) rfl rfl ?_)
    refine RW_op (L_extract (V := .int .i64 0) rfl rfl ?_)
    refine RW_op (L_alloc (cs := (vc vzero) ++ [(.slice none 0 0 : Value), (.slice none 0 0 : Value) ]) ZV_62 rfl hs fun b12 w13 hs => ?_)
    replace hs : Own w no w13 [blk b1 ((vc s.known) ++ [(.slice a1 s.ents.length c1 : Value), (.slice a2 s.ticks.length c2 : Value) ]) 57, row (.slice x9.1.1 ((s.ents).length) x9.1.2) (s.ents.map cec) 128 7, row (.slice x9.2.1 ((s.ticks).length) x9.2.2) (s.ticks.map lsc) 126 2, row (.slice x11.1.1 ((s.ents).length) x11.1.2) (s.ents.map cec) 128 7, row (.slice x11.2.1 ((s.ticks).length) x11.2.2) (s.ticks.map lsc) 126 2, blk b12 ((vc vzero) ++ [(.slice none 0 0 : Value), (.slice none 0 0 : Value) ]) 62] := hs
    refine RW_op (L_st (V := .agg ((vc s.known) ++ [(.slice x11.1.1 ((s.ents).length) x11.1.2 : Value), (.slice x11.2.1 ((s.ticks).length) x11.2.2 : Value) ]).toArray) (vs := (vc s.known) ++ [(.slice x11.1.1 ((s.ents).length) x11.1.2 : Value), (.slice x11.2.1 ((s.ticks).length) x11.2.2 : Value) ]) (cs' := (vc s.known) ++ [(.slice x11.1.1 ((s.ents).length) x11.1.2 : Value), (.slice x11.2.1 ((s.ticks).length) x11.2.2 : Value) ]) SA_62.1 hs 5 rfl rfl rfl rfl rfl (Nat.le_of_ble_eq_true rfl) (one_app (vc_one _) (one_cons rfl (one_cons rfl one_nil))) (spl_whole rfl) fun w14 hs => ?_)
    refine RW_op (L_assign (V := .int .i64 0) rfl ?_)
    refine RW_nil ?_
    refine W_seq ?_
    refine W_region ?_
    refine RW_op (L_buildP (vs := []) (cs := (vc vzero) ++ [(.slice none 0 0 : Value), (.slice none 0 0 : Value) ]) [vc vzero, [(.slice none 0 0 : Value)], [(.slice none 0 0 : Value)]] [vc vzero, [(.slice none 0 0 : Value)], [(.slice none 0 0 : Value)]] BT_62 rfl (rfl) rfl rfl ?_)
    refine RW_op (L_ldW (cs := (vc s.known) ++ [(.slice a1 s.ents.length c1 : Value), (.slice a2 s.ticks.length c2 : Value) ]) SA_57 hs 0 rfl rfl rfl ?_)
    refine RW_op (L_callX (α := (Option Addr × Nat) × (Option Addr × Nat)) (vs := [.agg ((vc s.known) ++ [(.slice a1 s.ents.length c1 : Value), (.slice a2 s.ticks.length c2 : Value) ]).toArray]) (V := fun x : (Option Addr × Nat) × (Option Addr × Nat) => .agg (vc s.known ++ [(.slice x.1.1 (s.ents).length x.1.2 : Value), (.slice x.2.1 (s.ticks).length x.2.2 : Value)]).toArray) (Lo := fun x => [row (.slice x.1.1 (s.ents).length x.1.2) ((s.ents).map cec) 128 7, row (.slice x.2.1 (s.ticks).length x.2.2) ((s.ticks).map lsc) 126 2]) (F := fun _ _ => True) EN_29 rfl rfl ?hc hs fun x16 w15 hs _ => ?_)
    case hc => exact (theirs_ok _ s a1 c1 a2 c2 (by omega) (by omega) (Rd.own' hr1 hs) (Rd.own' hr2 hs))
    refine RW_op (L_callX (α := (Option Addr × Nat) × (Option Addr × Nat)) (vs := [.agg ((vc vzero) ++ [(.slice none 0 0 : Value), (.slice none 0 0 : Value) ]).toArray, .agg ((vc s.known) ++ [(.slice x16.1.1 ((s.ents).length) x16.1.2 : Value), (.slice x16.2.1 ((s.ticks).length) x16.2.2 : Value) ]).toArray]) (V := fun x : (Option Addr × Nat) × (Option Addr × Nat) => .tuple #[.agg (vc s.known ++ [(.slice x.1.1 (s.ents).length x.1.2 : Value), (.slice x.2.1 (s.ticks).length x.2.2 : Value)]).toArray, .int .i64 0]) (Lo := fun x => [row (.slice x.1.1 (s.ents).length x.1.2) ((s.ents).map cec) 128 7, row (.slice x.2.1 (s.ticks).length x.2.2) ((s.ticks).map lsc) 126 2]) (F := fun _ _ => True) EN_28 rfl rfl ?hc hs fun x18 w17 hs _ => ?_)
    case hc => exact (cMerge_okE s 0 _ (⟨vzero, [], []⟩ : Sta) none 0 none 0 s x16.1.1 x16.1.2 x16.2.1 x16.2.2 hsortE szero_ok (by decide) (by decide) hok (by omega) (by omega) (Rd.nil _ 7) (Rd.nil _ 2) (hs.rd 6 rfl) (hs.rd 7 rfl) hzR.2 hz.2)
    refine RW_op (L_move (V := .tuple #[.agg ((vc s.known) ++ [(.slice x18.1.1 ((s.ents).length) x18.1.2 : Value), (.slice x18.2.1 ((s.ticks).length) x18.2.2 : Value) ]).toArray, .int .i64 0]) rfl ?_)
    refine RW_op (L_extract (V := .agg ((vc s.known) ++ [(.slice x18.1.1 ((s.ents).length) x18.1.2 : Value), (.slice x18.2.1 ((s.ticks).length) x18.2.2 : Value) ]).toArray) rfl rfl ?_)
    refine RW_op (L_extract (V := .int .i64 0) rfl rfl ?_)
    refine RW_op (L_alloc (cs := (vc vzero) ++ [(.slice none 0 0 : Value), (.slice none 0 0 : Value) ]) ZV_62 rfl hs fun b19 w20 hs => ?_)
    replace hs : Own w no w20 [blk b1 ((vc s.known) ++ [(.slice a1 s.ents.length c1 : Value), (.slice a2 s.ticks.length c2 : Value) ]) 57, row (.slice x9.1.1 ((s.ents).length) x9.1.2) (s.ents.map cec) 128 7, row (.slice x9.2.1 ((s.ticks).length) x9.2.2) (s.ticks.map lsc) 126 2, row (.slice x11.1.1 ((s.ents).length) x11.1.2) (s.ents.map cec) 128 7, row (.slice x11.2.1 ((s.ticks).length) x11.2.2) (s.ticks.map lsc) 126 2, blk b12 ((vc s.known) ++ [(.slice x11.1.1 ((s.ents).length) x11.1.2 : Value), (.slice x11.2.1 ((s.ticks).length) x11.2.2 : Value) ]) 62, row (.slice x16.1.1 ((s.ents).length) x16.1.2) (s.ents.map cec) 128 7, row (.slice x16.2.1 ((s.ticks).length) x16.2.2) (s.ticks.map lsc) 126 2, row (.slice x18.1.1 ((s.ents).length) x18.1.2) (s.ents.map cec) 128 7, row (.slice x18.2.1 ((s.ticks).length) x18.2.2) (s.ticks.map lsc) 126 2, blk b19 ((vc vzero) ++ [(.slice none 0 0 : Value), (.slice none 0 0 : Value) ]) 62] := hs
    refine RW_op (L_st (V := .agg ((vc s.known) ++ [(.slice x18.1.1 ((s.ents).length) x18.1.2 : Value), (.slice x18.2.1 ((s.ticks).length) x18.2.2 : Value) ]).toArray) (vs := (vc s.known) ++ [(.slice x18.1.1 ((s.ents).length) x18.1.2 : Value), (.slice x18.2.1 ((s.ticks).length) x18.2.2 : Value) ]) (cs' := (vc s.known) ++ [(.slice x18.1.1 ((s.ents).length) x18.1.2 : Value), (.slice x18.2.1 ((s.ticks).length) x18.2.2 : Value) ]) SA_62.1 hs 10 rfl rfl rfl rfl rfl (Nat.le_of_ble_eq_true rfl) (one_app (vc_one _) (one_cons rfl (one_cons rfl one_nil))) (spl_whole rfl) fun w21 hs => ?_)
    refine RW_op (L_assign (V := .int .i64 0) rfl ?_)
    refine RW_nil ?_
    refine W_seq ?_
    replace hs := hs.more emp trivial
    replace hs := hs.more emp trivial
    replace hs := hs.more emp trivial
    replace hs := hs.more emp trivial
    replace hs := hs.more emp trivial
    refine W_regD HM [some 31, some 32, some 33, some 34, some 35, some 36, some 37, some 38, some 39, some 40, some 41, some 42, some 43, some 44, some 45, some 46, some 47, some 48, some 49, some 50, some 51, some 52, some 53, some 54, some 55, some 56, some 57, some 2] [[], [], [], [], [], [], [], [], [39], [], [], [], [], [], [45], [], [], [], [], [], [51]] [0, 1, 3, 7, 15, 31, 63, 127, 255, 127, 1023, 2047, 4095, 8191, 16383, 8191, 65535, 131071, 262143, 524287, 1048575, 2097151, 524287, 4718591, 13107199, 33554431, 67108863, 134217727] [pv (.int .i64 0), pv (.bool true), pv (.bool true), pv (.int .i64 0), pv (.bool true), pv (.bool true), pv (.bool true), pv (.agg ((vc s.known) ++ [(.slice x11.1.1 ((s.ents).length) x11.1.2 : Value), (.slice x11.2.1 ((s.ticks).length) x11.2.2 : Value) ]).toArray), (true, fun ρ => .agg ((vc s.known) ++ [(.slice (aOf (aggS (ρ 39) 16)) ((s.ents).length) (cOf (aggS (ρ 39) 16)) : Value), (.slice (aOf (aggS (ρ 39) 17)) ((s.ticks).length) (cOf (aggS (ρ 39) 17)) : Value) ]).toArray), pv (.agg ((vc s.known) ++ [(.slice a1 s.ents.length c1 : Value), (.slice a2 s.ticks.length c2 : Value) ]).toArray), pv (.bool true), pv (.bool true), pv (.bool true), pv (.agg ((vc s.known) ++ [(.slice x18.1.1 ((s.ents).length) x18.1.2 : Value), (.slice x18.2.1 ((s.ticks).length) x18.2.2 : Value) ]).toArray), (true, fun ρ => .agg ((vc s.known) ++ [(.slice (aOf (aggS (ρ 45) 16)) ((s.ents).length) (cOf (aggS (ρ 45) 16)) : Value), (.slice (aOf (aggS (ρ 45) 17)) ((s.ticks).length) (cOf (aggS (ρ 45) 17)) : Value) ]).toArray), pv (.agg ((vc s.known) ++ [(.slice a1 s.ents.length c1 : Value), (.slice a2 s.ticks.length c2 : Value) ]).toArray), pv (.bool true), pv (.bool true), pv (.bool true), pv (.agg ((vc s.known) ++ [(.slice x11.1.1 ((s.ents).length) x11.1.2 : Value), (.slice x11.2.1 ((s.ticks).length) x11.2.2 : Value) ]).toArray), (true, fun ρ => .slice (aOf (ρ 51)) ((cartsS s).length) (cOf (ρ 51))), pv (.int .i64 (((cartsS s).length : Nat) : Int)), pv (.pointer (some ⟨b1, 0 + 17, none⟩)), pv (.slice a2 s.ticks.length c2), pv (.int .i64 ((s.ticks.length : Nat) : Int)), pv (.bool true), pv (.bool true), pv (.bool true)] (fun D ρ => [blk b1 ((vc s.known) ++ [(.slice a1 s.ents.length c1 : Value), (.slice a2 s.ticks.length c2 : Value) ]) 57, row (.slice x9.1.1 ((s.ents).length) x9.1.2) (s.ents.map cec) 128 7, row (.slice x9.2.1 ((s.ticks).length) x9.2.2) (s.ticks.map lsc) 126 2, row (.slice x11.1.1 ((s.ents).length) x11.1.2) (s.ents.map cec) 128 7, row (.slice x11.2.1 ((s.ticks).length) x11.2.2) (s.ticks.map lsc) 126 2, blk b12 ((vc s.known) ++ [(.slice x11.1.1 ((s.ents).length) x11.1.2 : Value), (.slice x11.2.1 ((s.ticks).length) x11.2.2 : Value) ]) 62, row (.slice x16.1.1 ((s.ents).length) x16.1.2) (s.ents.map cec) 128 7, row (.slice x16.2.1 ((s.ticks).length) x16.2.2) (s.ticks.map lsc) 126 2, row (.slice x18.1.1 ((s.ents).length) x18.1.2) (s.ents.map cec) 128 7, row (.slice x18.2.1 ((s.ticks).length) x18.2.2) (s.ticks.map lsc) 126 2, blk b19 ((vc s.known) ++ [(.slice x18.1.1 ((s.ents).length) x18.1.2 : Value), (.slice x18.2.1 ((s.ticks).length) x18.2.2 : Value) ]) 62, cond (D 8) (row (.slice (aOf (aggS (ρ 39) 16)) ((s.ents).length) (cOf (aggS (ρ 39) 16))) (s.ents.map cec) 134 7) (emp), cond (D 8) (row (.slice (aOf (aggS (ρ 39) 17)) ((s.ticks).length) (cOf (aggS (ρ 39) 17))) (s.ticks.map lsc) 135 2) (emp), cond (D 14) (row (.slice (aOf (aggS (ρ 45) 16)) ((s.ents).length) (cOf (aggS (ρ 45) 16))) (s.ents.map cec) 134 7) (emp), cond (D 14) (row (.slice (aOf (aggS (ρ 45) 17)) ((s.ticks).length) (cOf (aggS (ρ 45) 17))) (s.ticks.map lsc) 135 2) (emp), cond (D 20) (row (.slice (aOf (ρ 51)) ((cartsS s).length) (cOf (ρ 51))) ((cartsS s).map (ic .u16)) 70 1) (emp)]) [27] (by kernel_rfl) hs ⟨?_, ?_, ?_, ?_, ?_, ?_, ?_, ?_, ?_, ?_, ?_, ?_, ?_, ?_, ?_, ?_, ?_, ?_, ?_, ?_, ?_, ?_, ?_, ?_, ?_, ?_, ?_, ?_, trivial⟩ ?_
    · exact ob [] [] rfl rfl fun D ρ w hs => L_move (V := .int .i64 0) rfl ⟨rfl, hs⟩
    · exact ob [0] [] rfl rfl fun D ρ w hs => opW_to (V := .bool (decide ((0 : Int) = 0))) (V' := .bool true) (L_eql rfl rfl ⟨rfl, rfl⟩) (congrArg Value.bool (by decide)) ⟨rfl, hs⟩
    · exact ob [1] [] rfl rfl fun D ρ w hs => L_move (V := .bool true) rfl ⟨rfl, hs⟩
    · exact obg [2] [] true rfl (fun _ => rfl) rfl (fun _ _ _ h => nomatch h) fun D ρ w _ hs => L_move (V := .int .i64 0) rfl ⟨rfl, hs⟩
    · exact obg [2, 3] [] true rfl (fun _ => rfl) rfl (fun _ _ _ h => nomatch h) fun D ρ w _ hs => opW_to (V := .bool (decide ((0 : Int) = 0))) (V' := .bool true) (L_eql rfl rfl ⟨rfl, rfl⟩) (congrArg Value.bool (by decide)) ⟨rfl, hs⟩
    · exact ob [2, 4] [] rfl rfl fun D ρ w hs => L_pick (V := .bool true) rfl rfl ⟨rfl, hs⟩
    · exact ob [5] [] rfl rfl fun D ρ w hs => L_move (V := .bool true) rfl ⟨rfl, hs⟩
    · exact obg [6] [] true rfl (fun _ => rfl) rfl (fun _ _ _ h => nomatch h) fun D ρ w _ hs => L_ldW (cs := (vc s.known) ++ [(.slice x11.1.1 ((s.ents).length) x11.1.2 : Value), (.slice x11.2.1 ((s.ticks).length) x11.2.2 : Value) ]) SA_62 hs 5 rfl rfl rfl ⟨rfl, hs⟩
    · exact obg [6, 7] [] true rfl (fun _ => rfl) rfl (fun _ _ _ h => nomatch h) fun D ρ w _ hs => L_callX (α := (Option Addr × Nat) × (Option Addr × Nat)) (vs := [.agg ((vc s.known) ++ [(.slice x11.1.1 ((s.ents).length) x11.1.2 : Value), (.slice x11.2.1 ((s.ticks).length) x11.2.2 : Value) ]).toArray]) (V := fun x : (Option Addr × Nat) × (Option Addr × Nat) => .agg (vc s.known ++ [(.slice x.1.1 (s.ents).length x.1.2 : Value), (.slice x.2.1 (s.ticks).length x.2.2 : Value)]).toArray) (Lo := fun x => [row (.slice x.1.1 (s.ents).length x.1.2) ((s.ents).map cec) 134 7, row (.slice x.2.1 (s.ticks).length x.2.2) ((s.ticks).map lsc) 135 2]) (F := fun _ _ => True) EN_32 rfl rfl (ours_ok _ s x11.1.1 x11.1.2 x11.2.1 x11.2.2 (by omega) (by omega) (hs.rd 3 rfl) (hs.rd 4 rfl)) hs fun _ _ hs _ => ⟨rfl, hs.put2 11 12 (Nat.le_of_ble_eq_true rfl) (Nat.le_of_ble_eq_true rfl)⟩
    · exact obg [6] [] true rfl (fun _ => rfl) rfl (fun _ _ _ h => nomatch h) fun D ρ w _ hs => L_ldW (cs := (vc s.known) ++ [(.slice a1 s.ents.length c1 : Value), (.slice a2 s.ticks.length c2 : Value) ]) SA_57 hs 0 rfl rfl rfl ⟨rfl, hs⟩
    · exact obg [6, 8, 9] [] true rfl (fun _ => rfl) rfl (fun _ _ _ h => nomatch h) fun D ρ w _ hs => L_callPV (V' := .bool true) (congrArg Value.bool (by simp)) (vs := [.agg ((vc s.known) ++ [(.slice (aOf (aggS (ρ 39) 16)) ((s.ents).length) (cOf (aggS (ρ 39) 16)) : Value), (.slice (aOf (aggS (ρ 39) 17)) ((s.ticks).length) (cOf (aggS (ρ 39) 17)) : Value) ]).toArray, .agg ((vc s.known) ++ [(.slice a1 s.ents.length c1 : Value), (.slice a2 s.ticks.length c2 : Value) ]).toArray]) (V := .bool (decide (s.known = s.known) && (decide (s.ents = s.ents) && decide (s.ticks = s.ticks)))) EN_31 rfl rfl (same8_ok _ s (aOf (aggS (ρ 39) 16)) (cOf (aggS (ρ 39) 16)) (aOf (aggS (ρ 39) 17)) (cOf (aggS (ρ 39) 17)) s a1 c1 a2 c2 (hs.rd 11 rfl) (hs.rd 12 rfl) (Rd.own' hr1 hs) (Rd.own' hr2 hs)) hs fun _ hs => ⟨rfl, hs⟩
    · exact ob [6, 10] [] rfl rfl fun D ρ w hs => L_pick (V := .bool true) rfl rfl ⟨rfl, hs⟩
    · exact ob [11] [] rfl rfl fun D ρ w hs => L_move (V := .bool true) rfl ⟨rfl, hs⟩
    · exact obg [12] [] true rfl (fun _ => rfl) rfl (fun _ _ _ h => nomatch h) fun D ρ w _ hs => L_ldW (cs := (vc s.known) ++ [(.slice x18.1.1 ((s.ents).length) x18.1.2 : Value), (.slice x18.2.1 ((s.ticks).length) x18.2.2 : Value) ]) SA_62 hs 10 rfl rfl rfl ⟨rfl, hs⟩
    · exact obg [12, 13] [] true rfl (fun _ => rfl) rfl (fun _ _ _ h => nomatch h) fun D ρ w _ hs => L_callX (α := (Option Addr × Nat) × (Option Addr × Nat)) (vs := [.agg ((vc s.known) ++ [(.slice x18.1.1 ((s.ents).length) x18.1.2 : Value), (.slice x18.2.1 ((s.ticks).length) x18.2.2 : Value) ]).toArray]) (V := fun x : (Option Addr × Nat) × (Option Addr × Nat) => .agg (vc s.known ++ [(.slice x.1.1 (s.ents).length x.1.2 : Value), (.slice x.2.1 (s.ticks).length x.2.2 : Value)]).toArray) (Lo := fun x => [row (.slice x.1.1 (s.ents).length x.1.2) ((s.ents).map cec) 134 7, row (.slice x.2.1 (s.ticks).length x.2.2) ((s.ticks).map lsc) 135 2]) (F := fun _ _ => True) EN_32 rfl rfl (ours_ok _ s x18.1.1 x18.1.2 x18.2.1 x18.2.2 (by omega) (by omega) (hs.rd 8 rfl) (hs.rd 9 rfl)) hs fun _ _ hs _ => ⟨rfl, hs.put2 13 14 (Nat.le_of_ble_eq_true rfl) (Nat.le_of_ble_eq_true rfl)⟩
    · exact obg [12] [] true rfl (fun _ => rfl) rfl (fun _ _ _ h => nomatch h) fun D ρ w _ hs => L_ldW (cs := (vc s.known) ++ [(.slice a1 s.ents.length c1 : Value), (.slice a2 s.ticks.length c2 : Value) ]) SA_57 hs 0 rfl rfl rfl ⟨rfl, hs⟩
    · exact obg [12, 14, 15] [] true rfl (fun _ => rfl) rfl (fun _ _ _ h => nomatch h) fun D ρ w _ hs => L_callPV (V' := .bool true) (congrArg Value.bool (by simp)) (vs := [.agg ((vc s.known) ++ [(.slice (aOf (aggS (ρ 45) 16)) ((s.ents).length) (cOf (aggS (ρ 45) 16)) : Value), (.slice (aOf (aggS (ρ 45) 17)) ((s.ticks).length) (cOf (aggS (ρ 45) 17)) : Value) ]).toArray, .agg ((vc s.known) ++ [(.slice a1 s.ents.length c1 : Value), (.slice a2 s.ticks.length c2 : Value) ]).toArray]) (V := .bool (decide (s.known = s.known) && (decide (s.ents = s.ents) && decide (s.ticks = s.ticks)))) EN_31 rfl rfl (same8_ok _ s (aOf (aggS (ρ 45) 16)) (cOf (aggS (ρ 45) 16)) (aOf (aggS (ρ 45) 17)) (cOf (aggS (ρ 45) 17)) s a1 c1 a2 c2 (hs.rd 13 rfl) (hs.rd 14 rfl) (Rd.own' hr1 hs) (Rd.own' hr2 hs)) hs fun _ hs => ⟨rfl, hs⟩
    · exact ob [12, 16] [] rfl rfl fun D ρ w hs => L_pick (V := .bool true) rfl rfl ⟨rfl, hs⟩
    · exact ob [17] [] rfl rfl fun D ρ w hs => L_move (V := .bool true) rfl ⟨rfl, hs⟩
    · exact obg [18] [] true rfl (fun _ => rfl) rfl (fun _ _ _ h => nomatch h) fun D ρ w _ hs => L_ldW (cs := (vc s.known) ++ [(.slice x11.1.1 ((s.ents).length) x11.1.2 : Value), (.slice x11.2.1 ((s.ticks).length) x11.2.2 : Value) ]) SA_62 hs 5 rfl rfl rfl ⟨rfl, hs⟩
    · exact obg [18, 19] [] true rfl (fun _ => rfl) rfl (fun _ _ _ h => nomatch h) fun D ρ w _ hs => L_callX (vs := [.agg ((vc s.known) ++ [(.slice x11.1.1 ((s.ents).length) x11.1.2 : Value), (.slice x11.2.1 ((s.ticks).length) x11.2.2 : Value) ]).toArray]) (V := fun x : Option Addr × Nat => .slice x.1 (cartsS s).length x.2) EN_37 rfl rfl (cCarts_ok _ s x11.1.1 x11.1.2 x11.2.1 x11.2.2 hok (by omega) (by omega) (hs.rd 3 rfl) (hs.rd 4 rfl)) hs fun _ _ hs _ => ⟨rfl, hs.put 15 (Nat.le_of_ble_eq_true rfl)⟩
    · exact obg [18, 20] [] true rfl (fun _ => rfl) rfl (fun _ _ _ h => nomatch h) fun D ρ w _ hs => L_lenR (n := (cartsS s).length) UD_78 (hs.rd 15 rfl) (by simp) rfl ⟨rfl, hs⟩
    · exact obg [18] [] true rfl (fun _ => rfl) rfl (fun _ _ _ h => nomatch h) fun D ρ w _ hs => L_fieldAddr FA_57_2 rfl ⟨rfl, hs⟩
    · exact obg [18, 22] [] true rfl (fun _ => rfl) rfl (fun _ _ _ h => nomatch h) fun D ρ w _ hs => L_ld (V := .slice a2 s.ticks.length c2) S1_55 hs 0 rfl rfl rfl ⟨rfl, hs⟩
    · exact obg [18, 23] [] true rfl (fun _ => rfl) rfl (fun _ _ _ h => nomatch h) fun D ρ w _ hs => L_lenR (n := s.ticks.length) UD_55 (Rd.own' hr2 hs) (by simp) rfl ⟨rfl, hs⟩
    · exact obg [18, 21, 24] [] true rfl (fun _ => rfl) rfl (fun _ _ _ h => nomatch h) fun D ρ w _ hs => opW_to (V := .bool (decide ((((cartsS s).length : Nat) : Int) = ((s.ticks.length : Nat) : Int)))) (V' := .bool true) (L_eql rfl rfl ⟨rfl, rfl⟩) (congrArg Value.bool (decide_eq_true (by unfold cartsS; rw [if_pos hrt]; simp))) ⟨rfl, hs⟩
    · exact ob [18, 25] [] rfl rfl fun D ρ w hs => L_pick (V := .bool true) rfl rfl ⟨rfl, hs⟩
    · exact ob [26] [] rfl rfl fun D ρ w hs => L_assign (V := .bool true) rfl ⟨rfl, hs⟩
    rintro ρ1 w27 ρ2 hρ hs
    replace hρ : ρ2 = upd (mix [31, 32, 33, 34, 35, 36, 37, 38, 39, 40, 41, 42, 43, 44, 45, 46, 47, 48, 49, 50, 51, 52, 53, 54, 55, 56, 57, 2] ρ1 _) 2 (.bool true) := hρ
    replace hs : Own w no w27 [blk b1 ((vc s.known) ++ [(.slice a1 s.ents.length c1 : Value), (.slice a2 s.ticks.length c2 : Value) ]) 57, row (.slice x9.1.1 ((s.ents).length) x9.1.2) (s.ents.map cec) 128 7, row (.slice x9.2.1 ((s.ticks).length) x9.2.2) (s.ticks.map lsc) 126 2, row (.slice x11.1.1 ((s.ents).length) x11.1.2) (s.ents.map cec) 128 7, row (.slice x11.2.1 ((s.ticks).length) x11.2.2) (s.ticks.map lsc) 126 2, blk b12 ((vc s.known) ++ [(.slice x11.1.1 ((s.ents).length) x11.1.2 : Value), (.slice x11.2.1 ((s.ticks).length) x11.2.2 : Value) ]) 62, row (.slice x16.1.1 ((s.ents).length) x16.1.2) (s.ents.map cec) 128 7, row (.slice x16.2.1 ((s.ticks).length) x16.2.2) (s.ticks.map lsc) 126 2, row (.slice x18.1.1 ((s.ents).length) x18.1.2) (s.ents.map cec) 128 7, row (.slice x18.2.1 ((s.ticks).length) x18.2.2) (s.ticks.map lsc) 126 2, blk b19 ((vc s.known) ++ [(.slice x18.1.1 ((s.ents).length) x18.1.2 : Value), (.slice x18.2.1 ((s.ticks).length) x18.2.2 : Value) ]) 62, row (.slice (aOf (aggS (ρ1 39) 16)) ((s.ents).length) (cOf (aggS (ρ1 39) 16))) (s.ents.map cec) 134 7, row (.slice (aOf (aggS (ρ1 39) 17)) ((s.ticks).length) (cOf (aggS (ρ1 39) 17))) (s.ticks.map lsc) 135 2, row (.slice (aOf (aggS (ρ1 45) 16)) ((s.ents).length) (cOf (aggS (ρ1 45) 16))) (s.ents.map cec) 134 7, row (.slice (aOf (aggS (ρ1 45) 17)) ((s.ticks).length) (cOf (aggS (ρ1 45) 17))) (s.ticks.map lsc) 135 2, row (.slice (aOf (ρ1 51)) ((cartsS s).length) (cOf (ρ1 51))) ((cartsS s).map (ic .u16)) 70 1] := hs
    generalize (aOf (aggS (ρ1 39) 16)) = na28 at hs
    generalize (cOf (aggS (ρ1 39) 16)) = nc29 at hs
    generalize (aOf (aggS (ρ1 39) 17)) = na30 at hs
    generalize (cOf (aggS (ρ1 39) 17)) = nc31 at hs
    generalize (aOf (aggS (ρ1 45) 16)) = na32 at hs
    generalize (cOf (aggS (ρ1 45) 16)) = nc33 at hs
    generalize (aOf (aggS (ρ1 45) 17)) = na34 at hs
    generalize (cOf (aggS (ρ1 45) 17)) = nc35 at hs
    generalize (aOf (ρ1 51)) = a36 at hs
    generalize (cOf (ρ1 51)) = c37 at hs
    subst hρ
    refine W_ret ?_
    refine ⟨_, res_one (V := .bool true) Try.results12 rfl, ?_⟩
    refine ⟨congrArg Ending.returned ?_, hs.take 0⟩
    rfl
end Tt
end Go.Proofs
namespace Go.Proofs.Ythbbcjimiemdgaa
open Go.RowKit Go.Vx
theorem Try.own : ownKnob Try.prog.godebug = none := by kernel_rfl
theorem Try.laidOut : laidOutB Try.prog = true := by kernel_rfl
theorem O53 : OpenT Try.prog 53 vc VecOk := O_vec Try.underlying53 Try.underlying51 (by kernel_rfl) (by kernel_rfl)
theorem O96 : OpenT Try.prog 96 dc DotOk := O_dot Try.underlying96 rfl rfl Try.underlying5 Try.underlying51 (by kernel_rfl) (by kernel_rfl) (by kernel_rfl)
theorem O134 : OpenT Try.prog 134 cec CenOk := O_cen Try.underlying134 rfl rfl O96 Try.underlying70 Try.underlying70 Try.underlying70 Try.underlying5 Try.underlying92 (by kernel_rfl) (by kernel_rfl)
theorem O135 : OpenT Try.prog 135 lsc LstOk := O_lst Try.underlying135 rfl Try.underlying70 Try.underlying51 (by kernel_rfl) (by kernel_rfl)
end Go.Proofs.Ythbbcjimiemdgaa
namespace Go.Vx
open Go.RowKit Go.Shelf Go.Sort Go.Proofs
theorem own_grow {w w' : World} {L : List Res} (h : Own w no w' L) : ∃ q os, w' = grow (w.drewN q) os := by
  refine ⟨w'.drawn - w.drawn, w'.heap.extract w.heap.size w'.heap.size, ?_⟩
  have hd : w.drawn + (w'.drawn - w.drawn) = w'.drawn := by have := h.tape.2; omega
  have hh : w.heap ++ w'.heap.extract w.heap.size w'.heap.size = w'.heap := by
    apply Array.ext_getElem?
    intro i
    by_cases hi : i < w.heap.size
    · rw [Array.getElem?_append_left hi, h.old i hi (fun h => h)]
    · rw [Array.getElem?_append_right (by omega)]
      have := h.size
      simp only [Array.getElem?_extract]
      split
      · congr 1; omega
      · rw [Array.getElem?_eq_none (by omega)]
  have h1 := h.os
  have h2 := h.tape.1
  have h3 := h.output
  cases w' with
  | mk heap tape drawn os output =>
    cases w with
    | mk heap0 tape0 drawn0 os0 output0 =>
      simp only at h1 h2 h3 hd hh
      subst h1; subst h2; subst h3
      simp [grow, World.drewN, hh, hd]
section
variable {P : Program} {ρ : Ren} {α : Type} [Inhabited α]
theorem flatK_at {enc : α → List Value} {k : Nat} {l : List α} (hk : ∀ x, (enc x).length = k) {j : Nat} (hj : j < l.length * k) : (l.map enc).flatten[j]? = some (flatK enc k l.toArray)[j]! := by
  have hk0 : 0 < k := by
    rcases Nat.eq_zero_or_pos k with h | h
    · subst h; simp at hj
    · exact h
  have hi : j / k < l.length := Nat.div_lt_of_lt_mul (by rw [Nat.mul_comm]; exact hj)
  have hm : j % k < k := Nat.mod_lt _ hk0
  have e1 : (l.map enc)[j / k]? = some (enc l[j / k]) := by simp [hi]
  have e2 : (enc l[j / k])[j % k]? = some (enc l[j / k])[j % k]! := by
    rw [List.getElem?_eq_getElem (by rw [hk]; exact hm), List.getElem!_eq_getElem?_getD, List.getElem?_eq_getElem (by rw [hk]; exact hm)]
    rfl
  have h := flat_at (l.map enc) k (len_map hk l) (j / k) (j % k) _ _ e1 e2
  rw [Nat.mul_comm, Nat.div_add_mod] at h
  rw [h, get_flatK enc k l.toArray j (by simpa using hj)]
  simp [hi]
theorem own_sorted {enc : α → List Value} {k : Nat} {w : World} {S : Nat → Prop} {g cap T n : Nat} {l m : List α} {os : Array Obj} (hk : ∀ x, (enc x).length = k) (h1 : ∀ x, ∀ v ∈ enc x, v.oneCell' = true)
    (hR : (row (.slice (some ⟨g, 0, none⟩) l.length cap) (l.map enc) T k).holds w S) (hlt : ∀ b, S b → b < w.heap.size) (hlen : m.length = l.length) :
    Own w S (sortWorldK enc k w g 0 n m.toArray os) [row (.slice (some ⟨g, 0, none⟩) l.length cap) (m.map enc) T k] := by
  obtain ⟨_, hown, hS⟩ := hR
  have hSg := hS g rfl
  have hgl := hlt g hSg
  rcases hown.2 with ⟨hv, _⟩ | ⟨g', cap', cur, hv, _, hg, hnc, hcm, hcs, htake⟩
  · cases hv
  · simp only [Value.slice.injEq, Option.some.injEq, Addr.mk.injEq, and_true] at hv
    obtain ⟨rfl, hn, rfl⟩ := hv
    simp only [List.length_map] at hnc htake hn
    have hX : ∀ c, c < w.heap.size → (sortWorldK enc k w g 0 n m.toArray os).heap[c]? = (w.heap.modify g (onCells (putCells id 0 (flatK enc k m.toArray))))[c]? := by
      intro c hc
      show ((w.heap.modify g (onCells (putCells id 0 (flatK enc k m.toArray)))) ++ os)[c]? = _
      rw [Array.getElem?_append_left (by simpa using hc)]
    have hXg : (sortWorldK enc k w g 0 n m.toArray os).heap[g]? = some (.cells (putCells id 0 (flatK enc k m.toArray) cur) T (0, 0)) := by
      rw [hX g hgl, Array.getElem?_modify, if_pos rfl, hg]; rfl
    have hXo : ∀ c, c < w.heap.size → c ≠ g → (sortWorldK enc k w g 0 n m.toArray os).heap[c]? = w.heap[c]? := by
      intro c hc hne
      rw [hX c hc, Array.getElem?_modify, if_neg (fun e => hne e.symm)]
    have hsz : (sortWorldK enc k w g 0 n m.toArray os).heap.size = w.heap.size + os.size := by
      show ((w.heap.modify g (onCells (putCells id 0 (flatK enc k m.toArray)))) ++ os).size = _
      simp
    refine ⟨rfl, ⟨rfl, Nat.le_add_right _ _⟩, rfl, by omega, fun b hb hm => hXo b hb (fun e => hm (e ▸ hSg)), fun j b => j = 0 ∧ b = g, fun j R hj => ?_, fun j b hb => by rw [hb.2]; omega, fun j j' b hb hb' => hb.1.trans hb'.1.symm, fun j b hb _ => by rw [hb.2]; exact hSg⟩
    cases j with
    | succ j => simp at hj
    | zero =>
      simp only [List.getElem?_cons_zero, Option.some.injEq] at hj
      subst hj
      refine ⟨⟨len_map hk m, one_map h1 m⟩, ⟨?_, .inr ⟨g, cap, _, by rw [List.length_map, hlen], Nat.zero_le _, hXg, by rw [List.length_map]; omega, hcm, by unfold putCells; simpa using hcs, ?_⟩⟩, fun g' hg' => by cases hg'; exact ⟨rfl, rfl⟩⟩
      · rw [flat_len _ (len_map hk m)]
      · apply List.ext_getElem?
        intro j
        rw [List.getElem?_take, List.length_map]
        by_cases hj : j < m.length * k
        · have hjc : j < cur.size := by
            rw [hcs]
            exact Nat.lt_of_lt_of_le hj (Nat.mul_le_mul_right _ (by omega))
          rw [if_pos hj, flatK_at hk hj, Array.getElem?_toList]
          unfold putCells
          rw [Array.getElem?_mapIdx, Array.getElem?_eq_getElem hjc]
          simp [hj]
        · rw [if_neg hj, List.getElem?_eq_none (by rw [flat_len _ (len_map hk m), List.length_map]; omega)]
theorem sortC_of (L : SlLaysF0.n6 P ρ) {k T g : Nat} {enc : α → List Value} {cf : α → α → Int} (aE : ∀ w, (isAgg (ρ.t 24)).run P w = .ok true w) (zE : ∀ w, (Go.sizeOf (ρ.t 24)).run P w = .ok k w) (hk : ∀ x, (enc x).length = k) (h1 : ∀ x, ∀ v ∈ enc x, v.oneCell' = true)
    (hO : SWO (ltOf cf)) (hg : En P g) (hc : ∀ w x y, Calls P g #[.agg (enc x).toArray, .agg (enc y).toArray] w fun e w' => e = .returned (.int .i64 (cf x y)) ∧ Own w no w' [])
    (hnil : ∀ w, Calls P (ρ.f 6) #[.slice none 0 0, .func (.func g) #[] #[]] w fun e w' => e = .returned (.tuple #[]) ∧ w' = w) :
    SortC P (ρ.f 6) g enc T k (fun l m => m.Perm l ∧ m.Pairwise fun x y => ¬ cf y x < 0) := by
  intro w S a c l hR hlt hsz
  have hR' := hR
  obtain ⟨_, hown, hS⟩ := hR
  rcases hown.2 with ⟨hv, hn⟩ | ⟨b, cap, cur, hv, _, hb, hnc, hcm, hcs, htake⟩
  · have hl : l = [] := by simpa using hn
    subst hl
    simp only [List.length_nil, Value.slice.injEq] at hv
    obtain ⟨rfl, _, rfl⟩ := hv
    exact (hnil w).mono fun e w' ⟨he, hw⟩ => ⟨⟨[], List.Perm.refl _, List.Pairwise.nil⟩, he, by subst hw; exact Own.lent hR' hlt, trivial⟩
  · simp only [Value.slice.injEq, List.length_map] at hv
    obtain ⟨rfl, _, rfl⟩ := hv
    have hbl := hlt b (hS b rfl)
    have hH : HoldsK enc k w b 0 l.toArray := by
      intro j hj
      have hj' : j < l.length * k := by simpa using hj
      rw [Nat.zero_add]
      refine ⟨?_, frozen_of_row w b _ _ _ hb⟩
      rw [cell_of_row w b j _ _ _ hb]
      have h2 := flatK_at (l := l) hk hj'
      rw [← htake, List.getElem?_take, List.length_map, if_pos hj'] at h2
      simpa using h2
    have hcmp : CmpLays P g #[] enc k cf b 0 l.toArray.size w := fun m os dk _ x y =>
      (hc _ x y).mono fun e w' ⟨he, ho⟩ => ⟨he, own_grow ho⟩
    refine (AnyQ.slices_SortFunc L k aE zE enc hk h1 cf hO g #[] b 0 c l.toArray w hg hcmp hH hbl (by simpa using hsz)).mono ?_
    rintro e w' ⟨he, d', n, os, hp, hs, rfl⟩
    obtain ⟨hp1, _, hp2⟩ := hp
    have hsz' : d'.toList.length = l.length := by simpa using hp1
    refine ⟨⟨d'.toList, ?_, ?_⟩, he, ?_, trivial⟩
    · have e1 : d'.extract 0 l.toArray.size = d' := by rw [← hp1]; simp
      have e2 : l.toArray.extract 0 l.toArray.size = l.toArray := by simp
      rw [e1, e2] at hp2
      simpa using hp2
    · rw [List.pairwise_iff_getElem]
      intro i j hi hj hij
      have h3 := hs i j (Nat.zero_le _) hij (by rw [← hp1]; simpa using hj)
      unfold ltOf at h3
      have e1 : d'[i]! = d'.toList[i] := by simp at hi; simp [hi]
      have e2 : d'[j]! = d'.toList[j] := by simp at hj; simp [hj]
      rw [e1, e2] at h3
      simpa using h3
    · have := own_sorted (n := n) (os := os) hk h1 hR' hlt hsz'
      simpa using this
end
end Go.Vx
namespace Go.Proofs
open Go.Shelf
def Try.sortE_ren : Go.Shelf.Ren := ⟨fun | 6 => 63 | 15 => 102 | 14 => 101 | 28 => 133 | 29 => 134 | 20 => 125 | 21 => 126 | 22 => 127 | 23 => 128 | 24 => 129 | 25 => 130 | 26 => 131 | 27 => 132 | 46 => 153 | 47 => 154 | 48 => 155 | 49 => 156 | 50 => 157 | 57 => 166 | n => n, fun | 22 => 59 | 24 => 128 | 25 => 132 | 3 => 3 | 39 => 170 | 0 => 0 | 53 => 51 | 55 => 92 | 4 => 4 | 46 => 191 | 45 => 190 | 50 => 139 | 5 => 5 | 9 => 9 | 66 => 210 | 70 => 214 | 76 => 220 | 77 => 221 | n => n, fun | n => n⟩
theorem Try.sortE : Go.Proofs.SlLaysF0.n6 Try.prog Try.sortE_ren := {
  mixed := by kernel_rfl
  f6 := ⟨Try.f63.name, by decide, Try.func63.trans (congrArg some (by kernel_rfl))⟩
  f14 := ⟨Try.f101.name, by decide, Try.func101.trans (congrArg some (by kernel_rfl))⟩
  f15 := Try.func102.trans (congrArg some (by kernel_rfl))
  f20 := ⟨Try.f125.name, by decide, Try.func125.trans (congrArg some (by kernel_rfl))⟩
  f21 := ⟨Try.f126.name, by decide, Try.func126.trans (congrArg some (by kernel_rfl))⟩
  f22 := ⟨Try.f127.name, by decide, Try.func127.trans (congrArg some (by kernel_rfl))⟩
  f23 := ⟨Try.f128.name, by decide, Try.func128.trans (congrArg some (by kernel_rfl))⟩
  f24 := ⟨Try.f129.name, by decide, Try.func129.trans (congrArg some (by kernel_rfl))⟩
  f25 := ⟨Try.f130.name, by decide, Try.func130.trans (congrArg some (by kernel_rfl))⟩
  f26 := ⟨Try.f131.name, by decide, Try.func131.trans (congrArg some (by kernel_rfl))⟩
  f27 := ⟨Try.f132.name, by decide, Try.func132.trans (congrArg some (by kernel_rfl))⟩
  f28 := Try.func133.trans (congrArg some (by kernel_rfl))
  f29 := Try.func134.trans (congrArg some (by kernel_rfl))
  f46 := ⟨Try.f153.name, by decide, Try.func153.trans (congrArg some (by kernel_rfl))⟩
  f47 := Try.func154.trans (congrArg some (by kernel_rfl))
  f48 := Try.func155.trans (congrArg some (by kernel_rfl))
  f49 := ⟨Try.f156.name, by decide, Try.func156.trans (congrArg some (by kernel_rfl))⟩
  f50 := ⟨Try.f157.name, by decide, Try.func157.trans (congrArg some (by kernel_rfl))⟩
  f57 := ⟨Try.f166.name, by decide, Try.func166.trans (congrArg some (by kernel_rfl))⟩
  t0 := Try.underlying0
  a0 := Try.isAgg0
  z0 := Try.sizeOf0
  v0 := Try.zeroValue0
  t3 := Try.underlying3
  a3 := Try.isAgg3
  z3 := Try.sizeOf3
  v3 := Try.zeroValue3
  t4 := Try.underlying4
  a4 := Try.isAgg4
  z4 := Try.sizeOf4
  v4 := Try.zeroValue4
  t5 := Try.underlying5
  a5 := Try.isAgg5
  z5 := Try.sizeOf5
  v5 := Try.zeroValue5
  t9 := Try.underlying9
  a9 := Try.isAgg9
  z9 := Try.sizeOf9
  v9 := Try.zeroValue9
  t22 := Try.underlying59
  a22 := Try.isAgg59
  z22 := Try.sizeOf59
  v22 := Try.zeroValue59
  t25 := Try.underlying132
  a25 := Try.isAgg132
  z25 := Try.sizeOf132
  v25 := Try.zeroValue132
  t39 := Try.underlying170
  a39 := Try.isAgg170
  z39 := Try.sizeOf170
  v39 := Try.zeroValue170
  t45 := Try.underlying190
  a45 := Try.isAgg190
  z45 := Try.sizeOf190
  v45 := Try.zeroValue190
  t46 := Try.underlying191
  a46 := Try.isAgg191
  z46 := Try.sizeOf191
  v46 := Try.zeroValue191
  t50 := Try.underlying139
  a50 := Try.isAgg139
  z50 := Try.sizeOf139
  v50 := Try.zeroValue139
  t53 := Try.underlying51
  a53 := Try.isAgg51
  z53 := Try.sizeOf51
  v53 := Try.zeroValue51
  t55 := Try.underlying92
  a55 := Try.isAgg92
  z55 := Try.sizeOf92
  v55 := Try.zeroValue92
  t66 := Try.underlying210
  a66 := Try.isAgg210
  z66 := Try.sizeOf210
  v66 := Try.zeroValue210
  t70 := Try.underlying214
  a70 := Try.isAgg214
  z70 := Try.sizeOf214
  v70 := Try.zeroValue214
  t76 := Try.underlying220
  a76 := Try.isAgg220
  z76 := Try.sizeOf220
  v76 := Try.zeroValue220
  t77 := Try.underlying221
  a77 := Try.isAgg221
  z77 := Try.sizeOf221
  v77 := Try.zeroValue221 }
end Go.Proofs
namespace Go.Proofs.Ythbbcjimiemdgaa
open Go.Vx Go.Sort Go.Proofs
theorem swoE : SWO (ltOf placeI) where
  irrefl x := by unfold ltOf; rw [decide_eq_false_iff_not, place_lt, ahead_irrefl]; decide
  trans x y z h1 h2 := by unfold ltOf at *; rw [decide_eq_true_iff, place_lt] at *; exact ahead_trans h1 h2
  ntrans x y z h1 h2 := by unfold ltOf at *; rw [decide_eq_false_iff_not, place_lt, ahead_iff] at *; omega
theorem sortsE : SortC Try.prog 63 64 cec 128 7 srtE :=
  sortC_of (ρ := Try.sortE_ren) (k := 7) (T := 128) Try.sortE Try.isAgg128 Try.sizeOf128 (fun _ => rfl) cec_one swoE Try.call64 (fun w x y => Tt.place_ok w x y) (fun w => AnyF.slices_SortFunc_none Try.sortE none 0 _ w)
end Go.Proofs.Ythbbcjimiemdgaa
