/- A part of a proof: what functions of the program compute, and plain facts on that. -/
import Derived.Test.YthbbcjimiemdgaaCartMergesP5
import Derived.KernelRfl
import Derived.Test.YthbbcjimiemdgaaProg
import Derived.Shelf.SlSortCmp.WholeK
import Derived.Shelf.SlLaysF0
import Derived.Ground.SlsfProg
import Derived.Shelf.SlSortCmp.NoneTotal
set_option linter.unusedVariables false
set_option linter.unusedSimpArgs false
namespace Go.Proofs
open Go Go.Vx Go.RowKit
namespace Tt
set_option maxRecDepth 20000 in
set_option maxHeartbeats 4000000 in
theorem ahead_ok (w : World) (x y : Cen) : Calls Try.prog 92 #[.agg (cec x).toArray, .agg (cec y).toArray] w (fun e w' => e = .returned (.bool (aheadB x y)) ∧ Own w no w' []) := by
  refine calls_of_Wn (n := 36) Try.func92 rfl Try.ntmps92 rfl ?_
  have hs := Own.start w
  refine W_seq ?_
  refine W_region ?_
  refine RW_op (L_box (V := .agg (cec x).toArray) (cs := cec x) rfl rfl hs fun b1 w2 hs => ?_)
  refine RW_op (L_box (V := .agg (cec y).toArray) (cs := cec y) rfl rfl hs fun b3 w4 hs => ?_)
  refine RW_op (L_assign (V := .bool false) rfl ?_)
  refine RW_nil ?_
  refine W_seq ?_
  refine W_seq ?_
  refine W_region ?_
  refine RW_op (L_fieldAddr FA_134_0 rfl ?_)
  refine RW_op (L_ld (V := .int .u16 x.cart) S1_70 hs 0 rfl rfl rfl ?_)
  refine RW_op (L_fieldAddr FA_134_0 rfl ?_)
  refine RW_op (L_ld (V := .int .u16 y.cart) S1_70 hs 1 rfl rfl rfl ?_)
  refine RW_op (L_neq rfl rfl ?_)
  refine RW_nil ?_
  refine W_cond (t := !decide (x.cart = y.cart)) rfl (fun c5 => ?_) (fun c5 => ?_)
  ·
    replace c5 := not_t c5
    replace c5 := of_decide_eq_false c5
    refine W_seq ?_
    refine W_region ?_
    refine RW_op (L_fieldAddr FA_134_0 rfl ?_)
    refine RW_op (L_ld (V := .int .u16 x.cart) S1_70 hs 0 rfl rfl rfl ?_)
    refine RW_op (L_fieldAddr FA_134_0 rfl ?_)
    refine RW_op (L_ld (V := .int .u16 y.cart) S1_70 hs 1 rfl rfl rfl ?_)
    refine RW_op (L_lss rfl rfl ?_)
    refine RW_op (L_assign (V := .bool (decide (x.cart < y.cart))) rfl ?_)
    refine RW_nil ?_
    refine W_ret ?_
    refine ⟨_, res_one (V := .bool (decide (x.cart < y.cart))) Try.results92 rfl, ?_⟩
    refine ⟨congrArg Ending.returned ?_, hs.take 0⟩
    unfold aheadB; rw [if_neg c5]
  ·
    replace c5 := not_f c5
    replace c5 := of_decide_eq_true c5
    refine W_skip ?_
    refine W_seq ?_
    refine W_seq ?_
    refine W_region ?_
    refine RW_op (L_fieldAddr FA_134_4 rfl ?_)
    refine RW_op (L_fieldAddr FA_96_0 rfl ?_)
    refine RW_op (L_ld (V := .int .u8 x.dot.rep) S1_5 hs 0 rfl rfl rfl ?_)
    refine RW_op (L_fieldAddr FA_134_4 rfl ?_)
    refine RW_op (L_fieldAddr FA_96_0 rfl ?_)
    refine RW_op (L_ld (V := .int .u8 y.dot.rep) S1_5 hs 1 rfl rfl rfl ?_)
    refine RW_op (L_neq rfl rfl ?_)
    refine RW_nil ?_
    refine W_cond (t := !decide (x.dot.rep = y.dot.rep)) rfl (fun c6 => ?_) (fun c6 => ?_)
    ·
      replace c6 := not_t c6
      replace c6 := of_decide_eq_false c6
      refine W_seq ?_
      refine W_region ?_
      refine RW_op (L_fieldAddr FA_134_4 rfl ?_)
      refine RW_op (L_fieldAddr FA_96_0 rfl ?_)
      refine RW_op (L_ld (V := .int .u8 x.dot.rep) S1_5 hs 0 rfl rfl rfl ?_)
      refine RW_op (L_fieldAddr FA_134_4 rfl ?_)
      refine RW_op (L_fieldAddr FA_96_0 rfl ?_)
      refine RW_op (L_ld (V := .int .u8 y.dot.rep) S1_5 hs 1 rfl rfl rfl ?_)
      refine RW_op (L_lss rfl rfl ?_)
      refine RW_op (L_assign (V := .bool (decide (x.dot.rep < y.dot.rep))) rfl ?_)
      refine RW_nil ?_
      refine W_ret ?_
      refine ⟨_, res_one (V := .bool (decide (x.dot.rep < y.dot.rep))) Try.results92 rfl, ?_⟩
      refine ⟨congrArg Ending.returned ?_, hs.take 0⟩
      unfold aheadB; rw [if_pos c5, if_neg c6]
    ·
      replace c6 := not_f c6
      replace c6 := of_decide_eq_true c6
      refine W_skip ?_
      refine W_seq ?_
      refine W_region ?_
      refine RW_op (L_fieldAddr FA_134_4 rfl ?_)
      refine RW_op (L_fieldAddr FA_96_1 rfl ?_)
      refine RW_op (L_ld (V := .int .u32 x.dot.seq) S1_51 hs 0 rfl rfl rfl ?_)
      refine RW_op (L_fieldAddr FA_134_4 rfl ?_)
      refine RW_op (L_fieldAddr FA_96_1 rfl ?_)
      refine RW_op (L_ld (V := .int .u32 y.dot.seq) S1_51 hs 1 rfl rfl rfl ?_)
      refine RW_op (L_lss rfl rfl ?_)
      refine RW_op (L_assign (V := .bool (decide (x.dot.seq < y.dot.seq))) rfl ?_)
      refine RW_nil ?_
      refine W_ret ?_
      refine ⟨_, res_one (V := .bool (decide (x.dot.seq < y.dot.seq))) Try.results92 rfl, ?_⟩
      refine ⟨congrArg Ending.returned ?_, hs.take 0⟩
      unfold aheadB; rw [if_pos c5, if_pos c6]
set_option maxRecDepth 20000 in
set_option maxHeartbeats 4000000 in
theorem rtick_ok (w : World) (s : Sta) (a1 : Option Addr) (c1 : Nat) (a2 : Option Addr) (c2 : Nat) (c : Int) (hr1 : Rd w (.slice a1 s.ents.length c1) 7 (s.ents.map cec)) (hr2 : Rd w (.slice a2 s.ticks.length c2) 2 (s.ticks.map lsc)) : Calls Try.prog 75 #[.agg ((vc s.known) ++ [(.slice a1 s.ents.length c1 : Value), (.slice a2 s.ticks.length c2 : Value) ]).toArray, .int .u16 c] w (fun e w' => e = .returned (.tuple #[.int .u32 ((tickP s.ticks c).getD 0), .bool (tickP s.ticks c).isSome]) ∧ Own w no w' []) := by
  refine calls_of_Wn (n := 28) Try.func75 rfl Try.ntmps75 rfl ?_
  have hs := Own.start w
  have hn2 := hr2.sml
  refine W_seq ?_
  refine W_region ?_
  refine RW_op (L_box (V := .agg ((vc s.known) ++ [(.slice a1 s.ents.length c1 : Value), (.slice a2 s.ticks.length c2 : Value) ]).toArray) (cs := (vc s.known) ++ [(.slice a1 s.ents.length c1 : Value), (.slice a2 s.ticks.length c2 : Value) ]) rfl rfl hs fun b1 w2 hs => ?_)
  refine RW_op (L_assign (V := .int .u32 0) rfl ?_)
  refine RW_op (L_assign (V := .bool false) rfl ?_)
  refine RW_nil ?_
  refine W_seq ?_
  refine W_seq ?_
  refine W_region ?_
  refine RW_op (L_assign (V := .int .i64 0) rfl ?_)
  refine RW_nil ?_
  refine W_block ?_
  refine W_loopI (fun ρ μ ρ' w' => ∃ (ρo : Env) (k : Nat), ρ' = upd (mix [4, 5, 6, 7, 8, 9, 10, 11, 12, 13, 14, 15, 16, 17, 18, 19, 20, 21, 22, 23, 24, 25, 26, 27] ρo ρ) 6 (.int .i64 ((k : Nat) : Int)) ∧ (k ≤ s.ticks.length) ∧ (∀ j : Nat, j < k → decide ((gd s.ticks j).cart = c) = false) ∧ μ = s.ticks.length - k ∧ Own w no w' [blk b1 ((vc s.known) ++ [(.slice a1 s.ents.length c1 : Value), (.slice a2 s.ticks.length c2 : Value) ]) 57]) ?_ ?_
  · exact ⟨_, _, 0, upd_of (mix_of (ds := [4, 5, 6, 7, 8, 9, 10, 11, 12, 13, 14, 15, 16, 17, 18, 19, 20, 21, 22, 23, 24, 25, 26, 27]) (Agr.refl _ _)) rfl, (by omega), (fun j hj => absurd hj (Nat.not_lt_zero j)), rfl, hs⟩
  · rintro μ ρ' w3 ⟨ρo, k, rfl, hk, hno, rfl, hs⟩
    refine W_seq ?_
    refine W_seq ?_
    refine W_region ?_
    refine RW_op (L_move (V := .int .i64 ((k : Nat) : Int)) rfl ?_)
    refine RW_op (L_fieldAddr FA_57_2 rfl ?_)
    refine RW_op (L_ld (V := .slice a2 s.ticks.length c2) S1_55 hs 0 rfl rfl rfl ?_)
    refine RW_op (L_lenR (n := s.ticks.length) UD_55 (Rd.own' hr2 hs) (by simp) rfl ?_)
    refine RW_op (L_lss rfl rfl ?_)
    refine RW_nil ?_
    refine W_cond (t := decide (((k : Nat) : Int) < ((s.ticks.length : Nat) : Int))) rfl (fun c4 => ?_) (fun c4 => ?_)
    ·
      replace c4 := of_decide_eq_true c4
      refine W_skip ?_
      refine W_seq ?_
      refine W_block ?_
      refine W_seq ?_
      refine W_region ?_
      refine RW_op (L_fieldAddr FA_57_2 rfl ?_)
      refine RW_op (L_ld (V := .slice a2 s.ticks.length c2) S1_55 hs 0 rfl rfl rfl ?_)
      refine RW_op (L_move (V := .int .i64 ((k : Nat) : Int)) rfl ?_)
      refine RW_op (L_ixR UD_55 SA_135.1 (Rd.own' hr2 hs) rfl rfl (by omega) (by rw [List.length_map]; omega) ?_)
      refine RW_op (L_fieldAddr FA_135_0 rfl ?_)
      refine RW_op (L_ldR (j := 0) (V := .int .u16 ((gd s.ticks k).cart)) k S1_70 (Rd.own' hr2 hs) (gd_at (by omega)) rfl rfl (by omega) ?_)
      refine RW_op (L_move (V := .int .u16 c) rfl ?_)
      refine RW_op (L_eql rfl rfl ?_)
      refine RW_nil ?_
      refine W_cond (t := decide ((gd s.ticks k).cart = c)) rfl (fun c5 => ?_) (fun c5 => ?_)
      ·
        replace c5 := of_decide_eq_true c5
        refine W_seq ?_
        refine W_region ?_
        refine RW_op (L_fieldAddr FA_57_2 rfl ?_)
        refine RW_op (L_ld (V := .slice a2 s.ticks.length c2) S1_55 hs 0 rfl rfl rfl ?_)
        refine RW_op (L_move (V := .int .i64 ((k : Nat) : Int)) rfl ?_)
        refine RW_op (L_ixR UD_55 SA_135.1 (Rd.own' hr2 hs) rfl rfl (by omega) (by rw [List.length_map]; omega) ?_)
        refine RW_op (L_fieldAddr FA_135_1 rfl ?_)
        refine RW_op (L_ldR (j := 1) (V := .int .u32 ((gd s.ticks k).tick)) k S1_51 (Rd.own' hr2 hs) (gd_at (by omega)) rfl rfl (by omega) ?_)
        refine RW_op (L_assign (V := .int .u32 ((gd s.ticks k).tick)) rfl ?_)
        refine RW_op (L_assign (V := .bool true) rfl ?_)
        refine RW_nil ?_
        refine W_ret ?_
        refine ⟨_, res_two (U := .int .u32 ((gd s.ticks k).tick)) (V := .bool true) Try.results75 rfl rfl, ?_⟩
        refine ⟨congrArg Ending.returned ?_, hs.take 0⟩
        have hX := tickP_at (by omega) hno c5
        rw [hX]; rfl
      ·
        replace c5 := of_decide_eq_false c5
        refine W_skip ?_
        refine W_region ?_
        refine RW_op (L_move (V := .int .i64 ((k : Nat) : Int)) rfl ?_)
        refine RW_op (L_add (a := ((k : Nat) : Int)) (b := 1) (c := ((k + 1 : Nat) : Int)) rfl rfl (nat_i64 (by omega) (by omega)) ?_)
        refine RW_op (L_assign (V := .int .i64 ((k + 1 : Nat) : Int)) rfl ?_)
        refine RW_nil ?_
        refine ⟨_, ?_, _, k + 1, upd_of (mix_of (ds := [4, 5, 6, 7, 8, 9, 10, 11, 12, 13, 14, 15, 16, 17, 18, 19, 20, 21, 22, 23, 24, 25, 26, 27]) (by repeat (first | exact Agr.refl _ _ | refine Agr.upd ?_ rfl | refine Agr.mix ?_ rfl))) rfl, (by omega), (no_step2 hno (decide_eq_false c5)), rfl, hs.take 1⟩
        omega
    ·
      replace c4 := of_decide_eq_false c4
      refine W_exit ?_
      refine W_seq ?_
      refine W_region ?_
      refine RW_op (L_assign (V := .int .u32 0) rfl ?_)
      refine RW_op (L_assign (V := .bool false) rfl ?_)
      refine RW_nil ?_
      refine W_ret ?_
      refine ⟨_, res_two (U := .int .u32 0) (V := .bool false) Try.results75 rfl rfl, ?_⟩
      refine ⟨congrArg Ending.returned ?_, hs.take 0⟩
      have hX := tickP_none (ts := s.ticks) (c := c) fun j hj => hno j (by omega)
      rw [hX]; rfl
set_option maxRecDepth 20000 in
set_option maxHeartbeats 4000000 in
theorem rright_ok (w : World) (s : Sta) (a1 : Option Addr) (c1 : Nat) (a2 : Option Addr) (c2 : Nat) (x : Cen) (hx : CenOk x) (hr1 : Rd w (.slice a1 s.ents.length c1) 7 (s.ents.map cec)) (hr2 : Rd w (.slice a2 s.ticks.length c2) 2 (s.ticks.map lsc)) : Calls Try.prog 91 #[.agg ((vc s.known) ++ [(.slice a1 s.ents.length c1 : Value), (.slice a2 s.ticks.length c2 : Value) ]).toArray, .agg (cec x).toArray] w (fun e w' => e = .returned (.bool (entB s x)) ∧ Own w no w' []) := by
  refine calls_of_Wn (n := 36) Try.func91 rfl Try.ntmps91 rfl ?_
  have hs := Own.start w
  have hdx := hx.2.2.2.2.1
  refine W_seq ?_
  refine W_region ?_
  refine RW_op (L_box (V := .agg ((vc s.known) ++ [(.slice a1 s.ents.length c1 : Value), (.slice a2 s.ticks.length c2 : Value) ]).toArray) (cs := (vc s.known) ++ [(.slice a1 s.ents.length c1 : Value), (.slice a2 s.ticks.length c2 : Value) ]) rfl rfl hs fun b1 w2 hs => ?_)
  refine RW_op (L_box (V := .agg (cec x).toArray) (cs := cec x) rfl rfl hs fun b3 w4 hs => ?_)
  refine RW_op (L_assign (V := .bool false) rfl ?_)
  refine RW_nil ?_
  refine W_seq ?_
  refine W_region ?_
  refine RW_op (L_ldW (cs := (vc s.known) ++ [(.slice a1 s.ents.length c1 : Value), (.slice a2 s.ticks.length c2 : Value) ]) SA_57 hs 0 rfl rfl rfl ?_)
  refine RW_op (L_fieldAddr FA_134_0 rfl ?_)
  refine RW_op (L_ld (V := .int .u16 x.cart) S1_70 hs 1 rfl rfl rfl ?_)
  refine RW_op (L_callP (vs := [.agg ((vc s.known) ++ [(.slice a1 s.ents.length c1 : Value), (.slice a2 s.ticks.length c2 : Value) ]).toArray, .int .u16 x.cart]) (V := .tuple #[.int .u32 ((tickP s.ticks x.cart).getD 0), .bool ((tickP s.ticks x.cart).isSome)]) EN_75 rfl rfl ?hc hs fun w5 hs => ?_)
  case hc => exact (rtick_ok _ s a1 c1 a2 c2 x.cart (Rd.own' hr1 hs) (Rd.own' hr2 hs))
  refine RW_op (L_move (V := .tuple #[.int .u32 ((tickP s.ticks x.cart).getD 0), .bool ((tickP s.ticks x.cart).isSome)]) rfl ?_)
  refine RW_op (L_extract (V := .int .u32 ((tickP s.ticks x.cart).getD 0)) rfl rfl ?_)
  refine RW_op (L_extract (V := .bool ((tickP s.ticks x.cart).isSome)) rfl rfl ?_)
  refine RW_op (L_assign (V := .int .u32 ((tickP s.ticks x.cart).getD 0)) rfl ?_)
  refine RW_op (L_assign (V := .bool ((tickP s.ticks x.cart).isSome)) rfl ?_)
  refine RW_nil ?_
  refine W_seq ?_
  refine W_regO [some 14, some 15, some 16, some 17, some 18, some 19, some 20, some 21, some 22, some 23, some 24, some 25, some 26, some 27, some 28, some 29, some 30, some 31, some 32, some 33, some 34, some 35, some 4] [] [0, 1, 3, 7, 15, 31, 63, 127, 63, 319, 1023, 2047, 4095, 8191, 16383, 32767, 65535, 131071, 262143, 524287, 1048575, 2097151, 4194303] [pv (.bool ((tickP s.ticks x.cart).isSome)), pv (.bool ((tickP s.ticks x.cart).isSome)), pg (((tickP s.ticks x.cart).isSome) == true) (.agg (cec x).toArray), pg (((tickP s.ticks x.cart).isSome) == true) (.bool (shapedB x)), pv (.bool (((tickP s.ticks x.cart).isSome) && (shapedB x))), pv (.bool (((tickP s.ticks x.cart).isSome) && (shapedB x))), pg ((((tickP s.ticks x.cart).isSome) && (shapedB x)) == true) (.pointer (some ⟨b1, 0 + 0, none⟩)), pg ((((tickP s.ticks x.cart).isSome) && (shapedB x)) == true) (.agg (vc s.known).toArray), pg ((((tickP s.ticks x.cart).isSome) && (shapedB x)) == true) (.pointer (some ⟨b3, 0 + 4, none⟩)), pg ((((tickP s.ticks x.cart).isSome) && (shapedB x)) == true) (.agg (dc x.dot).toArray), pg ((((tickP s.ticks x.cart).isSome) && (shapedB x)) == true) (.bool (hasB s.known x.dot)), pv (.bool ((((tickP s.ticks x.cart).isSome) && (shapedB x)) && (hasB s.known x.dot))), pv (.bool ((((tickP s.ticks x.cart).isSome) && (shapedB x)) && (hasB s.known x.dot))), pg (((((tickP s.ticks x.cart).isSome) && (shapedB x)) && (hasB s.known x.dot)) == true) (.pointer (some ⟨b3, 0 + 6, none⟩)), pg (((((tickP s.ticks x.cart).isSome) && (shapedB x)) && (hasB s.known x.dot)) == true) (.int .u64 x.count), pg (((((tickP s.ticks x.cart).isSome) && (shapedB x)) && (hasB s.known x.dot)) == true) (.bool (decide (1 ≤ x.count))), pv (.bool (((((tickP s.ticks x.cart).isSome) && (shapedB x)) && (hasB s.known x.dot)) && (decide (1 ≤ x.count)))), pv (.bool (((((tickP s.ticks x.cart).isSome) && (shapedB x)) && (hasB s.known x.dot)) && (decide (1 ≤ x.count)))), pg ((((((tickP s.ticks x.cart).isSome) && (shapedB x)) && (hasB s.known x.dot)) && (decide (1 ≤ x.count))) == true) (.pointer (some ⟨b3, 0 + 6, none⟩)), pg ((((((tickP s.ticks x.cart).isSome) && (shapedB x)) && (hasB s.known x.dot)) && (decide (1 ≤ x.count))) == true) (.int .u64 x.count), pg ((((((tickP s.ticks x.cart).isSome) && (shapedB x)) && (hasB s.known x.dot)) && (decide (1 ≤ x.count))) == true) (.bool (decide (x.count ≤ 16777217))), pv (.bool ((((((tickP s.ticks x.cart).isSome) && (shapedB x)) && (hasB s.known x.dot)) && (decide (1 ≤ x.count))) && (decide (x.count ≤ 16777217)))), pv (.bool ((((((tickP s.ticks x.cart).isSome) && (shapedB x)) && (hasB s.known x.dot)) && (decide (1 ≤ x.count))) && (decide (x.count ≤ 16777217))))] (fun _ _ => _) [22] (by kernel_rfl) hs ⟨?_, ?_, ?_, ?_, ?_, ?_, ?_, ?_, ?_, ?_, ?_, ?_, ?_, ?_, ?_, ?_, ?_, ?_, ?_, ?_, ?_, ?_, ?_, trivial⟩ ?_
  · exact ob [] [] rfl rfl fun D ρ w hs => L_move (V := .bool ((tickP s.ticks x.cart).isSome)) rfl ⟨rfl, hs⟩
  · exact ob [0] [] rfl rfl fun D ρ w hs => L_move (V := .bool ((tickP s.ticks x.cart).isSome)) rfl ⟨rfl, hs⟩
  · exact obg [1] [] ((tickP s.ticks x.cart).isSome) rfl (fun _ => rfl) rfl (fun _ _ _ _ h => h) fun D ρ w hG hs => L_ldW (cs := cec x) SA_134 hs 1 rfl rfl rfl ⟨rfl, hs⟩
  · exact obgy [1, 2] [] [2] ((tickP s.ticks x.cart).isSome) rfl (fun _ => rfl) rfl (fun _ _ _ _ h => h) (fun hG => ⟨hG, trivial⟩) fun D ρ w hG hs => L_callP (vs := [.agg (cec x).toArray]) (V := .bool (shapedB x)) EN_122 rfl rfl (rShaped_ok _ x hx) hs fun _ hs => ⟨rfl, hs⟩
  · exact ob [1, 3] [] rfl rfl fun D ρ w hs => L_andC (h' := shapedB x) rfl rfl rfl ⟨rfl, hs⟩
  · exact ob [4] [] rfl rfl fun D ρ w hs => L_move (V := .bool (((tickP s.ticks x.cart).isSome) && (shapedB x))) rfl ⟨rfl, hs⟩
  · exact obg [5] [] (((tickP s.ticks x.cart).isSome) && (shapedB x)) rfl (fun _ => rfl) rfl (fun _ _ _ _ h => h) fun D ρ w hG hs => L_fieldAddr FA_57_0 rfl ⟨rfl, hs⟩
  · exact obgy [5, 6] [] [6] (((tickP s.ticks x.cart).isSome) && (shapedB x)) rfl (fun _ => rfl) rfl (fun _ _ _ _ h => h) (fun hG => ⟨hG, trivial⟩) fun D ρ w hG hs => L_ldA (vs := vc s.known) SA_53 hs 0 rfl rfl rfl rfl ⟨rfl, hs⟩
  · exact obg [5] [] (((tickP s.ticks x.cart).isSome) && (shapedB x)) rfl (fun _ => rfl) rfl (fun _ _ _ _ h => h) fun D ρ w hG hs => L_fieldAddr FA_134_4 rfl ⟨rfl, hs⟩
  · exact obgy [5, 8] [] [8] (((tickP s.ticks x.cart).isSome) && (shapedB x)) rfl (fun _ => rfl) rfl (fun _ _ _ _ h => h) (fun hG => ⟨hG, trivial⟩) fun D ρ w hG hs => L_ldA (vs := dc x.dot) SA_96 hs 1 rfl rfl rfl rfl ⟨rfl, hs⟩
  · exact obgy [5, 7, 9] [] [7, 9] (((tickP s.ticks x.cart).isSome) && (shapedB x)) rfl (fun _ => rfl) rfl (fun _ _ _ _ h => h) (fun hG => ⟨hG, hG, trivial⟩) fun D ρ w hG hs => L_callP (vs := [.agg (vc s.known).toArray, .agg (dc x.dot).toArray]) (V := .bool (hasB s.known x.dot)) EN_67 rfl rfl (rHas_ok _ s.known x.dot (by first | assumption | exact dotOk_mk (by omega) (by omega) (by omega) (by omega))) hs fun _ hs => ⟨rfl, hs⟩
  · exact ob [5, 10] [] rfl rfl fun D ρ w hs => L_andC (h' := hasB s.known x.dot) rfl rfl rfl ⟨rfl, hs⟩
  · exact ob [11] [] rfl rfl fun D ρ w hs => L_move (V := .bool ((((tickP s.ticks x.cart).isSome) && (shapedB x)) && (hasB s.known x.dot))) rfl ⟨rfl, hs⟩
  · exact obg [12] [] ((((tickP s.ticks x.cart).isSome) && (shapedB x)) && (hasB s.known x.dot)) rfl (fun _ => rfl) rfl (fun _ _ _ _ h => h) fun D ρ w hG hs => L_fieldAddr FA_134_5 rfl ⟨rfl, hs⟩
  · exact obgy [12, 13] [] [13] ((((tickP s.ticks x.cart).isSome) && (shapedB x)) && (hasB s.known x.dot)) rfl (fun _ => rfl) rfl (fun _ _ _ _ h => h) (fun hG => ⟨hG, trivial⟩) fun D ρ w hG hs => L_ld (V := .int .u64 x.count) S1_92 hs 1 rfl rfl rfl ⟨rfl, hs⟩
  · exact obgy [12, 14] [] [14] ((((tickP s.ticks x.cart).isSome) && (shapedB x)) && (hasB s.known x.dot)) rfl (fun _ => rfl) rfl (fun _ _ _ _ h => h) (fun hG => ⟨hG, trivial⟩) fun D ρ w hG hs => L_geq rfl rfl ⟨rfl, hs⟩
  · exact ob [12, 15] [] rfl rfl fun D ρ w hs => L_andC (h' := decide (1 ≤ x.count)) rfl rfl rfl ⟨rfl, hs⟩
  · exact ob [16] [] rfl rfl fun D ρ w hs => L_move (V := .bool (((((tickP s.ticks x.cart).isSome) && (shapedB x)) && (hasB s.known x.dot)) && (decide (1 ≤ x.count)))) rfl ⟨rfl, hs⟩
  · exact obg [17] [] (((((tickP s.ticks x.cart).isSome) && (shapedB x)) && (hasB s.known x.dot)) && (decide (1 ≤ x.count))) rfl (fun _ => rfl) rfl (fun _ _ _ _ h => h) fun D ρ w hG hs => L_fieldAddr FA_134_5 rfl ⟨rfl, hs⟩
  · exact obgy [17, 18] [] [18] (((((tickP s.ticks x.cart).isSome) && (shapedB x)) && (hasB s.known x.dot)) && (decide (1 ≤ x.count))) rfl (fun _ => rfl) rfl (fun _ _ _ _ h => h) (fun hG => ⟨hG, trivial⟩) fun D ρ w hG hs => L_ld (V := .int .u64 x.count) S1_92 hs 1 rfl rfl rfl ⟨rfl, hs⟩
  · exact obgy [17, 19] [] [19] (((((tickP s.ticks x.cart).isSome) && (shapedB x)) && (hasB s.known x.dot)) && (decide (1 ≤ x.count))) rfl (fun _ => rfl) rfl (fun _ _ _ _ h => h) (fun hG => ⟨hG, trivial⟩) fun D ρ w hG hs => L_leq rfl rfl ⟨rfl, hs⟩
  · exact ob [17, 20] [] rfl rfl fun D ρ w hs => L_andC (h' := decide (x.count ≤ 16777217)) rfl rfl rfl ⟨rfl, hs⟩
  · exact ob [21] [] rfl rfl fun D ρ w hs => L_assign (V := .bool ((((((tickP s.ticks x.cart).isSome) && (shapedB x)) && (hasB s.known x.dot)) && (decide (1 ≤ x.count))) && (decide (x.count ≤ 16777217)))) rfl ⟨rfl, hs⟩
  rintro ρ1 w8 ρ2 hρ hs
  replace hρ : ρ2 = upd (mix [14, 15, 16, 17, 18, 19, 20, 21, 22, 23, 24, 25, 26, 27, 28, 29, 30, 31, 32, 33, 34, 35, 4] ρ1 _) 4 (.bool ((((((tickP s.ticks x.cart).isSome) && (shapedB x)) && (hasB s.known x.dot)) && (decide (1 ≤ x.count))) && (decide (x.count ≤ 16777217)))) := hρ
  subst hρ
  refine W_ret ?_
  refine ⟨_, res_one (V := .bool ((((((tickP s.ticks x.cart).isSome) && (shapedB x)) && (hasB s.known x.dot)) && (decide (1 ≤ x.count))) && (decide (x.count ≤ 16777217)))) Try.results91 rfl, ?_⟩
  refine ⟨congrArg Ending.returned ?_, hs.take 0⟩
  rfl
set_option maxRecDepth 20000 in
set_option maxHeartbeats 4000000 in
theorem rRight8_ok (w : World) (s : Sta) (a1 : Option Addr) (c1 : Nat) (a2 : Option Addr) (c2 : Nat) (hok : StaOk s) (hr1 : Rd w (.slice a1 s.ents.length c1) 7 (s.ents.map cec)) (hr2 : Rd w (.slice a2 s.ticks.length c2) 2 (s.ticks.map lsc)) : Calls Try.prog 46 #[.agg ((vc s.known) ++ [(.slice a1 s.ents.length c1 : Value), (.slice a2 s.ticks.length c2 : Value) ]).toArray] w (fun e w' => e = .returned (.bool (rightS s)) ∧ Own w no w' []) := by
  refine calls_of_Wn (n := 95) Try.func46 rfl Try.ntmps46 rfl ?_
  have hs := Own.start w
  have ⟨hv0, hE0, hT0⟩ := hok
  have hn1 := hr1.sml
  have hn2 := hr2.sml
  refine W_seq ?_
  refine W_region ?_
  refine RW_op (L_box (V := .agg ((vc s.known) ++ [(.slice a1 s.ents.length c1 : Value), (.slice a2 s.ticks.length c2 : Value) ]).toArray) (cs := (vc s.known) ++ [(.slice a1 s.ents.length c1 : Value), (.slice a2 s.ticks.length c2 : Value) ]) rfl rfl hs fun b1 w2 hs => ?_)
  refine RW_op (L_assign (V := .bool false) rfl ?_)
  refine RW_nil ?_
  refine W_seq ?_
  refine W_seq ?_
  refine W_region ?_
  refine RW_op (L_assign (V := .int .i64 0) rfl ?_)
  refine RW_nil ?_
  refine W_block ?_
  refine W_loopI (fun ρ μ ρ' w' => ∃ (ρo : Env) (k : Nat), ρ' = upd (mix [2, 3, 6, 7, 8, 9, 10, 11, 12, 13, 14, 15, 16, 17, 18, 19, 20, 21, 22, 23, 24, 25, 26, 27, 28, 29, 30, 31, 32, 33, 34, 35, 36, 37, 38, 39] ρo ρ) 3 (.int .i64 ((k : Nat) : Int)) ∧ (k ≤ s.ticks.length) ∧ (∀ j : Nat, j < k → badT s.ticks j = false) ∧ μ = s.ticks.length - k ∧ Own w no w' [blk b1 ((vc s.known) ++ [(.slice a1 s.ents.length c1 : Value), (.slice a2 s.ticks.length c2 : Value) ]) 57]) ?_ ?_
  · exact ⟨_, _, 0, upd_of (mix_of (ds := [2, 3, 6, 7, 8, 9, 10, 11, 12, 13, 14, 15, 16, 17, 18, 19, 20, 21, 22, 23, 24, 25, 26, 27, 28, 29, 30, 31, 32, 33, 34, 35, 36, 37, 38, 39]) (Agr.refl _ _)) rfl, (by omega), (fun j hj => absurd hj (Nat.not_lt_zero j)), rfl, hs⟩
  · rintro μ ρ' w3 ⟨ρo, k, rfl, hk, hbt, rfl, hs⟩
    refine W_seq ?_
    refine W_seq ?_
    refine W_region ?_
    refine RW_op (L_move (V := .int .i64 ((k : Nat) : Int)) rfl ?_)
    refine RW_op (L_fieldAddr FA_57_2 rfl ?_)
    refine RW_op (L_ld (V := .slice a2 s.ticks.length c2) S1_55 hs 0 rfl rfl rfl ?_)
    refine RW_op (L_lenR (n := s.ticks.length) UD_55 (Rd.own' hr2 hs) (by simp) rfl ?_)
    refine RW_op (L_lss rfl rfl ?_)
    refine RW_nil ?_
    refine W_cond (t := decide (((k : Nat) : Int) < ((s.ticks.length : Nat) : Int))) rfl (fun c4 => ?_) (fun c4 => ?_)
    ·
      replace c4 := of_decide_eq_true c4
      refine W_skip ?_
      refine W_seq ?_
      refine W_block ?_
      refine W_seq ?_
      refine W_regD HM [some 13, some 14, some 15, some 16, some 17, some 18, some 19, some 20, some 21, some 22, some 23, some 24, some 25, some 26, some 27, some 28, some 29, some 30, some 31, some 32, some 33, some 34, some 35, some 36, some 37, some 38, some 39] [] [0, 1, 0, 7, 15, 31, 63, 127, 255, 511, 1023, 2047, 4095, 2047, 10239, 32767, 65535, 131071, 2047, 264191, 2047, 1837055, 3934207, 8128511, 16777215, 33554431, 67108863] [pv (.pointer (some ⟨b1, 0 + 17, none⟩)), pv (.slice a2 s.ticks.length c2), pv (.int .i64 ((k : Nat) : Int)), pv (.pointer (some ⟨bkS (.slice a2 s.ticks.length c2), ofS (.slice a2 s.ticks.length c2) + ((k : Nat) : Int).toNat * 2, none⟩)), pv (.pointer (some ⟨bkS (.slice a2 s.ticks.length c2), ofS (.slice a2 s.ticks.length c2) + ((k : Nat) : Int).toNat * 2 + 1, none⟩)), pv (.int .u32 ((gd s.ticks k).tick)), pv (.bool (decide (1073741824 < (gd s.ticks k).tick))), pv (.bool (decide (1073741824 < (gd s.ticks k).tick))), pg ((decide (1073741824 < (gd s.ticks k).tick)) == false) (.int .i64 ((k : Nat) : Int)), pg ((decide (1073741824 < (gd s.ticks k).tick)) == false) (.bool (decide (0 < ((k : Nat) : Int)))), pg ((decide (1073741824 < (gd s.ticks k).tick)) == false) (.bool (decide (0 < ((k : Nat) : Int)))), pg (((decide (1073741824 < (gd s.ticks k).tick)) == false) && ((decide (0 < ((k : Nat) : Int))) == true)) (.pointer (some ⟨b1, 0 + 17, none⟩)), pg (((decide (1073741824 < (gd s.ticks k).tick)) == false) && ((decide (0 < ((k : Nat) : Int))) == true)) (.slice a2 s.ticks.length c2), pg (((decide (1073741824 < (gd s.ticks k).tick)) == false) && ((decide (0 < ((k : Nat) : Int))) == true)) (.int .i64 ((k : Nat) : Int)), pg (((decide (1073741824 < (gd s.ticks k).tick)) == false) && ((decide (0 < ((k : Nat) : Int))) == true)) (.int .i64 ((k - 1 : Nat) : Int)), pg (((decide (1073741824 < (gd s.ticks k).tick)) == false) && ((decide (0 < ((k : Nat) : Int))) == true)) (.pointer (some ⟨bkS (.slice a2 s.ticks.length c2), ofS (.slice a2 s.ticks.length c2) + ((k - 1 : Nat) : Int).toNat * 2, none⟩)), pg (((decide (1073741824 < (gd s.ticks k).tick)) == false) && ((decide (0 < ((k : Nat) : Int))) == true)) (.pointer (some ⟨bkS (.slice a2 s.ticks.length c2), ofS (.slice a2 s.ticks.length c2) + ((k - 1 : Nat) : Int).toNat * 2 + 0, none⟩)), pg (((decide (1073741824 < (gd s.ticks k).tick)) == false) && ((decide (0 < ((k : Nat) : Int))) == true)) (.int .u16 ((gd s.ticks (k - 1)).cart)), pg (((decide (1073741824 < (gd s.ticks k).tick)) == false) && ((decide (0 < ((k : Nat) : Int))) == true)) (.pointer (some ⟨b1, 0 + 17, none⟩)), pg (((decide (1073741824 < (gd s.ticks k).tick)) == false) && ((decide (0 < ((k : Nat) : Int))) == true)) (.slice a2 s.ticks.length c2), pg (((decide (1073741824 < (gd s.ticks k).tick)) == false) && ((decide (0 < ((k : Nat) : Int))) == true)) (.int .i64 ((k : Nat) : Int)), pg (((decide (1073741824 < (gd s.ticks k).tick)) == false) && ((decide (0 < ((k : Nat) : Int))) == true)) (.pointer (some ⟨bkS (.slice a2 s.ticks.length c2), ofS (.slice a2 s.ticks.length c2) + ((k : Nat) : Int).toNat * 2, none⟩)), pg (((decide (1073741824 < (gd s.ticks k).tick)) == false) && ((decide (0 < ((k : Nat) : Int))) == true)) (.pointer (some ⟨bkS (.slice a2 s.ticks.length c2), ofS (.slice a2 s.ticks.length c2) + ((k : Nat) : Int).toNat * 2 + 0, none⟩)), pg (((decide (1073741824 < (gd s.ticks k).tick)) == false) && ((decide (0 < ((k : Nat) : Int))) == true)) (.int .u16 ((gd s.ticks k).cart)), pg (((decide (1073741824 < (gd s.ticks k).tick)) == false) && ((decide (0 < ((k : Nat) : Int))) == true)) (.bool (decide ((gd s.ticks k).cart ≤ (gd s.ticks (k - 1)).cart))), pg ((decide (1073741824 < (gd s.ticks k).tick)) == false) (.bool ((decide (0 < ((k : Nat) : Int))) && (decide ((gd s.ticks k).cart ≤ (gd s.ticks (k - 1)).cart)))), pv (.bool ((decide (1073741824 < (gd s.ticks k).tick)) || ((decide (0 < ((k : Nat) : Int))) && (decide ((gd s.ticks k).cart ≤ (gd s.ticks (k - 1)).cart)))))] (fun _ _ => _) [26] (by kernel_rfl) hs ⟨?_, ?_, ?_, ?_, ?_, ?_, ?_, ?_, ?_, ?_, ?_, ?_, ?_, ?_, ?_, ?_, ?_, ?_, ?_, ?_, ?_, ?_, ?_, ?_, ?_, ?_, ?_, trivial⟩ ?_
      · exact ob [] [] rfl rfl fun D ρ w hs => L_fieldAddr FA_57_2 rfl ⟨rfl, hs⟩
      · exact ob [0] [] rfl rfl fun D ρ w hs => L_ld (V := .slice a2 s.ticks.length c2) S1_55 hs 0 rfl rfl rfl ⟨rfl, hs⟩
      · exact ob [] [] rfl rfl fun D ρ w hs => L_move (V := .int .i64 ((k : Nat) : Int)) rfl ⟨rfl, hs⟩
      · exact ob [1, 2] [] rfl rfl fun D ρ w hs => L_ixR UD_55 SA_135.1 (Rd.own' hr2 hs) rfl rfl (by omega) (by rw [List.length_map]; omega) ⟨rfl, hs⟩
      · exact ob [3] [] rfl rfl fun D ρ w hs => L_fieldAddr FA_135_1 rfl ⟨rfl, hs⟩
      · exact ob [4] [] rfl rfl fun D ρ w hs => L_ldR (j := 1) (V := .int .u32 ((gd s.ticks k).tick)) k S1_51 (Rd.own' hr2 hs) (gd_at (by omega)) rfl rfl (by omega) ⟨rfl, hs⟩
      · exact ob [5] [] rfl rfl fun D ρ w hs => L_gtr rfl rfl ⟨rfl, hs⟩
      · exact ob [6] [] rfl rfl fun D ρ w hs => L_move (V := .bool (decide (1073741824 < (gd s.ticks k).tick))) rfl ⟨rfl, hs⟩
      · exact obg [7] [] (decide (1073741824 < (gd s.ticks k).tick)) rfl (fun _ => rfl) rfl (fun _ _ _ _ h => h) fun D ρ w hG hs => L_move (V := .int .i64 ((k : Nat) : Int)) rfl ⟨rfl, hs⟩
      · exact obgy [7, 8] [] [8] (decide (1073741824 < (gd s.ticks k).tick)) rfl (fun _ => rfl) rfl (fun _ _ _ _ h => h) (fun hG => ⟨hG, trivial⟩) fun D ρ w hG hs => L_gtr rfl rfl ⟨rfl, hs⟩
      · exact obgy [7, 9] [] [9] (decide (1073741824 < (gd s.ticks k).tick)) rfl (fun _ => rfl) rfl (fun _ _ _ _ h => h) (fun hG => ⟨hG, trivial⟩) fun D ρ w hG hs => L_move (V := .bool (decide (0 < ((k : Nat) : Int)))) rfl ⟨rfl, hs⟩
      · exact obg [10] [] (decide (0 < ((k : Nat) : Int))) rfl (fun _ => rfl) rfl (fun _ _ _ _ h => h) fun D ρ w hG hs => L_fieldAddr FA_57_2 rfl ⟨rfl, hs⟩
      · exact obgy [10, 11] [] [11] (decide (0 < ((k : Nat) : Int))) rfl (fun _ => rfl) rfl (fun _ _ _ _ h => h) (fun hG => ⟨hG, trivial⟩) fun D ρ w hG hs => L_ld (V := .slice a2 s.ticks.length c2) S1_55 hs 0 rfl rfl rfl ⟨rfl, hs⟩
      · exact obg [10] [] (decide (0 < ((k : Nat) : Int))) rfl (fun _ => rfl) rfl (fun _ _ _ _ h => h) fun D ρ w hG hs => L_move (V := .int .i64 ((k : Nat) : Int)) rfl ⟨rfl, hs⟩
      · refine obgy [10, 13] [] [13] (decide (0 < ((k : Nat) : Int))) rfl (fun _ => rfl) rfl (fun _ _ _ _ h => h) (fun hG => ⟨hG, trivial⟩) fun D ρ w hG hs => ?_
        have hgd0 := of_decide_eq_false (eq_of_beq (and_l (hG)))
        have hgd1 := of_decide_eq_true (eq_of_beq (and_r (hG)))
        exact L_sub (a := ((k : Nat) : Int)) (b := 1) (c := ((k - 1 : Nat) : Int)) rfl rfl (nat_i64 (by omega) (by omega)) ⟨rfl, hs⟩
      · refine obgy [10, 12, 14] [] [12, 14] (decide (0 < ((k : Nat) : Int))) rfl (fun _ => rfl) rfl (fun _ _ _ _ h => h) (fun hG => ⟨hG, hG, trivial⟩) fun D ρ w hG hs => ?_
        have hgd0 := of_decide_eq_false (eq_of_beq (and_l (hG)))
        have hgd1 := of_decide_eq_true (eq_of_beq (and_r (hG)))
        exact L_ixR UD_55 SA_135.1 (Rd.own' hr2 hs) rfl rfl (by omega) (by rw [List.length_map]; omega) ⟨rfl, hs⟩
      · exact obgy [10, 15] [] [15] (decide (0 < ((k : Nat) : Int))) rfl (fun _ => rfl) rfl (fun _ _ _ _ h => h) (fun hG => ⟨hG, trivial⟩) fun D ρ w hG hs => L_fieldAddr FA_135_0 rfl ⟨rfl, hs⟩
      · refine obgy [10, 16] [] [16] (decide (0 < ((k : Nat) : Int))) rfl (fun _ => rfl) rfl (fun _ _ _ _ h => h) (fun hG => ⟨hG, trivial⟩) fun D ρ w hG hs => ?_
        have hgd0 := of_decide_eq_false (eq_of_beq (and_l (hG)))
        have hgd1 := of_decide_eq_true (eq_of_beq (and_r (hG)))
        exact L_ldR (j := 0) (V := .int .u16 ((gd s.ticks (k - 1)).cart)) (k - 1) S1_70 (Rd.own' hr2 hs) (gd_at (by omega)) rfl rfl (by omega) ⟨rfl, hs⟩
      · exact obg [10] [] (decide (0 < ((k : Nat) : Int))) rfl (fun _ => rfl) rfl (fun _ _ _ _ h => h) fun D ρ w hG hs => L_fieldAddr FA_57_2 rfl ⟨rfl, hs⟩
      · exact obgy [10, 18] [] [18] (decide (0 < ((k : Nat) : Int))) rfl (fun _ => rfl) rfl (fun _ _ _ _ h => h) (fun hG => ⟨hG, trivial⟩) fun D ρ w hG hs => L_ld (V := .slice a2 s.ticks.length c2) S1_55 hs 0 rfl rfl rfl ⟨rfl, hs⟩
      · exact obg [10] [] (decide (0 < ((k : Nat) : Int))) rfl (fun _ => rfl) rfl (fun _ _ _ _ h => h) fun D ρ w hG hs => L_move (V := .int .i64 ((k : Nat) : Int)) rfl ⟨rfl, hs⟩
      · refine obgy [10, 19, 20] [] [19, 20] (decide (0 < ((k : Nat) : Int))) rfl (fun _ => rfl) rfl (fun _ _ _ _ h => h) (fun hG => ⟨hG, hG, trivial⟩) fun D ρ w hG hs => ?_
        have hgd0 := of_decide_eq_false (eq_of_beq (and_l (hG)))
        have hgd1 := of_decide_eq_true (eq_of_beq (and_r (hG)))
        exact L_ixR UD_55 SA_135.1 (Rd.own' hr2 hs) rfl rfl (by omega) (by rw [List.length_map]; omega) ⟨rfl, hs⟩
      · exact obgy [10, 21] [] [21] (decide (0 < ((k : Nat) : Int))) rfl (fun _ => rfl) rfl (fun _ _ _ _ h => h) (fun hG => ⟨hG, trivial⟩) fun D ρ w hG hs => L_fieldAddr FA_135_0 rfl ⟨rfl, hs⟩
      · refine obgy [10, 22] [] [22] (decide (0 < ((k : Nat) : Int))) rfl (fun _ => rfl) rfl (fun _ _ _ _ h => h) (fun hG => ⟨hG, trivial⟩) fun D ρ w hG hs => ?_
        have hgd0 := of_decide_eq_false (eq_of_beq (and_l (hG)))
        have hgd1 := of_decide_eq_true (eq_of_beq (and_r (hG)))
        exact L_ldR (j := 0) (V := .int .u16 ((gd s.ticks k).cart)) k S1_70 (Rd.own' hr2 hs) (gd_at (by omega)) rfl rfl (by omega) ⟨rfl, hs⟩
      · exact obgy [10, 17, 23] [] [17, 23] (decide (0 < ((k : Nat) : Int))) rfl (fun _ => rfl) rfl (fun _ _ _ _ h => h) (fun hG => ⟨hG, hG, trivial⟩) fun D ρ w hG hs => L_geq rfl rfl ⟨rfl, hs⟩
      · exact obgy [7, 10, 24] [] [10] (decide (1073741824 < (gd s.ticks k).tick)) rfl (fun _ => rfl) rfl (fun _ _ _ _ h => h) (fun hG => ⟨hG, trivial⟩) fun D ρ w hG hs => L_andN (h' := decide ((gd s.ticks k).cart ≤ (gd s.ticks (k - 1)).cart)) (G := ((decide (1073741824 < (gd s.ticks k).tick)) == false)) hG rfl rfl rfl ⟨rfl, hs⟩
      · exact ob [7, 25] [] rfl rfl fun D ρ w hs => L_orC (h' := (decide (0 < ((k : Nat) : Int))) && (decide ((gd s.ticks k).cart ≤ (gd s.ticks (k - 1)).cart))) rfl rfl rfl ⟨rfl, hs⟩
      rintro ρ1 w5 ρ2 hρ hs
      replace hρ : ρ2 = upd (mix [13, 14, 15, 16, 17, 18, 19, 20, 21, 22, 23, 24, 25, 26, 27, 28, 29, 30, 31, 32, 33, 34, 35, 36, 37, 38, 39] ρ1 _) 39 (.bool ((decide (1073741824 < (gd s.ticks k).tick)) || ((decide (0 < ((k : Nat) : Int))) && (decide ((gd s.ticks k).cart ≤ (gd s.ticks (k - 1)).cart))))) := hρ
      subst hρ
      refine W_cond (t := (decide (1073741824 < (gd s.ticks k).tick)) || ((decide (0 < ((k : Nat) : Int))) && (decide ((gd s.ticks k).cart ≤ (gd s.ticks (k - 1)).cart)))) rfl (fun c6 => ?_) (fun c6 => ?_)
      ·
        refine W_seq ?_
        refine W_region ?_
        refine RW_op (L_assign (V := .bool false) rfl ?_)
        refine RW_nil ?_
        refine W_ret ?_
        refine ⟨_, res_one (V := .bool false) Try.results46 rfl, ?_⟩
        refine ⟨congrArg Ending.returned ?_, hs.take 0⟩
        exact congrArg Value.bool (right_badT (i := k) (by omega) (by unfold badT; have hq := c6; simpa using hq)).symm
      ·
        have c6r := or_r c6
        replace c6 := or_l c6
        replace c6 := of_decide_eq_false c6
        refine W_skip ?_
        refine W_region ?_
        refine RW_op (L_move (V := .int .i64 ((k : Nat) : Int)) rfl ?_)
        refine RW_op (L_add (a := ((k : Nat) : Int)) (b := 1) (c := ((k + 1 : Nat) : Int)) rfl rfl (nat_i64 (by omega) (by omega)) ?_)
        refine RW_op (L_assign (V := .int .i64 ((k + 1 : Nat) : Int)) rfl ?_)
        refine RW_nil ?_
        refine ⟨_, ?_, _, k + 1, upd_of (mix_of (ds := [2, 3, 6, 7, 8, 9, 10, 11, 12, 13, 14, 15, 16, 17, 18, 19, 20, 21, 22, 23, 24, 25, 26, 27, 28, 29, 30, 31, 32, 33, 34, 35, 36, 37, 38, 39]) (by repeat (first | exact Agr.refl _ _ | refine Agr.upd ?_ rfl | refine Agr.mix ?_ rfl))) rfl, (by omega), (no_step2 hbt (by unfold badT; rw [decide_eq_false c6, Bool.false_or]; have hq := c6r; simpa using hq)), rfl, hs.take 1⟩
        omega
    ·
      replace c4 := of_decide_eq_false c4
      refine W_exit ?_
      refine W_seq ?_
      refine W_seq ?_
      refine W_region ?_
      refine RW_op (L_assign (V := .int .i64 0) rfl ?_)
      refine RW_nil ?_
      refine W_block ?_
      refine W_loopI (fun ρ μ ρ' w' => ∃ (ρo : Env) (k2 : Nat), ρ' = upd (mix [2, 4, 5, 40, 41, 42, 43, 44, 45, 46, 47, 48, 49, 50, 51, 52, 53, 54, 55, 56, 57, 58, 59, 60, 61, 62, 63, 64, 65, 66, 67, 68, 69, 70, 71, 72, 73, 74, 75, 76, 77, 78, 79, 80, 81, 82, 83, 84, 85, 86, 87, 88, 89, 90, 91] ρo ρ) 4 (.int .i64 ((k2 : Nat) : Int)) ∧ (k2 ≤ s.ents.length) ∧ (∀ j : Nat, j < k2 → badE s j = false) ∧ μ = s.ents.length - k2 ∧ Own w no w' [blk b1 ((vc s.known) ++ [(.slice a1 s.ents.length c1 : Value), (.slice a2 s.ticks.length c2 : Value) ]) 57]) ?_ ?_
      · exact ⟨_, _, 0, upd_of (mix_of (ds := [2, 4, 5, 40, 41, 42, 43, 44, 45, 46, 47, 48, 49, 50, 51, 52, 53, 54, 55, 56, 57, 58, 59, 60, 61, 62, 63, 64, 65, 66, 67, 68, 69, 70, 71, 72, 73, 74, 75, 76, 77, 78, 79, 80, 81, 82, 83, 84, 85, 86, 87, 88, 89, 90, 91]) (Agr.refl _ _)) rfl, (by omega), (fun j hj => absurd hj (Nat.not_lt_zero j)), rfl, hs⟩
      · rintro μ ρ' w7 ⟨ρo, k2, rfl, hk2, hbe, rfl, hs⟩
        refine W_seq ?_
        refine W_seq ?_
        refine W_region ?_
        refine RW_op (L_move (V := .int .i64 ((k2 : Nat) : Int)) rfl ?_)
        refine RW_op (L_fieldAddr FA_57_1 rfl ?_)
        refine RW_op (L_ld (V := .slice a1 s.ents.length c1) S1_54 hs 0 rfl rfl rfl ?_)
        refine RW_op (L_lenR (n := s.ents.length) UD_54 (Rd.own' hr1 hs) (by simp) rfl ?_)
        refine RW_op (L_lss rfl rfl ?_)
        refine RW_nil ?_
        refine W_cond (t := decide (((k2 : Nat) : Int) < ((s.ents.length : Nat) : Int))) rfl (fun c8 => ?_) (fun c8 => ?_)
        ·
          replace c8 := of_decide_eq_true c8
          refine W_skip ?_
          refine W_seq ?_
          refine W_block ?_
          refine W_seq ?_
          refine W_seq ?_
          refine W_regD HM [some 47, some 48, some 49, some 50, some 51, some 52, some 53, some 54, some 55, some 56, some 57, some 58, some 59, some 60, some 61, some 62, some 63, some 64, some 65, some 66, some 67, some 68, some 69, some 70, some 71, some 72, some 73] [] [0, 0, 2, 0, 14, 30, 63, 127, 255, 511, 1023, 2047, 4095, 8191, 4095, 20479, 65535, 131071, 4095, 266239, 4095, 1839103, 3936255, 8388607, 16777215, 33554431, 67108863] [pv (.agg ((vc s.known) ++ [(.slice a1 s.ents.length c1 : Value), (.slice a2 s.ticks.length c2 : Value) ]).toArray), pv (.pointer (some ⟨b1, 0 + 16, none⟩)), pv (.slice a1 s.ents.length c1), pv (.int .i64 ((k2 : Nat) : Int)), pv (.pointer (some ⟨bkS (.slice a1 s.ents.length c1), ofS (.slice a1 s.ents.length c1) + ((k2 : Nat) : Int).toNat * 7, none⟩)), pv (.agg (cec (gd s.ents k2)).toArray), pv (.bool (entB s (gd s.ents k2))), pv (.bool (!(entB s (gd s.ents k2)))), pv (.bool (!(entB s (gd s.ents k2)))), pg ((!(entB s (gd s.ents k2))) == false) (.int .i64 ((k2 : Nat) : Int)), pg ((!(entB s (gd s.ents k2))) == false) (.bool (decide (0 < ((k2 : Nat) : Int)))), pg ((!(entB s (gd s.ents k2))) == false) (.bool (decide (0 < ((k2 : Nat) : Int)))), pg (((!(entB s (gd s.ents k2))) == false) && ((decide (0 < ((k2 : Nat) : Int))) == true)) (.pointer (some ⟨b1, 0 + 16, none⟩)), pg (((!(entB s (gd s.ents k2))) == false) && ((decide (0 < ((k2 : Nat) : Int))) == true)) (.slice a1 s.ents.length c1), pg (((!(entB s (gd s.ents k2))) == false) && ((decide (0 < ((k2 : Nat) : Int))) == true)) (.int .i64 ((k2 : Nat) : Int)), pg (((!(entB s (gd s.ents k2))) == false) && ((decide (0 < ((k2 : Nat) : Int))) == true)) (.int .i64 ((k2 - 1 : Nat) : Int)), pg (((!(entB s (gd s.ents k2))) == false) && ((decide (0 < ((k2 : Nat) : Int))) == true)) (.pointer (some ⟨bkS (.slice a1 s.ents.length c1), ofS (.slice a1 s.ents.length c1) + ((k2 - 1 : Nat) : Int).toNat * 7, none⟩)), pg (((!(entB s (gd s.ents k2))) == false) && ((decide (0 < ((k2 : Nat) : Int))) == true)) (.agg (cec (gd s.ents (k2 - 1))).toArray), pg (((!(entB s (gd s.ents k2))) == false) && ((decide (0 < ((k2 : Nat) : Int))) == true)) (.pointer (some ⟨b1, 0 + 16, none⟩)), pg (((!(entB s (gd s.ents k2))) == false) && ((decide (0 < ((k2 : Nat) : Int))) == true)) (.slice a1 s.ents.length c1), pg (((!(entB s (gd s.ents k2))) == false) && ((decide (0 < ((k2 : Nat) : Int))) == true)) (.int .i64 ((k2 : Nat) : Int)), pg (((!(entB s (gd s.ents k2))) == false) && ((decide (0 < ((k2 : Nat) : Int))) == true)) (.pointer (some ⟨bkS (.slice a1 s.ents.length c1), ofS (.slice a1 s.ents.length c1) + ((k2 : Nat) : Int).toNat * 7, none⟩)), pg (((!(entB s (gd s.ents k2))) == false) && ((decide (0 < ((k2 : Nat) : Int))) == true)) (.agg (cec (gd s.ents k2)).toArray), pg (((!(entB s (gd s.ents k2))) == false) && ((decide (0 < ((k2 : Nat) : Int))) == true)) (.bool (aheadB (gd s.ents (k2 - 1)) (gd s.ents k2))), pg (((!(entB s (gd s.ents k2))) == false) && ((decide (0 < ((k2 : Nat) : Int))) == true)) (.bool (!(aheadB (gd s.ents (k2 - 1)) (gd s.ents k2)))), pg ((!(entB s (gd s.ents k2))) == false) (.bool ((decide (0 < ((k2 : Nat) : Int))) && (!(aheadB (gd s.ents (k2 - 1)) (gd s.ents k2))))), pv (.bool ((!(entB s (gd s.ents k2))) || ((decide (0 < ((k2 : Nat) : Int))) && (!(aheadB (gd s.ents (k2 - 1)) (gd s.ents k2))))))] (fun _ _ => _) [26] (by kernel_rfl) hs ⟨?_, ?_, ?_, ?_, ?_, ?_, ?_, ?_, ?_, ?_, ?_, ?_, ?_, ?_, ?_, ?_, ?_, ?_, ?_, ?_, ?_, ?_, ?_, ?_, ?_, ?_, ?_, trivial⟩ ?_
          · exact ob [] [] rfl rfl fun D ρ w hs => L_ldW (cs := (vc s.known) ++ [(.slice a1 s.ents.length c1 : Value), (.slice a2 s.ticks.length c2 : Value) ]) SA_57 hs 0 rfl rfl rfl ⟨rfl, hs⟩
          · exact ob [] [] rfl rfl fun D ρ w hs => L_fieldAddr FA_57_1 rfl ⟨rfl, hs⟩
          · exact ob [1] [] rfl rfl fun D ρ w hs => L_ld (V := .slice a1 s.ents.length c1) S1_54 hs 0 rfl rfl rfl ⟨rfl, hs⟩
          · exact ob [] [] rfl rfl fun D ρ w hs => L_move (V := .int .i64 ((k2 : Nat) : Int)) rfl ⟨rfl, hs⟩
          · exact ob [2, 3] [] rfl rfl fun D ρ w hs => L_ixR UD_54 SA_134.1 (Rd.own' hr1 hs) rfl rfl (by omega) (by rw [List.length_map]; omega) ⟨rfl, hs⟩
          · exact ob [4] [] rfl rfl fun D ρ w hs => L_ldRA (j := 0) (vs := cec (gd s.ents k2)) k2 SA_134 (Rd.own' hr1 hs) (gd_at (by omega)) rfl rfl rfl (by omega) ⟨rfl, hs⟩
          · exact ob [0, 5] [] rfl rfl fun D ρ w hs => L_callP (vs := [.agg ((vc s.known) ++ [(.slice a1 s.ents.length c1 : Value), (.slice a2 s.ticks.length c2 : Value) ]).toArray, .agg (cec (gd s.ents k2)).toArray]) (V := .bool (entB s (gd s.ents k2))) EN_91 rfl rfl (rright_ok _ s a1 c1 a2 c2 (gd s.ents k2) (hE0 _ (gd_mem (by omega))) (Rd.own' hr1 hs) (Rd.own' hr2 hs)) hs fun _ hs => ⟨rfl, hs⟩
          · exact ob [6] [] rfl rfl fun D ρ w hs => L_not rfl ⟨rfl, hs⟩
          · exact ob [7] [] rfl rfl fun D ρ w hs => L_move (V := .bool (!(entB s (gd s.ents k2)))) rfl ⟨rfl, hs⟩
          · exact obg [8] [] (!(entB s (gd s.ents k2))) rfl (fun _ => rfl) rfl (fun _ _ _ _ h => h) fun D ρ w hG hs => L_move (V := .int .i64 ((k2 : Nat) : Int)) rfl ⟨rfl, hs⟩
          · exact obgy [8, 9] [] [9] (!(entB s (gd s.ents k2))) rfl (fun _ => rfl) rfl (fun _ _ _ _ h => h) (fun hG => ⟨hG, trivial⟩) fun D ρ w hG hs => L_gtr rfl rfl ⟨rfl, hs⟩
          · exact obgy [8, 10] [] [10] (!(entB s (gd s.ents k2))) rfl (fun _ => rfl) rfl (fun _ _ _ _ h => h) (fun hG => ⟨hG, trivial⟩) fun D ρ w hG hs => L_move (V := .bool (decide (0 < ((k2 : Nat) : Int)))) rfl ⟨rfl, hs⟩
          · exact obg [11] [] (decide (0 < ((k2 : Nat) : Int))) rfl (fun _ => rfl) rfl (fun _ _ _ _ h => h) fun D ρ w hG hs => L_fieldAddr FA_57_1 rfl ⟨rfl, hs⟩
          · exact obgy [11, 12] [] [12] (decide (0 < ((k2 : Nat) : Int))) rfl (fun _ => rfl) rfl (fun _ _ _ _ h => h) (fun hG => ⟨hG, trivial⟩) fun D ρ w hG hs => L_ld (V := .slice a1 s.ents.length c1) S1_54 hs 0 rfl rfl rfl ⟨rfl, hs⟩
          · exact obg [11] [] (decide (0 < ((k2 : Nat) : Int))) rfl (fun _ => rfl) rfl (fun _ _ _ _ h => h) fun D ρ w hG hs => L_move (V := .int .i64 ((k2 : Nat) : Int)) rfl ⟨rfl, hs⟩
          · refine obgy [11, 14] [] [14] (decide (0 < ((k2 : Nat) : Int))) rfl (fun _ => rfl) rfl (fun _ _ _ _ h => h) (fun hG => ⟨hG, trivial⟩) fun D ρ w hG hs => ?_
            have hgd1 := of_decide_eq_true (eq_of_beq (and_r (hG)))
            exact L_sub (a := ((k2 : Nat) : Int)) (b := 1) (c := ((k2 - 1 : Nat) : Int)) rfl rfl (nat_i64 (by omega) (by omega)) ⟨rfl, hs⟩
          · refine obgy [11, 13, 15] [] [13, 15] (decide (0 < ((k2 : Nat) : Int))) rfl (fun _ => rfl) rfl (fun _ _ _ _ h => h) (fun hG => ⟨hG, hG, trivial⟩) fun D ρ w hG hs => ?_
            have hgd1 := of_decide_eq_true (eq_of_beq (and_r (hG)))
            exact L_ixR UD_54 SA_134.1 (Rd.own' hr1 hs) rfl rfl (by omega) (by rw [List.length_map]; omega) ⟨rfl, hs⟩
          · refine obgy [11, 16] [] [16] (decide (0 < ((k2 : Nat) : Int))) rfl (fun _ => rfl) rfl (fun _ _ _ _ h => h) (fun hG => ⟨hG, trivial⟩) fun D ρ w hG hs => ?_
            have hgd1 := of_decide_eq_true (eq_of_beq (and_r (hG)))
            exact L_ldRA (j := 0) (vs := cec (gd s.ents (k2 - 1))) (k2 - 1) SA_134 (Rd.own' hr1 hs) (gd_at (by omega)) rfl rfl rfl (by omega) ⟨rfl, hs⟩
          · exact obg [11] [] (decide (0 < ((k2 : Nat) : Int))) rfl (fun _ => rfl) rfl (fun _ _ _ _ h => h) fun D ρ w hG hs => L_fieldAddr FA_57_1 rfl ⟨rfl, hs⟩
          · exact obgy [11, 18] [] [18] (decide (0 < ((k2 : Nat) : Int))) rfl (fun _ => rfl) rfl (fun _ _ _ _ h => h) (fun hG => ⟨hG, trivial⟩) fun D ρ w hG hs => L_ld (V := .slice a1 s.ents.length c1) S1_54 hs 0 rfl rfl rfl ⟨rfl, hs⟩
          · exact obg [11] [] (decide (0 < ((k2 : Nat) : Int))) rfl (fun _ => rfl) rfl (fun _ _ _ _ h => h) fun D ρ w hG hs => L_move (V := .int .i64 ((k2 : Nat) : Int)) rfl ⟨rfl, hs⟩
          · refine obgy [11, 19, 20] [] [19, 20] (decide (0 < ((k2 : Nat) : Int))) rfl (fun _ => rfl) rfl (fun _ _ _ _ h => h) (fun hG => ⟨hG, hG, trivial⟩) fun D ρ w hG hs => ?_
            have hgd1 := of_decide_eq_true (eq_of_beq (and_r (hG)))
            exact L_ixR UD_54 SA_134.1 (Rd.own' hr1 hs) rfl rfl (by omega) (by rw [List.length_map]; omega) ⟨rfl, hs⟩
          · refine obgy [11, 21] [] [21] (decide (0 < ((k2 : Nat) : Int))) rfl (fun _ => rfl) rfl (fun _ _ _ _ h => h) (fun hG => ⟨hG, trivial⟩) fun D ρ w hG hs => ?_
            have hgd1 := of_decide_eq_true (eq_of_beq (and_r (hG)))
            exact L_ldRA (j := 0) (vs := cec (gd s.ents k2)) k2 SA_134 (Rd.own' hr1 hs) (gd_at (by omega)) rfl rfl rfl (by omega) ⟨rfl, hs⟩
          · exact obgy [11, 17, 22] [] [17, 22] (decide (0 < ((k2 : Nat) : Int))) rfl (fun _ => rfl) rfl (fun _ _ _ _ h => h) (fun hG => ⟨hG, hG, trivial⟩) fun D ρ w hG hs => L_callP (vs := [.agg (cec (gd s.ents (k2 - 1))).toArray, .agg (cec (gd s.ents k2)).toArray]) (V := .bool (aheadB (gd s.ents (k2 - 1)) (gd s.ents k2))) EN_92 rfl rfl (ahead_ok _ (gd s.ents (k2 - 1)) (gd s.ents k2)) hs fun _ hs => ⟨rfl, hs⟩
          · exact obgy [11, 23] [] [23] (decide (0 < ((k2 : Nat) : Int))) rfl (fun _ => rfl) rfl (fun _ _ _ _ h => h) (fun hG => ⟨hG, trivial⟩) fun D ρ w hG hs => L_not rfl ⟨rfl, hs⟩
          · exact obgy [8, 11, 24] [] [11] (!(entB s (gd s.ents k2))) rfl (fun _ => rfl) rfl (fun _ _ _ _ h => h) (fun hG => ⟨hG, trivial⟩) fun D ρ w hG hs => L_andN (h' := !(aheadB (gd s.ents (k2 - 1)) (gd s.ents k2))) (G := ((!(entB s (gd s.ents k2))) == false)) hG rfl rfl rfl ⟨rfl, hs⟩
          · exact ob [8, 25] [] rfl rfl fun D ρ w hs => L_orC (h' := (decide (0 < ((k2 : Nat) : Int))) && (!(aheadB (gd s.ents (k2 - 1)) (gd s.ents k2)))) rfl rfl rfl ⟨rfl, hs⟩
          rintro ρ1 w11 ρ2 hρ hs
          replace hρ : ρ2 = upd (mix [47, 48, 49, 50, 51, 52, 53, 54, 55, 56, 57, 58, 59, 60, 61, 62, 63, 64, 65, 66, 67, 68, 69, 70, 71, 72, 73] ρ1 _) 73 (.bool ((!(entB s (gd s.ents k2))) || ((decide (0 < ((k2 : Nat) : Int))) && (!(aheadB (gd s.ents (k2 - 1)) (gd s.ents k2)))))) := hρ
          subst hρ
          refine W_cond (t := (!(entB s (gd s.ents k2))) || ((decide (0 < ((k2 : Nat) : Int))) && (!(aheadB (gd s.ents (k2 - 1)) (gd s.ents k2))))) rfl (fun c12 => ?_) (fun c12 => ?_)
          ·
            refine W_seq ?_
            refine W_region ?_
            refine RW_op (L_assign (V := .bool false) rfl ?_)
            refine RW_nil ?_
            refine W_ret ?_
            refine ⟨_, res_one (V := .bool false) Try.results46 rfl, ?_⟩
            refine ⟨congrArg Ending.returned ?_, hs.take 0⟩
            refine congrArg Value.bool (right_badE (i := k2) (by omega) ?_).symm
            have hq := c12
            unfold badE
            revert hq
            rcases Nat.eq_zero_or_pos k2 with q9 | q9
            · subst q9; cases entB s (gd s.ents 0) <;> simp
            · rw [decide_eq_true (p := 0 < k2) q9, decide_eq_true (p := (0 : Int) < _) (by omega)]; cases entB s (gd s.ents k2) <;> cases aheadB (gd s.ents (k2 - 1)) (gd s.ents k2) <;> simp
          ·
            have c12r := or_r c12
            replace c12 := or_l c12
            replace c12 := not_f c12
            refine W_skip ?_
            refine W_seq ?_
            refine W_region ?_
            refine RW_op (L_assign (V := .int .i64 0) rfl ?_)
            refine RW_nil ?_
            refine W_block ?_
            have hen := c12
            have hah : (decide (0 < k2) && !aheadB (gd s.ents (k2 - 1)) (gd s.ents k2)) = false := by have hq := c12r; simpa using hq
            refine W_loopI (fun ρ μ ρ' w' => ∃ (ρo : Env) (k3 : Nat), ρ' = upd (mix [2, 5, 74, 75, 76, 77, 78, 79, 80, 81, 82, 83, 84, 85, 86, 87, 88, 89, 90, 91] ρo ρ) 5 (.int .i64 ((k3 : Nat) : Int)) ∧ (k3 ≤ k2) ∧ (∀ j : Nat, j < k3 → decide ((gd s.ents j).dot = (gd s.ents k2).dot) = false) ∧ μ = k2 - k3 ∧ Own w no w' [blk b1 ((vc s.known) ++ [(.slice a1 s.ents.length c1 : Value), (.slice a2 s.ticks.length c2 : Value) ]) 57]) ?_ ?_
            · exact ⟨_, _, 0, upd_of (mix_of (ds := [2, 5, 74, 75, 76, 77, 78, 79, 80, 81, 82, 83, 84, 85, 86, 87, 88, 89, 90, 91]) (Agr.refl _ _)) rfl, (by omega), (fun j hj => absurd hj (Nat.not_lt_zero j)), rfl, hs⟩
            · rintro μ ρ' w13 ⟨ρo, k3, rfl, hk3, hdd, rfl, hs⟩
              refine W_seq ?_
              refine W_seq ?_
              refine W_region ?_
              refine RW_op (L_move (V := .int .i64 ((k3 : Nat) : Int)) rfl ?_)
              refine RW_op (L_move (V := .int .i64 ((k2 : Nat) : Int)) rfl ?_)
              refine RW_op (L_lss rfl rfl ?_)
              refine RW_nil ?_
              refine W_cond (t := decide (((k3 : Nat) : Int) < ((k2 : Nat) : Int))) rfl (fun c14 => ?_) (fun c14 => ?_)
              ·
                replace c14 := of_decide_eq_true c14
                refine W_skip ?_
                refine W_seq ?_
                refine W_block ?_
                refine W_seq ?_
                refine W_regD HM [some 79, some 80, some 81, some 82, some 83, some 84, some 85, some 86, some 87, some 88, some 89, some 90, some 91] [] [0, 1, 0, 7, 15, 31, 0, 64, 0, 448, 960, 1984, 4095] [pv (.pointer (some ⟨b1, 0 + 16, none⟩)), pv (.slice a1 s.ents.length c1), pv (.int .i64 ((k3 : Nat) : Int)), pv (.pointer (some ⟨bkS (.slice a1 s.ents.length c1), ofS (.slice a1 s.ents.length c1) + ((k3 : Nat) : Int).toNat * 7, none⟩)), pv (.pointer (some ⟨bkS (.slice a1 s.ents.length c1), ofS (.slice a1 s.ents.length c1) + ((k3 : Nat) : Int).toNat * 7 + 4, none⟩)), pv (.agg (dc ((gd s.ents k3).dot)).toArray), pv (.pointer (some ⟨b1, 0 + 16, none⟩)), pv (.slice a1 s.ents.length c1), pv (.int .i64 ((k2 : Nat) : Int)), pv (.pointer (some ⟨bkS (.slice a1 s.ents.length c1), ofS (.slice a1 s.ents.length c1) + ((k2 : Nat) : Int).toNat * 7, none⟩)), pv (.pointer (some ⟨bkS (.slice a1 s.ents.length c1), ofS (.slice a1 s.ents.length c1) + ((k2 : Nat) : Int).toNat * 7 + 4, none⟩)), pv (.agg (dc ((gd s.ents k2).dot)).toArray), pv (.bool (decide ((gd s.ents k3).dot = (gd s.ents k2).dot)))] (fun _ _ => _) [12] (by kernel_rfl) hs ⟨?_, ?_, ?_, ?_, ?_, ?_, ?_, ?_, ?_, ?_, ?_, ?_, ?_, trivial⟩ ?_
                · exact ob [] [] rfl rfl fun D ρ w hs => L_fieldAddr FA_57_1 rfl ⟨rfl, hs⟩
                · exact ob [0] [] rfl rfl fun D ρ w hs => L_ld (V := .slice a1 s.ents.length c1) S1_54 hs 0 rfl rfl rfl ⟨rfl, hs⟩
                · exact ob [] [] rfl rfl fun D ρ w hs => L_move (V := .int .i64 ((k3 : Nat) : Int)) rfl ⟨rfl, hs⟩
                · exact ob [1, 2] [] rfl rfl fun D ρ w hs => L_ixR UD_54 SA_134.1 (Rd.own' hr1 hs) rfl rfl (by omega) (by rw [List.length_map]; omega) ⟨rfl, hs⟩
                · exact ob [3] [] rfl rfl fun D ρ w hs => L_fieldAddr FA_134_4 rfl ⟨rfl, hs⟩
                · exact ob [4] [] rfl rfl fun D ρ w hs => L_ldRA (j := 4) (vs := dc ((gd s.ents k3).dot)) k3 SA_96 (Rd.own' hr1 hs) (gd_at (by omega)) rfl rfl rfl (by omega) ⟨rfl, hs⟩
                · exact ob [] [] rfl rfl fun D ρ w hs => L_fieldAddr FA_57_1 rfl ⟨rfl, hs⟩
                · exact ob [6] [] rfl rfl fun D ρ w hs => L_ld (V := .slice a1 s.ents.length c1) S1_54 hs 0 rfl rfl rfl ⟨rfl, hs⟩
                · exact ob [] [] rfl rfl fun D ρ w hs => L_move (V := .int .i64 ((k2 : Nat) : Int)) rfl ⟨rfl, hs⟩
                · exact ob [7, 8] [] rfl rfl fun D ρ w hs => L_ixR UD_54 SA_134.1 (Rd.own' hr1 hs) rfl rfl (by omega) (by rw [List.length_map]; omega) ⟨rfl, hs⟩
                · exact ob [9] [] rfl rfl fun D ρ w hs => L_fieldAddr FA_134_4 rfl ⟨rfl, hs⟩
                · exact ob [10] [] rfl rfl fun D ρ w hs => L_ldRA (j := 4) (vs := dc ((gd s.ents k2).dot)) k2 SA_96 (Rd.own' hr1 hs) (gd_at (by omega)) rfl rfl rfl (by omega) ⟨rfl, hs⟩
                · exact ob [5, 11] [] rfl rfl fun D ρ w hs => L_eqA (xs := dc ((gd s.ents k3).dot)) (ys := dc ((gd s.ents k2).dot)) Try.eqGuardType96 (EQ_96 ((gd s.ents k3).dot) ((gd s.ents k2).dot)) rfl rfl rfl ⟨rfl, hs⟩
                rintro ρ1 w15 ρ2 hρ hs
                replace hρ : ρ2 = upd (mix [79, 80, 81, 82, 83, 84, 85, 86, 87, 88, 89, 90, 91] ρ1 _) 91 (.bool (decide ((gd s.ents k3).dot = (gd s.ents k2).dot))) := hρ
                subst hρ
                refine W_cond (t := decide ((gd s.ents k3).dot = (gd s.ents k2).dot)) rfl (fun c16 => ?_) (fun c16 => ?_)
                ·
                  replace c16 := of_decide_eq_true c16
                  refine W_seq ?_
                  refine W_region ?_
                  refine RW_op (L_assign (V := .bool false) rfl ?_)
                  refine RW_nil ?_
                  refine W_ret ?_
                  refine ⟨_, res_one (V := .bool false) Try.results46 rfl, ?_⟩
                  refine ⟨congrArg Ending.returned ?_, hs.take 0⟩
                  exact congrArg Value.bool (right_badE (i := k2) (by omega) (badE_dup (j := k3) (by omega) (by omega) c16)).symm
                ·
                  replace c16 := of_decide_eq_false c16
                  refine W_skip ?_
                  refine W_region ?_
                  refine RW_op (L_move (V := .int .i64 ((k3 : Nat) : Int)) rfl ?_)
                  refine RW_op (L_add (a := ((k3 : Nat) : Int)) (b := 1) (c := ((k3 + 1 : Nat) : Int)) rfl rfl (nat_i64 (by omega) (by omega)) ?_)
                  refine RW_op (L_assign (V := .int .i64 ((k3 + 1 : Nat) : Int)) rfl ?_)
                  refine RW_nil ?_
                  refine ⟨_, ?_, _, k3 + 1, upd_of (mix_of (ds := [2, 5, 74, 75, 76, 77, 78, 79, 80, 81, 82, 83, 84, 85, 86, 87, 88, 89, 90, 91]) (by repeat (first | exact Agr.refl _ _ | refine Agr.upd ?_ rfl | refine Agr.mix ?_ rfl))) rfl, (by omega), (no_step2 hdd (decide_eq_false c16)), rfl, hs.take 1⟩
                  omega
              ·
                replace c14 := of_decide_eq_false c14
                refine W_exit ?_
                refine W_region ?_
                refine RW_op (L_move (V := .int .i64 ((k2 : Nat) : Int)) rfl ?_)
                refine RW_op (L_add (a := ((k2 : Nat) : Int)) (b := 1) (c := ((k2 + 1 : Nat) : Int)) rfl rfl (nat_i64 (by omega) (by omega)) ?_)
                refine RW_op (L_assign (V := .int .i64 ((k2 + 1 : Nat) : Int)) rfl ?_)
                refine RW_nil ?_
                refine ⟨_, ?_, _, k2 + 1, upd_of (mix_of (ds := [2, 4, 5, 40, 41, 42, 43, 44, 45, 46, 47, 48, 49, 50, 51, 52, 53, 54, 55, 56, 57, 58, 59, 60, 61, 62, 63, 64, 65, 66, 67, 68, 69, 70, 71, 72, 73, 74, 75, 76, 77, 78, 79, 80, 81, 82, 83, 84, 85, 86, 87, 88, 89, 90, 91]) (by repeat (first | exact Agr.refl _ _ | refine Agr.upd ?_ rfl | refine Agr.mix ?_ rfl))) rfl, (by omega), (no_step2 hbe (badE_no (by omega) hen hah fun j hj => hdd j (by omega))), rfl, hs.take 1⟩
                omega
        ·
          replace c8 := of_decide_eq_false c8
          refine W_exit ?_
          refine W_seq ?_
          refine W_region ?_
          refine RW_op (L_fieldAddr FA_57_0 rfl ?_)
          refine RW_op (L_ldA (vs := vc s.known) SA_53 hs 0 rfl rfl rfl rfl ?_)
          refine RW_op (L_callP (vs := [.agg (vc s.known).toArray, .int .i64 16]) (V := .bool (rightB s.known 16)) EN_93 rfl rfl ?hc hs fun w17 hs => ?_)
          case hc => exact (rRight_ok _ s.known 16 (by first | assumption | exact vzero_ok))
          refine RW_op (L_assign (V := .bool (rightB s.known 16)) rfl ?_)
          refine RW_nil ?_
          refine W_ret ?_
          refine ⟨_, res_one (V := .bool (rightB s.known 16)) Try.results46 rfl, ?_⟩
          refine ⟨congrArg Ending.returned ?_, hs.take 0⟩
          exact congrArg Value.bool (rightS_fin (fun i hi => hbt i (by omega)) fun i hi => hbe i (by omega)).symm
set_option maxRecDepth 20000 in
set_option maxHeartbeats 4000000 in
theorem few_ok (w : World) (s : Sta) (a1 : Option Addr) (c1 : Nat) (a2 : Option Addr) (c2 : Nat) (hr1 : Rd w (.slice a1 s.ents.length c1) 7 (s.ents.map cec)) (hr2 : Rd w (.slice a2 s.ticks.length c2) 2 (s.ticks.map lsc)) : Calls Try.prog 27 #[.agg ((vc s.known) ++ [(.slice a1 s.ents.length c1 : Value), (.slice a2 s.ticks.length c2 : Value) ]).toArray] w (fun e w' => e = .returned (.bool (fewB s)) ∧ Own w no w' []) := by
  refine calls_of_Wn (n := 13) Try.func27 rfl Try.ntmps27 rfl ?_
  have hs := Own.start w
  refine W_seq ?_
  refine W_region ?_
  refine RW_op (L_box (V := .agg ((vc s.known) ++ [(.slice a1 s.ents.length c1 : Value), (.slice a2 s.ticks.length c2 : Value) ]).toArray) (cs := (vc s.known) ++ [(.slice a1 s.ents.length c1 : Value), (.slice a2 s.ticks.length c2 : Value) ]) rfl rfl hs fun b1 w2 hs => ?_)
  refine RW_op (L_assign (V := .bool false) rfl ?_)
  refine RW_nil ?_
  refine W_seq ?_
  refine W_regO [some 3, some 4, some 5, some 6, some 7, some 8, some 9, some 10, some 11, some 12, some 2] [] [0, 1, 3, 7, 15, 31, 63, 127, 255, 511, 1023] [pv (.pointer (some ⟨b1, 0 + 16, none⟩)), pv (.slice a1 s.ents.length c1), pv (.int .i64 ((s.ents.length : Nat) : Int)), pv (.bool (decide (((s.ents.length : Nat) : Int) ≤ 60))), pv (.bool (decide (((s.ents.length : Nat) : Int) ≤ 60))), pg ((decide (((s.ents.length : Nat) : Int) ≤ 60)) == true) (.pointer (some ⟨b1, 0 + 17, none⟩)), pg ((decide (((s.ents.length : Nat) : Int) ≤ 60)) == true) (.slice a2 s.ticks.length c2), pg ((decide (((s.ents.length : Nat) : Int) ≤ 60)) == true) (.int .i64 ((s.ticks.length : Nat) : Int)), pg ((decide (((s.ents.length : Nat) : Int) ≤ 60)) == true) (.bool (decide (((s.ticks.length : Nat) : Int) ≤ 60))), pv (.bool ((decide (((s.ents.length : Nat) : Int) ≤ 60)) && (decide (((s.ticks.length : Nat) : Int) ≤ 60)))), pv (.bool ((decide (((s.ents.length : Nat) : Int) ≤ 60)) && (decide (((s.ticks.length : Nat) : Int) ≤ 60))))] (fun _ _ => _) [10] (by kernel_rfl) hs ⟨?_, ?_, ?_, ?_, ?_, ?_, ?_, ?_, ?_, ?_, ?_, trivial⟩ ?_
  · exact ob [] [] rfl rfl fun D ρ w hs => L_fieldAddr FA_57_1 rfl ⟨rfl, hs⟩
  · exact ob [0] [] rfl rfl fun D ρ w hs => L_ld (V := .slice a1 s.ents.length c1) S1_54 hs 0 rfl rfl rfl ⟨rfl, hs⟩
  · exact ob [1] [] rfl rfl fun D ρ w hs => L_lenR (n := s.ents.length) UD_54 (Rd.own' hr1 hs) (by simp) rfl ⟨rfl, hs⟩
  · exact ob [2] [] rfl rfl fun D ρ w hs => L_leq rfl rfl ⟨rfl, hs⟩
  · exact ob [3] [] rfl rfl fun D ρ w hs => L_move (V := .bool (decide (((s.ents.length : Nat) : Int) ≤ 60))) rfl ⟨rfl, hs⟩
  · exact obg [4] [] (decide (((s.ents.length : Nat) : Int) ≤ 60)) rfl (fun _ => rfl) rfl (fun _ _ _ _ h => h) fun D ρ w hG hs => L_fieldAddr FA_57_2 rfl ⟨rfl, hs⟩
  · exact obgy [4, 5] [] [5] (decide (((s.ents.length : Nat) : Int) ≤ 60)) rfl (fun _ => rfl) rfl (fun _ _ _ _ h => h) (fun hG => ⟨hG, trivial⟩) fun D ρ w hG hs => L_ld (V := .slice a2 s.ticks.length c2) S1_55 hs 0 rfl rfl rfl ⟨rfl, hs⟩
  · exact obgy [4, 6] [] [6] (decide (((s.ents.length : Nat) : Int) ≤ 60)) rfl (fun _ => rfl) rfl (fun _ _ _ _ h => h) (fun hG => ⟨hG, trivial⟩) fun D ρ w hG hs => L_lenR (n := s.ticks.length) UD_55 (Rd.own' hr2 hs) (by simp) rfl ⟨rfl, hs⟩
  · exact obgy [4, 7] [] [7] (decide (((s.ents.length : Nat) : Int) ≤ 60)) rfl (fun _ => rfl) rfl (fun _ _ _ _ h => h) (fun hG => ⟨hG, trivial⟩) fun D ρ w hG hs => L_leq rfl rfl ⟨rfl, hs⟩
  · exact ob [4, 8] [] rfl rfl fun D ρ w hs => L_andC (h' := decide (((s.ticks.length : Nat) : Int) ≤ 60)) rfl rfl rfl ⟨rfl, hs⟩
  · exact ob [9] [] rfl rfl fun D ρ w hs => L_assign (V := .bool ((decide (((s.ents.length : Nat) : Int) ≤ 60)) && (decide (((s.ticks.length : Nat) : Int) ≤ 60)))) rfl ⟨rfl, hs⟩
  rintro ρ1 w3 ρ2 hρ hs
  replace hρ : ρ2 = upd (mix [3, 4, 5, 6, 7, 8, 9, 10, 11, 12, 2] ρ1 _) 2 (.bool ((decide (((s.ents.length : Nat) : Int) ≤ 60)) && (decide (((s.ticks.length : Nat) : Int) ≤ 60)))) := hρ
  subst hρ
  refine W_ret ?_
  refine ⟨_, res_one (V := .bool ((decide (((s.ents.length : Nat) : Int) ≤ 60)) && (decide (((s.ticks.length : Nat) : Int) ≤ 60)))) Try.results27 rfl, ?_⟩
  refine ⟨congrArg Ending.returned ?_, hs.take 0⟩
  rfl
end Tt
end Go.Proofs
namespace Go.Proofs
open Go Go.Vx Go.RowKit
namespace Tt
set_option maxRecDepth 20000 in
set_option maxHeartbeats 4000000 in
theorem rfind_ok (w : World) (s : Sta) (a1 : Option Addr) (c1 : Nat) (a2 : Option Addr) (c2 : Nat) (d : Dot) (hr1 : Rd w (.slice a1 s.ents.length c1) 7 (s.ents.map cec)) (hr2 : Rd w (.slice a2 s.ticks.length c2) 2 (s.ticks.map lsc)) : Calls Try.prog 66 #[.agg ((vc s.known) ++ [(.slice a1 s.ents.length c1 : Value), (.slice a2 s.ticks.length c2 : Value) ]).toArray, .agg (dc d).toArray] w (fun e w' => e = .returned (.int .i64 (findI s.ents d)) ∧ Own w no w' []) := by
  refine calls_of_Wn (n := 22) Try.func66 rfl Try.ntmps66 rfl ?_
  have hs := Own.start w
  have hn1 := hr1.sml
  refine W_seq ?_
  refine W_region ?_
  refine RW_op (L_box (V := .agg ((vc s.known) ++ [(.slice a1 s.ents.length c1 : Value), (.slice a2 s.ticks.length c2 : Value) ]).toArray) (cs := (vc s.known) ++ [(.slice a1 s.ents.length c1 : Value), (.slice a2 s.ticks.length c2 : Value) ]) rfl rfl hs fun b1 w2 hs => ?_)
  refine RW_op (L_box (V := .agg (dc d).toArray) (cs := dc d) rfl rfl hs fun b3 w4 hs => ?_)
  refine RW_op (L_assign (V := .int .i64 0) rfl ?_)
  refine RW_nil ?_
  refine W_seq ?_
  refine W_seq ?_
  refine W_region ?_
  refine RW_op (L_assign (V := .int .i64 0) rfl ?_)
  refine RW_nil ?_
  refine W_block ?_
  refine W_loopI (fun ρ μ ρ' w' => ∃ (ρo : Env) (k : Nat), ρ' = upd (mix [4, 5, 6, 7, 8, 9, 10, 11, 12, 13, 14, 15, 16, 17, 18, 19, 20, 21] ρo ρ) 5 (.int .i64 ((k : Nat) : Int)) ∧ (k ≤ s.ents.length) ∧ (∀ j : Nat, j < k → dotF d (gd s.ents j) = false) ∧ μ = s.ents.length - k ∧ Own w no w' [blk b1 ((vc s.known) ++ [(.slice a1 s.ents.length c1 : Value), (.slice a2 s.ticks.length c2 : Value) ]) 57, blk b3 (dc d) 96]) ?_ ?_
  · exact ⟨_, _, 0, upd_of (mix_of (ds := [4, 5, 6, 7, 8, 9, 10, 11, 12, 13, 14, 15, 16, 17, 18, 19, 20, 21]) (Agr.refl _ _)) rfl, (by omega), (fun j hj => absurd hj (Nat.not_lt_zero j)), rfl, hs⟩
  · rintro μ ρ' w5 ⟨ρo, k, rfl, hk, hno, rfl, hs⟩
    refine W_seq ?_
    refine W_seq ?_
    refine W_region ?_
    refine RW_op (L_move (V := .int .i64 ((k : Nat) : Int)) rfl ?_)
    refine RW_op (L_fieldAddr FA_57_1 rfl ?_)
    refine RW_op (L_ld (V := .slice a1 s.ents.length c1) S1_54 hs 0 rfl rfl rfl ?_)
    refine RW_op (L_lenR (n := s.ents.length) UD_54 (Rd.own' hr1 hs) (by simp) rfl ?_)
    refine RW_op (L_lss rfl rfl ?_)
    refine RW_nil ?_
    refine W_cond (t := decide (((k : Nat) : Int) < ((s.ents.length : Nat) : Int))) rfl (fun c6 => ?_) (fun c6 => ?_)
    ·
      replace c6 := of_decide_eq_true c6
      refine W_skip ?_
      refine W_seq ?_
      refine W_block ?_
      refine W_seq ?_
      refine W_regD HM [some 13, some 14, some 15, some 16, some 17, some 18, some 19, some 20] [] [0, 1, 0, 7, 15, 31, 0, 127] [pv (.pointer (some ⟨b1, 0 + 16, none⟩)), pv (.slice a1 s.ents.length c1), pv (.int .i64 ((k : Nat) : Int)), pv (.pointer (some ⟨bkS (.slice a1 s.ents.length c1), ofS (.slice a1 s.ents.length c1) + ((k : Nat) : Int).toNat * 7, none⟩)), pv (.pointer (some ⟨bkS (.slice a1 s.ents.length c1), ofS (.slice a1 s.ents.length c1) + ((k : Nat) : Int).toNat * 7 + 4, none⟩)), pv (.agg (dc ((gd s.ents k).dot)).toArray), pv (.agg (dc d).toArray), pv (.bool (decide ((gd s.ents k).dot = d)))] (fun _ _ => _) [7] (by kernel_rfl) hs ⟨?_, ?_, ?_, ?_, ?_, ?_, ?_, ?_, trivial⟩ ?_
      · exact ob [] [] rfl rfl fun D ρ w hs => L_fieldAddr FA_57_1 rfl ⟨rfl, hs⟩
      · exact ob [0] [] rfl rfl fun D ρ w hs => L_ld (V := .slice a1 s.ents.length c1) S1_54 hs 0 rfl rfl rfl ⟨rfl, hs⟩
      · exact ob [] [] rfl rfl fun D ρ w hs => L_move (V := .int .i64 ((k : Nat) : Int)) rfl ⟨rfl, hs⟩
      · exact ob [1, 2] [] rfl rfl fun D ρ w hs => L_ixR UD_54 SA_134.1 (Rd.own' hr1 hs) rfl rfl (by omega) (by rw [List.length_map]; omega) ⟨rfl, hs⟩
      · exact ob [3] [] rfl rfl fun D ρ w hs => L_fieldAddr FA_134_4 rfl ⟨rfl, hs⟩
      · exact ob [4] [] rfl rfl fun D ρ w hs => L_ldRA (j := 4) (vs := dc ((gd s.ents k).dot)) k SA_96 (Rd.own' hr1 hs) (gd_at (by omega)) rfl rfl rfl (by omega) ⟨rfl, hs⟩
      · exact ob [] [] rfl rfl fun D ρ w hs => L_ldW (cs := dc d) SA_96 hs 1 rfl rfl rfl ⟨rfl, hs⟩
      · exact ob [5, 6] [] rfl rfl fun D ρ w hs => L_eqA (xs := dc ((gd s.ents k).dot)) (ys := dc d) Try.eqGuardType96 (EQ_96 ((gd s.ents k).dot) d) rfl rfl rfl ⟨rfl, hs⟩
      rintro ρ1 w7 ρ2 hρ hs
      replace hρ : ρ2 = upd (mix [13, 14, 15, 16, 17, 18, 19, 20] ρ1 _) 20 (.bool (decide ((gd s.ents k).dot = d))) := hρ
      subst hρ
      refine W_cond (t := decide ((gd s.ents k).dot = d)) rfl (fun c8 => ?_) (fun c8 => ?_)
      ·
        replace c8 := of_decide_eq_true c8
        refine W_seq ?_
        refine W_region ?_
        refine RW_op (L_move (V := .int .i64 ((k : Nat) : Int)) rfl ?_)
        refine RW_op (L_assign (V := .int .i64 ((k : Nat) : Int)) rfl ?_)
        refine RW_nil ?_
        refine W_ret ?_
        refine ⟨_, res_one (V := .int .i64 ((k : Nat) : Int)) Try.results66 rfl, ?_⟩
        refine ⟨congrArg Ending.returned ?_, hs.take 0⟩
        exact congrArg (Value.int .i64) (fst_yes (p := dotF d) (by omega) hno (decide_eq_true c8)).symm
      ·
        replace c8 := of_decide_eq_false c8
        refine W_skip ?_
        refine W_region ?_
        refine RW_op (L_move (V := .int .i64 ((k : Nat) : Int)) rfl ?_)
        refine RW_op (L_add (a := ((k : Nat) : Int)) (b := 1) (c := ((k + 1 : Nat) : Int)) rfl rfl (nat_i64 (by omega) (by omega)) ?_)
        refine RW_op (L_assign (V := .int .i64 ((k + 1 : Nat) : Int)) rfl ?_)
        refine RW_nil ?_
        refine ⟨_, ?_, _, k + 1, upd_of (mix_of (ds := [4, 5, 6, 7, 8, 9, 10, 11, 12, 13, 14, 15, 16, 17, 18, 19, 20, 21]) (by repeat (first | exact Agr.refl _ _ | refine Agr.upd ?_ rfl | refine Agr.mix ?_ rfl))) rfl, (by omega), (no_step2 hno (decide_eq_false c8)), rfl, hs.take 2⟩
        omega
    ·
      replace c6 := of_decide_eq_false c6
      refine W_exit ?_
      refine W_seq ?_
      refine W_region ?_
      refine RW_op (L_assign (V := .int .i64 (-1)) rfl ?_)
      refine RW_nil ?_
      refine W_ret ?_
      refine ⟨_, res_one (V := .int .i64 (-1)) Try.results66 rfl, ?_⟩
      refine ⟨congrArg Ending.returned ?_, hs.take 0⟩
      exact congrArg (Value.int .i64) (fst_no (p := dotF d) fun j hj => hno j (by omega)).symm
set_option maxRecDepth 20000 in
set_option maxHeartbeats 4000000 in
theorem rput_ok (w : World) (a : Option Addr) (c : Nat) (l : List Cen) (y : Cen) (hlen : l.length ≤ 10000) (hr : Rd w (.slice a l.length c) 7 (l.map cec)) : Calls Try.prog 68 #[.slice a l.length c, .agg (cec y).toArray] w (fun e w' => ∃ x : Option Addr × Nat, e = .returned (.slice x.1 (putE y l).length x.2) ∧ Own w no w' [row (.slice x.1 (putE y l).length x.2) ((putE y l).map cec) 134 7] ∧ True) := by
  refine calls_of_Wn (n := 42) Try.func68 rfl Try.ntmps68 rfl ?_
  have hs := Own.start w
  refine W_seq ?_
  refine W_region ?_
  refine RW_op (L_box (V := .agg (cec y).toArray) (cs := cec y) rfl rfl hs fun b1 w2 hs => ?_)
  refine RW_op (L_assign (V := .slice none 0 0) rfl ?_)
  refine RW_nil ?_
  refine W_seq ?_
  refine W_region ?_
  refine RW_op (L_assign (V := .slice none 0 0) rfl ?_)
  refine RW_nil ?_
  refine W_seq ?_
  refine W_region ?_
  refine RW_op (L_assign (V := .bool false) rfl ?_)
  refine RW_nil ?_
  refine W_seq ?_
  refine W_seq ?_
  refine W_region ?_
  refine RW_op (L_assign (V := .int .i64 0) rfl ?_)
  refine RW_nil ?_
  refine W_block ?_
  replace hs := hs.more (row (.slice none 0 0) (List.map cec []) 134 7) (row_nil _ _ _ _)
  refine W_loopI (fun ρ μ ρ' w' => ∃ (ρo : Env) (k : Nat) (an : Option Addr) (cn : Nat) (out : List Cen) (dn : Bool), ρ' = upd (upd (upd (mix [5, 6, 7, 8, 9, 10, 11, 12, 13, 14, 15, 16, 17, 18, 19, 20, 21, 22, 23, 24, 25, 26, 27, 28, 29, 30, 31, 32, 33, 34] ρo ρ) 7 (.int .i64 ((k : Nat) : Int))) 5 (.slice an out.length cn)) 6 (.bool dn) ∧ (k ≤ l.length) ∧ (out.length ≤ 2 * k) ∧ (putE y l = out ++ cond dn (l.drop k) (putE y (l.drop k))) ∧ μ = l.length - k ∧ Own w no w' [blk b1 (cec y) 134, row (.slice an out.length cn) (out.map cec) 134 7]) ?_ ?_
  · exact ⟨_, _, 0, none, 0, [], false, upd_of (upd_of (upd_of (mix_of (ds := [5, 6, 7, 8, 9, 10, 11, 12, 13, 14, 15, 16, 17, 18, 19, 20, 21, 22, 23, 24, 25, 26, 27, 28, 29, 30, 31, 32, 33, 34]) (Agr.refl _ _)) rfl) rfl) rfl, (by omega), (Nat.zero_le _), rfl, rfl, hs⟩
  · rintro μ ρ' w3 ⟨ρo, k, an, cn, out, dn, rfl, hk, hol, hput, rfl, hs⟩
    refine W_seq ?_
    refine W_seq ?_
    refine W_region ?_
    refine RW_op (L_move (V := .int .i64 ((k : Nat) : Int)) rfl ?_)
    refine RW_op (L_move (V := .slice a l.length c) rfl ?_)
    refine RW_op (L_lenR (n := l.length) UD_54 (Rd.own' hr hs) (by simp) rfl ?_)
    refine RW_op (L_lss rfl rfl ?_)
    refine RW_nil ?_
    refine W_cond (t := decide (((k : Nat) : Int) < ((l.length : Nat) : Int))) rfl (fun c4 => ?_) (fun c4 => ?_)
    ·
      replace c4 := of_decide_eq_true c4
      refine W_skip ?_
      refine W_seq ?_
      refine W_block ?_
      refine W_seq ?_
      refine W_seq ?_
      refine W_regD HM [some 14, some 15, some 16, some 17, some 18, some 19, some 20, some 21, some 22, some 23] [] [0, 1, 3, 7, 7, 7, 55, 119, 255, 511] [pv (.bool dn), pv (.bool (!dn)), pv (.bool (!dn)), pg ((!dn) == true) (.agg (cec y).toArray), pg ((!dn) == true) (.slice a l.length c), pg ((!dn) == true) (.int .i64 ((k : Nat) : Int)), pg ((!dn) == true) (.pointer (some ⟨bkS (.slice a l.length c), ofS (.slice a l.length c) + ((k : Nat) : Int).toNat * 7, none⟩)), pg ((!dn) == true) (.agg (cec (gd l k)).toArray), pg ((!dn) == true) (.bool (aheadB y (gd l k))), pv (.bool ((!dn) && (aheadB y (gd l k))))] (fun _ _ => _) [9] (by kernel_rfl) hs ⟨?_, ?_, ?_, ?_, ?_, ?_, ?_, ?_, ?_, ?_, trivial⟩ ?_
      · exact ob [] [] rfl rfl fun D ρ w hs => L_move (V := .bool dn) rfl ⟨rfl, hs⟩
      · exact ob [0] [] rfl rfl fun D ρ w hs => L_not rfl ⟨rfl, hs⟩
      · exact ob [1] [] rfl rfl fun D ρ w hs => L_move (V := .bool (!dn)) rfl ⟨rfl, hs⟩
      · exact obg [2] [] (!dn) rfl (fun _ => rfl) rfl (fun _ _ _ _ h => h) fun D ρ w hG hs => L_ldW (cs := cec y) SA_134 hs 0 rfl rfl rfl ⟨rfl, hs⟩
      · exact obg [2] [] (!dn) rfl (fun _ => rfl) rfl (fun _ _ _ _ h => h) fun D ρ w hG hs => L_move (V := .slice a l.length c) rfl ⟨rfl, hs⟩
      · exact obg [2] [] (!dn) rfl (fun _ => rfl) rfl (fun _ _ _ _ h => h) fun D ρ w hG hs => L_move (V := .int .i64 ((k : Nat) : Int)) rfl ⟨rfl, hs⟩
      · exact obgy [2, 4, 5] [] [4, 5] (!dn) rfl (fun _ => rfl) rfl (fun _ _ _ _ h => h) (fun hG => ⟨hG, hG, trivial⟩) fun D ρ w hG hs => L_ixR UD_54 SA_134.1 (Rd.own' hr hs) rfl rfl (by omega) (by rw [List.length_map]; omega) ⟨rfl, hs⟩
      · exact obgy [2, 6] [] [6] (!dn) rfl (fun _ => rfl) rfl (fun _ _ _ _ h => h) (fun hG => ⟨hG, trivial⟩) fun D ρ w hG hs => L_ldRA (j := 0) (vs := cec (gd l k)) k SA_134 (Rd.own' hr hs) (gd_at (by omega)) rfl rfl rfl (by omega) ⟨rfl, hs⟩
      · exact obgy [2, 3, 7] [] [3, 7] (!dn) rfl (fun _ => rfl) rfl (fun _ _ _ _ h => h) (fun hG => ⟨hG, hG, trivial⟩) fun D ρ w hG hs => L_callP (vs := [.agg (cec y).toArray, .agg (cec (gd l k)).toArray]) (V := .bool (aheadB y (gd l k))) EN_92 rfl rfl (ahead_ok _ y (gd l k)) hs fun _ hs => ⟨rfl, hs⟩
      · exact ob [2, 8] [] rfl rfl fun D ρ w hs => L_andC (h' := aheadB y (gd l k)) rfl rfl rfl ⟨rfl, hs⟩
      rintro ρ1 w6 ρ2 hρ hs
      replace hρ : ρ2 = upd (mix [14, 15, 16, 17, 18, 19, 20, 21, 22, 23] ρ1 _) 23 (.bool ((!dn) && (aheadB y (gd l k)))) := hρ
      subst hρ
      refine W_cond (t := (!dn) && (aheadB y (gd l k))) rfl (fun c7 => ?_) (fun c7 => ?_)
      ·
        have c7r := and_r c7
        replace c7 := and_l c7
        replace c7 := not_t c7
        refine W_seq ?_
        refine W_region ?_
        refine RW_op (L_move (V := .slice an out.length cn) rfl ?_)
        refine RW_op (L_ldW (cs := cec y) SA_134 hs 0 rfl rfl rfl ?_)
        refine RW_op (L_bs (vals := [.agg (cec y).toArray]) (ls := List.map cec ([y] : List Cen)) EL_54 rfl rfl rfl (len_map (enc := cec) (fun _ => rfl) _) (one_map cec_one _) (Nat.le_of_ble_eq_true rfl) hs fun b8 w9 hs => ?_)
        refine RW_op (L_appN (ls' := (out ++ [y]).map cec) (n := (out ++ [y]).length) EL_54 hs 1 rfl rfl rfl (hs.rd 2 rfl) (one_map cec_one _) (by simp only [List.length_map, List.length_append, List.length_cons, List.length_nil]; omega) (by simp) (by simp) fun a10 c10 w11 hs => ?_)
        refine RW_op (L_assign (V := .slice a10 ((out ++ [y]).length) c10) rfl ?_)
        refine RW_nil ?_
        refine W_region ?_
        refine RW_op (L_assign (V := .bool true) rfl ?_)
        refine RW_nil ?_
        refine W_region ?_
        refine RW_op (L_move (V := .slice a10 ((out ++ [y]).length) c10) rfl ?_)
        refine RW_op (L_move (V := .slice a l.length c) rfl ?_)
        refine RW_op (L_move (V := .int .i64 ((k : Nat) : Int)) rfl ?_)
        refine RW_op (L_ixR UD_54 SA_134.1 (Rd.own' hr hs) rfl rfl (by omega) (by rw [List.length_map]; omega) ?_)
        refine RW_op (L_ldRA (j := 0) (vs := cec (gd l k)) k SA_134 (Rd.own' hr hs) (gd_at (by omega)) rfl rfl rfl (by omega) ?_)
        refine RW_op (L_bs (vals := [.agg (cec (gd l k)).toArray]) (ls := List.map cec ([gd l k] : List Cen)) EL_54 rfl rfl rfl (len_map (enc := cec) (fun _ => rfl) _) (one_map cec_one _) (Nat.le_of_ble_eq_true rfl) hs fun b12 w13 hs => ?_)
        replace hs : Own w no w13 [blk b1 (cec y) 134, row (.slice a10 ((out ++ [y]).length) c10) ((out ++ [y]).map cec) 134 7, row (.slice (some ⟨b8, 0, none⟩) 1 1) ([y].map cec) 134 7, row (.slice (some ⟨b12, 0, none⟩) 1 1) ([gd l k].map cec) 134 7] := hs
        refine RW_op (L_appN (ls' := ((out ++ [y]) ++ [gd l k]).map cec) (n := ((out ++ [y]) ++ [gd l k]).length) EL_54 hs 1 rfl rfl rfl (hs.rd 3 rfl) (one_map cec_one _) (by simp only [List.length_map, List.length_append, List.length_cons, List.length_nil]; omega) (by simp) (by simp) fun a14 c14 w15 hs => ?_)
        refine RW_op (L_assign (V := .slice a14 (((out ++ [y]) ++ [gd l k]).length) c14) rfl ?_)
        refine RW_nil ?_
        refine W_region ?_
        refine RW_op (L_move (V := .int .i64 ((k : Nat) : Int)) rfl ?_)
        refine RW_op (L_add (a := ((k : Nat) : Int)) (b := 1) (c := ((k + 1 : Nat) : Int)) rfl rfl (nat_i64 (by omega) (by omega)) ?_)
        refine RW_op (L_assign (V := .int .i64 ((k + 1 : Nat) : Int)) rfl ?_)
        refine RW_nil ?_
        refine ⟨_, ?_, _, k + 1, a14, c14, (out ++ [y]) ++ [gd l k], true, upd_of (upd_of (upd_of (mix_of (ds := [5, 6, 7, 8, 9, 10, 11, 12, 13, 14, 15, 16, 17, 18, 19, 20, 21, 22, 23, 24, 25, 26, 27, 28, 29, 30, 31, 32, 33, 34]) (by repeat (first | exact Agr.refl _ _ | refine Agr.upd ?_ rfl | refine Agr.mix ?_ rfl))) rfl) rfl) rfl, (by omega), (by simp only [List.length_append, List.length_singleton]; omega), (put_ins hput (by omega) c7 c7r), rfl, hs.take 2⟩
        omega
      ·
        refine W_skip ?_
        refine W_region ?_
        refine RW_op (L_move (V := .slice an out.length cn) rfl ?_)
        refine RW_op (L_move (V := .slice a l.length c) rfl ?_)
        refine RW_op (L_move (V := .int .i64 ((k : Nat) : Int)) rfl ?_)
        refine RW_op (L_ixR UD_54 SA_134.1 (Rd.own' hr hs) rfl rfl (by omega) (by rw [List.length_map]; omega) ?_)
        refine RW_op (L_ldRA (j := 0) (vs := cec (gd l k)) k SA_134 (Rd.own' hr hs) (gd_at (by omega)) rfl rfl rfl (by omega) ?_)
        refine RW_op (L_bs (vals := [.agg (cec (gd l k)).toArray]) (ls := List.map cec ([gd l k] : List Cen)) EL_54 rfl rfl rfl (len_map (enc := cec) (fun _ => rfl) _) (one_map cec_one _) (Nat.le_of_ble_eq_true rfl) hs fun b16 w17 hs => ?_)
        refine RW_op (L_appN (ls' := (out ++ [gd l k]).map cec) (n := (out ++ [gd l k]).length) EL_54 hs 1 rfl rfl rfl (hs.rd 2 rfl) (one_map cec_one _) (by simp only [List.length_map, List.length_append, List.length_cons, List.length_nil]; omega) (by simp) (by simp) fun a18 c18 w19 hs => ?_)
        refine RW_op (L_assign (V := .slice a18 ((out ++ [gd l k]).length) c18) rfl ?_)
        refine RW_nil ?_
        refine W_region ?_
        refine RW_op (L_move (V := .int .i64 ((k : Nat) : Int)) rfl ?_)
        refine RW_op (L_add (a := ((k : Nat) : Int)) (b := 1) (c := ((k + 1 : Nat) : Int)) rfl rfl (nat_i64 (by omega) (by omega)) ?_)
        refine RW_op (L_assign (V := .int .i64 ((k + 1 : Nat) : Int)) rfl ?_)
        refine RW_nil ?_
        refine ⟨_, ?_, _, k + 1, a18, c18, out ++ [gd l k], dn, upd_of (upd_of (upd_of (mix_of (ds := [5, 6, 7, 8, 9, 10, 11, 12, 13, 14, 15, 16, 17, 18, 19, 20, 21, 22, 23, 24, 25, 26, 27, 28, 29, 30, 31, 32, 33, 34]) (by repeat (first | exact Agr.refl _ _ | refine Agr.upd ?_ rfl | refine Agr.mix ?_ rfl))) rfl) rfl) rfl, (by omega), (by simp only [List.length_append, List.length_singleton]; omega), (put_go hput (by omega) c7), rfl, hs.take 2⟩
        omega
    ·
      replace c4 := of_decide_eq_false c4
      refine W_exit ?_
      refine W_seq ?_
      refine W_seq ?_
      refine W_region ?_
      refine RW_op (L_move (V := .bool dn) rfl ?_)
      refine RW_op (L_not rfl ?_)
      refine RW_nil ?_
      refine W_cond (t := !dn) rfl (fun c20 => ?_) (fun c20 => ?_)
      ·
        replace c20 := not_t c20
        refine W_region ?_
        refine RW_op (L_move (V := .slice an out.length cn) rfl ?_)
        refine RW_op (L_ldW (cs := cec y) SA_134 hs 0 rfl rfl rfl ?_)
        refine RW_op (L_bs (vals := [.agg (cec y).toArray]) (ls := List.map cec ([y] : List Cen)) EL_54 rfl rfl rfl (len_map (enc := cec) (fun _ => rfl) _) (one_map cec_one _) (Nat.le_of_ble_eq_true rfl) hs fun b21 w22 hs => ?_)
        refine RW_op (L_appN (ls' := (out ++ [y]).map cec) (n := (out ++ [y]).length) EL_54 hs 1 rfl rfl rfl (hs.rd 2 rfl) (one_map cec_one _) (by simp only [List.length_map, List.length_append, List.length_cons, List.length_nil]; omega) (by simp) (by simp) fun a23 c23 w24 hs => ?_)
        refine RW_op (L_assign (V := .slice a23 ((out ++ [y]).length) c23) rfl ?_)
        refine RW_nil ?_
        refine W_seq ?_
        refine W_region ?_
        refine RW_op (L_move (V := .slice a23 ((out ++ [y]).length) c23) rfl ?_)
        refine RW_op (L_assign (V := .slice a23 ((out ++ [y]).length) c23) rfl ?_)
        refine RW_nil ?_
        refine W_ret ?_
        refine ⟨_, res_one (V := .slice a23 ((out ++ [y]).length) c23) Try.results68 rfl, ?_⟩
        have hX := (put_end hput (by omega)).2 c20
        rw [← hX] at hs ⊢
        exact ⟨(a23, c23), rfl, hs.only 1 rfl, trivial⟩
      ·
        replace c20 := not_f c20
        refine W_skip ?_
        refine W_seq ?_
        refine W_region ?_
        refine RW_op (L_move (V := .slice an out.length cn) rfl ?_)
        refine RW_op (L_assign (V := .slice an out.length cn) rfl ?_)
        refine RW_nil ?_
        refine W_ret ?_
        refine ⟨_, res_one (V := .slice an out.length cn) Try.results68 rfl, ?_⟩
        have hX := (put_end hput (by omega)).1 c20
        rw [← hX] at hs ⊢
        exact ⟨(an, cn), rfl, hs.only 1 rfl, trivial⟩
set_option maxRecDepth 20000 in
set_option maxHeartbeats 4000000 in
theorem rticked_ok (w : World) (a : Option Addr) (ca : Nat) (l : List Lst) (c t : Int) (hlen : l.length ≤ 10000) (hT : RisT l) (hr : Rd w (.slice a l.length ca) 2 (l.map lsc)) : Calls Try.prog 69 #[.slice a l.length ca, .int .u16 c, .int .u32 t] w (fun e w' => ∃ x : Option Addr × Nat, e = .returned (.slice x.1 (putT c t l).length x.2) ∧ Own w no w' [row (.slice x.1 (putT c t l).length x.2) ((putT c t l).map lsc) 135 2] ∧ True) := by
  refine calls_of_Wn (n := 57) Try.func69 rfl Try.ntmps69 rfl ?_
  have hs := Own.start w
  refine W_seq ?_
  refine W_region ?_
  refine RW_op (L_assign (V := .slice none 0 0) rfl ?_)
  refine RW_nil ?_
  refine W_seq ?_
  refine W_region ?_
  refine RW_op (L_assign (V := .slice none 0 0) rfl ?_)
  refine RW_nil ?_
  refine W_seq ?_
  refine W_region ?_
  refine RW_op (L_assign (V := .bool false) rfl ?_)
  refine RW_nil ?_
  refine W_seq ?_
  refine W_seq ?_
  refine W_region ?_
  refine RW_op (L_assign (V := .int .i64 0) rfl ?_)
  refine RW_nil ?_
  refine W_block ?_
  replace hs := hs.more (row (.slice none 0 0) (List.map lsc []) 135 2) (row_nil _ _ _ _)
  refine W_loopI (fun ρ μ ρ' w' => ∃ (ρo : Env) (k : Nat) (an : Option Addr) (cn : Nat) (out : List Lst) (dn : Bool), ρ' = upd (upd (upd (mix [7, 8, 9, 10, 11, 12, 13, 14, 15, 16, 17, 18, 19, 20, 21, 22, 23, 24, 25, 26, 27, 28, 29, 30, 31, 32, 33, 34, 35, 36, 37, 38, 39, 40, 41, 42, 43, 44, 45, 46, 47] ρo ρ) 9 (.int .i64 ((k : Nat) : Int))) 7 (.slice an out.length cn)) 8 (.bool dn) ∧ (k ≤ l.length) ∧ (out.length ≤ 2 * k) ∧ (TkI l out (putT c t l) c t dn k) ∧ μ = l.length - k ∧ Own w no w' [row (.slice an out.length cn) (out.map lsc) 135 2]) ?_ ?_
  · exact ⟨_, _, 0, none, 0, [], false, upd_of (upd_of (upd_of (mix_of (ds := [7, 8, 9, 10, 11, 12, 13, 14, 15, 16, 17, 18, 19, 20, 21, 22, 23, 24, 25, 26, 27, 28, 29, 30, 31, 32, 33, 34, 35, 36, 37, 38, 39, 40, 41, 42, 43, 44, 45, 46, 47]) (Agr.refl _ _)) rfl) rfl) rfl, (by omega), (Nat.zero_le _), (⟨rfl, fun h => nomatch h⟩), rfl, hs⟩
  · rintro μ ρ' w1 ⟨ρo, k, an, cn, out, dn, rfl, hk, hol, htk, rfl, hs⟩
    refine W_seq ?_
    refine W_seq ?_
    refine W_region ?_
    refine RW_op (L_move (V := .int .i64 ((k : Nat) : Int)) rfl ?_)
    refine RW_op (L_move (V := .slice a l.length ca) rfl ?_)
    refine RW_op (L_lenR (n := l.length) UD_55 (Rd.own' hr hs) (by simp) rfl ?_)
    refine RW_op (L_lss rfl rfl ?_)
    refine RW_nil ?_
    refine W_cond (t := decide (((k : Nat) : Int) < ((l.length : Nat) : Int))) rfl (fun c2 => ?_) (fun c2 => ?_)
    ·
      replace c2 := of_decide_eq_true c2
      refine W_skip ?_
      refine W_seq ?_
      refine W_block ?_
      refine W_seq ?_
      refine W_region ?_
      refine RW_op (L_move (V := .slice a l.length ca) rfl ?_)
      refine RW_op (L_move (V := .int .i64 ((k : Nat) : Int)) rfl ?_)
      refine RW_op (L_ixR UD_55 SA_135.1 (Rd.own' hr hs) rfl rfl (by omega) (by rw [List.length_map]; omega) ?_)
      refine RW_op (L_ldRA (j := 0) (vs := lsc (gd l k)) k SA_135 (Rd.own' hr hs) (gd_at (by omega)) rfl rfl rfl (by omega) ?_)
      refine RW_op (L_alloc (cs := lsc (⟨0, 0⟩ : Lst)) ZV_135 rfl hs fun b3 w4 hs => ?_)
      refine RW_op (L_st (V := .agg (lsc (gd l k)).toArray) (vs := lsc (gd l k)) (cs' := lsc (gd l k)) SA_135.1 hs 1 rfl rfl rfl rfl rfl (Nat.le_of_ble_eq_true rfl) (lsc_one _) (spl_whole rfl) fun w5 hs => ?_)
      refine RW_nil ?_
      refine W_seq ?_
      refine W_seq ?_
      refine W_region ?_
      refine RW_op (L_fieldAddr FA_135_0 rfl ?_)
      refine RW_op (L_ld (V := .int .u16 ((gd l k).cart)) S1_70 hs 1 rfl rfl rfl ?_)
      refine RW_op (L_move (V := .int .u16 c) rfl ?_)
      refine RW_op (L_eql rfl rfl ?_)
      refine RW_nil ?_
      refine W_cond (t := decide ((gd l k).cart = c)) rfl (fun c6 => ?_) (fun c6 => ?_)
      ·
        replace c6 := of_decide_eq_true c6
        refine W_seq ?_
        refine W_region ?_
        refine RW_op (L_fieldAddr FA_135_1 rfl ?_)
        refine RW_op (L_ld (V := .int .u32 ((gd l k).tick)) S1_51 hs 1 rfl rfl rfl ?_)
        refine RW_op (L_move (V := .int .u32 t) rfl ?_)
        refine RW_op (L_max rfl rfl ?_)
        refine RW_op (L_fieldAddr FA_135_1 rfl ?_)
        refine RW_op (L_st1 (V := .int .u32 (max ((gd l k).tick) t)) (cs' := lsc (⟨(gd l k).cart, max ((gd l k).tick) t⟩ : Lst)) S1_51 hs 1 rfl rfl rfl rfl (Nat.le_of_ble_eq_true rfl) rfl fun w7 hs => ?_)
        refine RW_nil ?_
        refine W_region ?_
        refine RW_op (L_assign (V := .bool true) rfl ?_)
        refine RW_nil ?_
        refine W_seq ?_
        refine W_seq ?_
        refine W_regO [some 30, some 31, some 32, some 33, some 34, some 35, some 36, some 37] [] [0, 1, 3, 7, 15, 7, 63, 127] [pv (.bool true), pv (.bool false), pv (.bool false), pg false (.bool true), pg false (.bool true), pg false (.bool true), pg false (.bool true), pv (.bool false)] (fun _ _ => _) [7] (by kernel_rfl) hs ⟨?_, ?_, ?_, ?_, ?_, ?_, ?_, ?_, trivial⟩ ?_
        · exact ob [] [] rfl rfl fun D ρ w hs => L_move (V := .bool true) rfl ⟨rfl, hs⟩
        · exact ob [0] [] rfl rfl fun D ρ w hs => L_not rfl ⟨rfl, hs⟩
        · exact ob [1] [] rfl rfl fun D ρ w hs => L_move (V := .bool false) rfl ⟨rfl, hs⟩
        · exact obg [] [] false rfl (fun _ => rfl) rfl (fun _ _ _ _ h => h) (fun _ _ _ h => nomatch h)
        · exact obg [] [] false rfl (fun _ => rfl) rfl (fun _ _ _ _ h => h) (fun _ _ _ h => nomatch h)
        · exact obg [] [] false rfl (fun _ => rfl) rfl (fun _ _ _ _ h => h) (fun _ _ _ h => nomatch h)
        · exact obg [] [] false rfl (fun _ => rfl) rfl (fun _ _ _ _ h => h) (fun _ _ _ h => nomatch h)
        · exact ob [2] [] rfl rfl fun D ρ w hs => L_pick (V := .bool false) rfl rfl ⟨rfl, hs⟩
        rintro ρ1 w8 ρ2 hρ hs
        replace hρ : ρ2 = upd (mix [30, 31, 32, 33, 34, 35, 36, 37] ρ1 _) 37 (.bool false) := hρ
        subst hρ
        refine W_condF rfl ?_
        refine W_skip ?_
        refine W_region ?_
        refine RW_op (L_move (V := .slice an out.length cn) rfl ?_)
        refine RW_op (L_ldW (cs := lsc (⟨(gd l k).cart, max ((gd l k).tick) t⟩ : Lst)) SA_135 hs 1 rfl rfl rfl ?_)
        refine RW_op (L_bs (vals := [.agg (lsc (⟨(gd l k).cart, max ((gd l k).tick) t⟩ : Lst)).toArray]) (ls := List.map lsc ([(⟨(gd l k).cart, max ((gd l k).tick) t⟩ : Lst)] : List Lst)) EL_55 rfl rfl rfl (len_map (enc := lsc) (fun _ => rfl) _) (one_map lsc_one _) (Nat.le_of_ble_eq_true rfl) hs fun b9 w10 hs => ?_)
        replace hs : Own w no w10 [row (.slice an out.length cn) (out.map lsc) 135 2, blk b3 (lsc (⟨(gd l k).cart, max ((gd l k).tick) t⟩ : Lst)) 135, row (.slice (some ⟨b9, 0, none⟩) 1 1) ([(⟨(gd l k).cart, max ((gd l k).tick) t⟩ : Lst)].map lsc) 135 2] := hs
        refine RW_op (L_appN (ls' := (out ++ [(⟨(gd l k).cart, max ((gd l k).tick) t⟩ : Lst)]).map lsc) (n := (out ++ [(⟨(gd l k).cart, max ((gd l k).tick) t⟩ : Lst)]).length) EL_55 hs 0 rfl rfl rfl (hs.rd 2 rfl) (one_map lsc_one _) (by simp only [List.length_map, List.length_append, List.length_cons, List.length_nil]; omega) (by simp) (by simp) fun a11 c11 w12 hs => ?_)
        refine RW_op (L_assign (V := .slice a11 ((out ++ [(⟨(gd l k).cart, max ((gd l k).tick) t⟩ : Lst)]).length) c11) rfl ?_)
        refine RW_nil ?_
        refine W_region ?_
        refine RW_op (L_move (V := .int .i64 ((k : Nat) : Int)) rfl ?_)
        refine RW_op (L_add (a := ((k : Nat) : Int)) (b := 1) (c := ((k + 1 : Nat) : Int)) rfl rfl (nat_i64 (by omega) (by omega)) ?_)
        refine RW_op (L_assign (V := .int .i64 ((k + 1 : Nat) : Int)) rfl ?_)
        refine RW_nil ?_
        refine ⟨_, ?_, _, k + 1, a11, c11, out ++ [(⟨(gd l k).cart, max ((gd l k).tick) t⟩ : Lst)], true, upd_of (upd_of (upd_of (mix_of (ds := [7, 8, 9, 10, 11, 12, 13, 14, 15, 16, 17, 18, 19, 20, 21, 22, 23, 24, 25, 26, 27, 28, 29, 30, 31, 32, 33, 34, 35, 36, 37, 38, 39, 40, 41, 42, 43, 44, 45, 46, 47]) (by repeat (first | exact Agr.refl _ _ | refine Agr.upd ?_ rfl | refine Agr.mix ?_ rfl))) rfl) rfl) rfl, (by omega), (by simp only [List.length_append, List.length_singleton]; omega), (tk_eq htk hT (by omega) c6), rfl, hs.take 1⟩
        omega
      ·
        replace c6 := of_decide_eq_false c6
        refine W_skip ?_
        refine W_seq ?_
        refine W_seq ?_
        refine W_regO [some 30, some 31, some 32, some 33, some 34, some 35, some 36, some 37] [] [0, 1, 3, 7, 15, 7, 63, 127] [pv (.bool dn), pv (.bool (!dn)), pv (.bool (!dn)), pg ((!dn) == true) (.pointer (some ⟨b3, 0 + 0, none⟩)), pg ((!dn) == true) (.int .u16 ((gd l k).cart)), pg ((!dn) == true) (.int .u16 c), pg ((!dn) == true) (.bool (decide (c < (gd l k).cart))), pv (.bool ((!dn) && (decide (c < (gd l k).cart))))] (fun _ _ => _) [7] (by kernel_rfl) hs ⟨?_, ?_, ?_, ?_, ?_, ?_, ?_, ?_, trivial⟩ ?_
        · exact ob [] [] rfl rfl fun D ρ w hs => L_move (V := .bool dn) rfl ⟨rfl, hs⟩
        · exact ob [0] [] rfl rfl fun D ρ w hs => L_not rfl ⟨rfl, hs⟩
        · exact ob [1] [] rfl rfl fun D ρ w hs => L_move (V := .bool (!dn)) rfl ⟨rfl, hs⟩
        · exact obg [2] [] (!dn) rfl (fun _ => rfl) rfl (fun _ _ _ _ h => h) fun D ρ w hG hs => L_fieldAddr FA_135_0 rfl ⟨rfl, hs⟩
        · exact obgy [2, 3] [] [3] (!dn) rfl (fun _ => rfl) rfl (fun _ _ _ _ h => h) (fun hG => ⟨hG, trivial⟩) fun D ρ w hG hs => L_ld (V := .int .u16 ((gd l k).cart)) S1_70 hs 1 rfl rfl rfl ⟨rfl, hs⟩
        · exact obg [2] [] (!dn) rfl (fun _ => rfl) rfl (fun _ _ _ _ h => h) fun D ρ w hG hs => L_move (V := .int .u16 c) rfl ⟨rfl, hs⟩
        · exact obgy [2, 4, 5] [] [4, 5] (!dn) rfl (fun _ => rfl) rfl (fun _ _ _ _ h => h) (fun hG => ⟨hG, hG, trivial⟩) fun D ρ w hG hs => L_gtr rfl rfl ⟨rfl, hs⟩
        · exact ob [2, 6] [] rfl rfl fun D ρ w hs => L_andC (h' := decide (c < (gd l k).cart)) rfl rfl rfl ⟨rfl, hs⟩
        rintro ρ1 w13 ρ2 hρ hs
        replace hρ : ρ2 = upd (mix [30, 31, 32, 33, 34, 35, 36, 37] ρ1 _) 37 (.bool ((!dn) && (decide (c < (gd l k).cart)))) := hρ
        subst hρ
        refine W_cond (t := (!dn) && (decide (c < (gd l k).cart))) rfl (fun c14 => ?_) (fun c14 => ?_)
        ·
          have c14r := and_r c14
          replace c14 := and_l c14
          replace c14 := not_t c14
          replace c14r := of_decide_eq_true c14r
          refine W_seq ?_
          refine W_region ?_
          refine RW_op (L_move (V := .slice an out.length cn) rfl ?_)
          refine RW_op (L_move (V := .int .u16 c) rfl ?_)
          refine RW_op (L_move (V := .int .u32 t) rfl ?_)
          refine RW_op (L_build (vs := [(0, .int .u16 c), (1, .int .u32 t)]) (cs := lsc (⟨c, t⟩ : Lst)) BT_135 (rfl) rfl ?_)
          refine RW_op (L_bs (vals := [.agg (lsc (⟨c, t⟩ : Lst)).toArray]) (ls := List.map lsc ([(⟨c, t⟩ : Lst)] : List Lst)) EL_55 rfl rfl rfl (len_map (enc := lsc) (fun _ => rfl) _) (one_map lsc_one _) (Nat.le_of_ble_eq_true rfl) hs fun b15 w16 hs => ?_)
          refine RW_op (L_appN (ls' := (out ++ [(⟨c, t⟩ : Lst)]).map lsc) (n := (out ++ [(⟨c, t⟩ : Lst)]).length) EL_55 hs 0 rfl rfl rfl (hs.rd 2 rfl) (one_map lsc_one _) (by simp only [List.length_map, List.length_append, List.length_cons, List.length_nil]; omega) (by simp) (by simp) fun a17 c17 w18 hs => ?_)
          replace hs : Own w no w18 [row (.slice a17 ((out ++ [(⟨c, t⟩ : Lst)]).length) c17) ((out ++ [(⟨c, t⟩ : Lst)]).map lsc) 135 2, blk b3 (lsc (gd l k)) 135, row (.slice (some ⟨b15, 0, none⟩) 1 1) ([(⟨c, t⟩ : Lst)].map lsc) 135 2] := hs
          refine RW_op (L_assign (V := .slice a17 ((out ++ [(⟨c, t⟩ : Lst)]).length) c17) rfl ?_)
          refine RW_nil ?_
          refine W_region ?_
          refine RW_op (L_assign (V := .bool true) rfl ?_)
          refine RW_nil ?_
          refine W_region ?_
          refine RW_op (L_move (V := .slice a17 ((out ++ [(⟨c, t⟩ : Lst)]).length) c17) rfl ?_)
          refine RW_op (L_ldW (cs := lsc (gd l k)) SA_135 hs 1 rfl rfl rfl ?_)
          refine RW_op (L_bs (vals := [.agg (lsc (gd l k)).toArray]) (ls := List.map lsc ([gd l k] : List Lst)) EL_55 rfl rfl rfl (len_map (enc := lsc) (fun _ => rfl) _) (one_map lsc_one _) (Nat.le_of_ble_eq_true rfl) hs fun b19 w20 hs => ?_)
          refine RW_op (L_appN (ls' := ((out ++ [(⟨c, t⟩ : Lst)]) ++ [gd l k]).map lsc) (n := ((out ++ [(⟨c, t⟩ : Lst)]) ++ [gd l k]).length) EL_55 hs 0 rfl rfl rfl (hs.rd 3 rfl) (one_map lsc_one _) (by simp only [List.length_map, List.length_append, List.length_cons, List.length_nil]; omega) (by simp) (by simp) fun a21 c21 w22 hs => ?_)
          refine RW_op (L_assign (V := .slice a21 (((out ++ [(⟨c, t⟩ : Lst)]) ++ [gd l k]).length) c21) rfl ?_)
          refine RW_nil ?_
          refine W_region ?_
          refine RW_op (L_move (V := .int .i64 ((k : Nat) : Int)) rfl ?_)
          refine RW_op (L_add (a := ((k : Nat) : Int)) (b := 1) (c := ((k + 1 : Nat) : Int)) rfl rfl (nat_i64 (by omega) (by omega)) ?_)
          refine RW_op (L_assign (V := .int .i64 ((k + 1 : Nat) : Int)) rfl ?_)
          refine RW_nil ?_
          refine ⟨_, ?_, _, k + 1, a21, c21, (out ++ [(⟨c, t⟩ : Lst)]) ++ [gd l k], true, upd_of (upd_of (upd_of (mix_of (ds := [7, 8, 9, 10, 11, 12, 13, 14, 15, 16, 17, 18, 19, 20, 21, 22, 23, 24, 25, 26, 27, 28, 29, 30, 31, 32, 33, 34, 35, 36, 37, 38, 39, 40, 41, 42, 43, 44, 45, 46, 47]) (by repeat (first | exact Agr.refl _ _ | refine Agr.upd ?_ rfl | refine Agr.mix ?_ rfl))) rfl) rfl) rfl, (by omega), (by simp only [List.length_append, List.length_singleton]; omega), (tk_ins htk hT (by omega) c6 c14 c14r), rfl, hs.take 1⟩
          omega
        ·
          refine W_skip ?_
          refine W_region ?_
          refine RW_op (L_move (V := .slice an out.length cn) rfl ?_)
          refine RW_op (L_ldW (cs := lsc (gd l k)) SA_135 hs 1 rfl rfl rfl ?_)
          refine RW_op (L_bs (vals := [.agg (lsc (gd l k)).toArray]) (ls := List.map lsc ([gd l k] : List Lst)) EL_55 rfl rfl rfl (len_map (enc := lsc) (fun _ => rfl) _) (one_map lsc_one _) (Nat.le_of_ble_eq_true rfl) hs fun b23 w24 hs => ?_)
          refine RW_op (L_appN (ls' := (out ++ [gd l k]).map lsc) (n := (out ++ [gd l k]).length) EL_55 hs 0 rfl rfl rfl (hs.rd 2 rfl) (one_map lsc_one _) (by simp only [List.length_map, List.length_append, List.length_cons, List.length_nil]; omega) (by simp) (by simp) fun a25 c25 w26 hs => ?_)
          replace hs : Own w no w26 [row (.slice a25 ((out ++ [gd l k]).length) c25) ((out ++ [gd l k]).map lsc) 135 2, blk b3 (lsc (gd l k)) 135, row (.slice (some ⟨b23, 0, none⟩) 1 1) ([gd l k].map lsc) 135 2] := hs
          refine RW_op (L_assign (V := .slice a25 ((out ++ [gd l k]).length) c25) rfl ?_)
          refine RW_nil ?_
          refine W_region ?_
          refine RW_op (L_move (V := .int .i64 ((k : Nat) : Int)) rfl ?_)
          refine RW_op (L_add (a := ((k : Nat) : Int)) (b := 1) (c := ((k + 1 : Nat) : Int)) rfl rfl (nat_i64 (by omega) (by omega)) ?_)
          refine RW_op (L_assign (V := .int .i64 ((k + 1 : Nat) : Int)) rfl ?_)
          refine RW_nil ?_
          refine ⟨_, ?_, _, k + 1, a25, c25, out ++ [gd l k], dn, upd_of (upd_of (upd_of (mix_of (ds := [7, 8, 9, 10, 11, 12, 13, 14, 15, 16, 17, 18, 19, 20, 21, 22, 23, 24, 25, 26, 27, 28, 29, 30, 31, 32, 33, 34, 35, 36, 37, 38, 39, 40, 41, 42, 43, 44, 45, 46, 47]) (by repeat (first | exact Agr.refl _ _ | refine Agr.upd ?_ rfl | refine Agr.mix ?_ rfl))) rfl) rfl) rfl, (by omega), (by simp only [List.length_append, List.length_singleton]; omega), (tk_go htk (by omega) c6 c14), rfl, hs.take 1⟩
          omega
    ·
      replace c2 := of_decide_eq_false c2
      refine W_exit ?_
      refine W_seq ?_
      refine W_seq ?_
      refine W_region ?_
      refine RW_op (L_move (V := .bool dn) rfl ?_)
      refine RW_op (L_not rfl ?_)
      refine RW_nil ?_
      refine W_cond (t := !dn) rfl (fun c27 => ?_) (fun c27 => ?_)
      ·
        replace c27 := not_t c27
        refine W_region ?_
        refine RW_op (L_move (V := .slice an out.length cn) rfl ?_)
        refine RW_op (L_move (V := .int .u16 c) rfl ?_)
        refine RW_op (L_move (V := .int .u32 t) rfl ?_)
        refine RW_op (L_build (vs := [(0, .int .u16 c), (1, .int .u32 t)]) (cs := lsc (⟨c, t⟩ : Lst)) BT_135 (rfl) rfl ?_)
        refine RW_op (L_bs (vals := [.agg (lsc (⟨c, t⟩ : Lst)).toArray]) (ls := List.map lsc ([(⟨c, t⟩ : Lst)] : List Lst)) EL_55 rfl rfl rfl (len_map (enc := lsc) (fun _ => rfl) _) (one_map lsc_one _) (Nat.le_of_ble_eq_true rfl) hs fun b28 w29 hs => ?_)
        refine RW_op (L_appN (ls' := (out ++ [(⟨c, t⟩ : Lst)]).map lsc) (n := (out ++ [(⟨c, t⟩ : Lst)]).length) EL_55 hs 0 rfl rfl rfl (hs.rd 1 rfl) (one_map lsc_one _) (by simp only [List.length_map, List.length_append, List.length_cons, List.length_nil]; omega) (by simp) (by simp) fun a30 c30 w31 hs => ?_)
        refine RW_op (L_assign (V := .slice a30 ((out ++ [(⟨c, t⟩ : Lst)]).length) c30) rfl ?_)
        refine RW_nil ?_
        refine W_seq ?_
        refine W_region ?_
        refine RW_op (L_move (V := .slice a30 ((out ++ [(⟨c, t⟩ : Lst)]).length) c30) rfl ?_)
        refine RW_op (L_assign (V := .slice a30 ((out ++ [(⟨c, t⟩ : Lst)]).length) c30) rfl ?_)
        refine RW_nil ?_
        refine W_ret ?_
        refine ⟨_, res_one (V := .slice a30 ((out ++ [(⟨c, t⟩ : Lst)]).length) c30) Try.results69 rfl, ?_⟩
        have hX := (tk_end htk (by omega)).2 c27
        rw [← hX] at hs ⊢
        exact ⟨(a30, c30), rfl, hs.only 0 rfl, trivial⟩
      ·
        replace c27 := not_f c27
        refine W_skip ?_
        refine W_seq ?_
        refine W_region ?_
        refine RW_op (L_move (V := .slice an out.length cn) rfl ?_)
        refine RW_op (L_assign (V := .slice an out.length cn) rfl ?_)
        refine RW_nil ?_
        refine W_ret ?_
        refine ⟨_, res_one (V := .slice an out.length cn) Try.results69 rfl, ?_⟩
        have hX := (tk_end htk (by omega)).1 c27
        rw [← hX] at hs ⊢
        exact ⟨(an, cn), rfl, hs.only 0 rfl, trivial⟩
end Tt
end Go.Proofs
namespace Go.Proofs
open Go Go.Vx Go.RowKit
namespace Tt
set_option maxRecDepth 20000 in
set_option maxHeartbeats 4000000 in
theorem rMerge_ok (w : World) (p : Sta) (a1p : Option Addr) (c1p : Nat) (a2p : Option Addr) (c2p : Nat) (q : Sta) (a1q : Option Addr) (c1q : Nat) (a2q : Option Addr) (c2q : Nat) (hokp : StaOk p) (hlep : p.ents.length ≤ 1000) (hltp : p.ticks.length ≤ 1000) (hokq : StaOk q) (hleq : q.ents.length ≤ 1000) (hltq : q.ticks.length ≤ 1000) (hr1p : Rd w (.slice a1p p.ents.length c1p) 7 (p.ents.map cec)) (hr2p : Rd w (.slice a2p p.ticks.length c2p) 2 (p.ticks.map lsc)) (hr1q : Rd w (.slice a1q q.ents.length c1q) 7 (q.ents.map cec)) (hr2q : Rd w (.slice a2q q.ticks.length c2q) 2 (q.ticks.map lsc)) : Calls Try.prog 30 #[.agg ((vc p.known) ++ [(.slice a1p p.ents.length c1p : Value), (.slice a2p p.ticks.length c2p : Value) ]).toArray, .agg ((vc q.known) ++ [(.slice a1q q.ents.length c1q : Value), (.slice a2q q.ticks.length c2q : Value) ]).toArray] w (fun e w' => ∃ x : ((Option Addr × Nat) × (Option Addr × Nat)) × Bool, e = .returned (.tuple #[.agg (vc (mergeR p q).known ++ [(.slice x.1.1.1 ((mergeR p q).ents).length x.1.1.2 : Value), (.slice x.1.2.1 ((mergeR p q).ticks).length x.1.2.2 : Value)]).toArray, .int .i64 (mergeI p q)]) ∧ Own w no w' [row (.slice x.1.1.1 ((mergeR p q).ents).length x.1.1.2) ((mergeR p q).ents.map cec) 134 7, cond x.2 emp (row (.slice x.1.2.1 ((mergeR p q).ticks).length x.1.2.2) ((mergeR p q).ticks.map lsc) 135 2)] ∧ (x.2 = true → x.1.2 = (a2p, c2p) ∧ (mergeR p q).ticks = p.ticks)) := by
  refine calls_of_Wn (n := 129) Try.func30 rfl Try.ntmps30 rfl ?_
  have hs := Own.start w
  have ⟨hpv, hpE, hpT⟩ := hokp
  have ⟨hqv, hqE, hqT⟩ := hokq
  refine W_seq ?_
  refine W_region ?_
  refine RW_op (L_box (V := .agg ((vc p.known) ++ [(.slice a1p p.ents.length c1p : Value), (.slice a2p p.ticks.length c2p : Value) ]).toArray) (cs := (vc p.known) ++ [(.slice a1p p.ents.length c1p : Value), (.slice a2p p.ticks.length c2p : Value) ]) rfl rfl hs fun b1 w2 hs => ?_)
  refine RW_op (L_box (V := .agg ((vc q.known) ++ [(.slice a1q q.ents.length c1q : Value), (.slice a2q q.ticks.length c2q : Value) ]).toArray) (cs := (vc q.known) ++ [(.slice a1q q.ents.length c1q : Value), (.slice a2q q.ticks.length c2q : Value) ]) rfl rfl hs fun b3 w4 hs => ?_)
  refine RW_op (L_alloc (cs := (vc vzero) ++ [(.slice none 0 0 : Value), (.slice none 0 0 : Value) ]) ZV_57 rfl hs fun b5 w6 hs => ?_)
  refine RW_op (L_assign (V := .int .i64 0) rfl ?_)
  refine RW_nil ?_
  refine W_seq ?_
  refine W_seq ?_
  refine W_regO [some 15, some 16, some 17, some 18, some 19, some 20, some 21, some 22] [] [0, 1, 3, 7, 15, 31, 63, 127] [pv (.agg ((vc p.known) ++ [(.slice a1p p.ents.length c1p : Value), (.slice a2p p.ticks.length c2p : Value) ]).toArray), pv (.bool (rightS p)), pv (.bool (!(rightS p))), pv (.bool (!(rightS p))), pg ((!(rightS p)) == false) (.agg ((vc q.known) ++ [(.slice a1q q.ents.length c1q : Value), (.slice a2q q.ticks.length c2q : Value) ]).toArray), pg ((!(rightS p)) == false) (.bool (rightS q)), pg ((!(rightS p)) == false) (.bool (!(rightS q))), pv (.bool ((!(rightS p)) || (!(rightS q))))] (fun _ _ => _) [7] (by kernel_rfl) hs ⟨?_, ?_, ?_, ?_, ?_, ?_, ?_, ?_, trivial⟩ ?_
  · exact ob [] [] rfl rfl fun D ρ w hs => L_ldW (cs := (vc p.known) ++ [(.slice a1p p.ents.length c1p : Value), (.slice a2p p.ticks.length c2p : Value) ]) SA_57 hs 0 rfl rfl rfl ⟨rfl, hs⟩
  · exact ob [0] [] rfl rfl fun D ρ w hs => L_callP (vs := [.agg ((vc p.known) ++ [(.slice a1p p.ents.length c1p : Value), (.slice a2p p.ticks.length c2p : Value) ]).toArray]) (V := .bool (rightS p)) EN_46 rfl rfl (rRight8_ok _ p a1p c1p a2p c2p hokp (Rd.own' hr1p hs) (Rd.own' hr2p hs)) hs fun _ hs => ⟨rfl, hs⟩
  · exact ob [1] [] rfl rfl fun D ρ w hs => L_not rfl ⟨rfl, hs⟩
  · exact ob [2] [] rfl rfl fun D ρ w hs => L_move (V := .bool (!(rightS p))) rfl ⟨rfl, hs⟩
  · exact obg [3] [] (!(rightS p)) rfl (fun _ => rfl) rfl (fun _ _ _ _ h => h) fun D ρ w hG hs => L_ldW (cs := (vc q.known) ++ [(.slice a1q q.ents.length c1q : Value), (.slice a2q q.ticks.length c2q : Value) ]) SA_57 hs 1 rfl rfl rfl ⟨rfl, hs⟩
  · exact obgy [3, 4] [] [4] (!(rightS p)) rfl (fun _ => rfl) rfl (fun _ _ _ _ h => h) (fun hG => ⟨hG, trivial⟩) fun D ρ w hG hs => L_callP (vs := [.agg ((vc q.known) ++ [(.slice a1q q.ents.length c1q : Value), (.slice a2q q.ticks.length c2q : Value) ]).toArray]) (V := .bool (rightS q)) EN_46 rfl rfl (rRight8_ok _ q a1q c1q a2q c2q hokq (Rd.own' hr1q hs) (Rd.own' hr2q hs)) hs fun _ hs => ⟨rfl, hs⟩
  · exact obgy [3, 5] [] [5] (!(rightS p)) rfl (fun _ => rfl) rfl (fun _ _ _ _ h => h) (fun hG => ⟨hG, trivial⟩) fun D ρ w hG hs => L_not rfl ⟨rfl, hs⟩
  · exact ob [3, 6] [] rfl rfl fun D ρ w hs => L_orC (h' := !(rightS q)) rfl rfl rfl ⟨rfl, hs⟩
  rintro ρ1 w9 ρ2 hρ hs
  replace hρ : ρ2 = upd (mix [15, 16, 17, 18, 19, 20, 21, 22] ρ1 _) 22 (.bool ((!(rightS p)) || (!(rightS q)))) := hρ
  subst hρ
  refine W_cond (t := (!(rightS p)) || (!(rightS q))) rfl (fun c10 => ?_) (fun c10 => ?_)
  ·
    refine W_seq ?_
    refine W_region ?_
    refine RW_op (L_buildP (vs := []) (cs := (vc vzero) ++ [(.slice none 0 0 : Value), (.slice none 0 0 : Value) ]) [vc vzero, [(.slice none 0 0 : Value)], [(.slice none 0 0 : Value)]] [vc vzero, [(.slice none 0 0 : Value)], [(.slice none 0 0 : Value)]] BT_57 rfl (rfl) rfl rfl ?_)
    refine RW_op (L_st (V := .agg ((vc vzero) ++ [(.slice none 0 0 : Value), (.slice none 0 0 : Value) ]).toArray) (vs := (vc vzero) ++ [(.slice none 0 0 : Value), (.slice none 0 0 : Value) ]) (cs' := (vc vzero) ++ [(.slice none 0 0 : Value), (.slice none 0 0 : Value) ]) SA_57.1 hs 2 rfl rfl rfl rfl rfl (Nat.le_of_ble_eq_true rfl) (one_app (vc_one _) (one_cons rfl (one_cons rfl one_nil))) (spl_whole rfl) fun w11 hs => ?_)
    replace hs : Own w no w11 [blk b1 ((vc p.known) ++ [(.slice a1p p.ents.length c1p : Value), (.slice a2p p.ticks.length c2p : Value) ]) 57, blk b3 ((vc q.known) ++ [(.slice a1q q.ents.length c1q : Value), (.slice a2q q.ticks.length c2q : Value) ]) 57, blk b5 ((vc vzero) ++ [(.slice none 0 0 : Value), (.slice none 0 0 : Value) ]) 57] := hs
    refine RW_op (L_assign (V := .int .i64 2) rfl ?_)
    refine RW_nil ?_
    refine W_ret ?_
    refine ⟨_, res_cell2 (cs := (vc vzero) ++ [(.slice none 0 0 : Value), (.slice none 0 0 : Value) ]) (V := .int .i64 2) Try.results30 SA_57 hs 2 rfl rfl rfl rfl, ?_⟩
    obtain ⟨hI, hR⟩ := mergeR_no (a := p) (b := q) (by have hz := c10; revert hz; cases rightS p <;> cases rightS q <;> decide)
    rw [hI, hR]
    exact ⟨(((none, 0), (none, 0)), false), rfl, ((hs.take 0).more _ (row_nil _ _ 134 7)).more _ (row_nil _ _ 135 2), fun h => nomatch h⟩
  ·
    have c10r := or_r c10
    replace c10 := or_l c10
    replace c10 := not_f c10
    replace c10r := not_f c10r
    refine W_skip ?_
    refine W_seq ?_
    have hra := rightS_iff.1 c10
    have hrb := rightS_iff.1 c10r
    replace hs := hs.more emp trivial
    refine W_regD HM [some 24, some 25, some 26, some 27, some 28, some 29, some 30, some 31, some 6, none] [[], [], [], [], [], [], [], [], [6]] [0, 1, 0, 4, 15, 0, 32, 127, 0, 511] [pv (.pointer (some ⟨b1, 0 + 0, none⟩)), pv (.agg (vc p.known).toArray), pv (.pointer (some ⟨b3, 0 + 0, none⟩)), pv (.agg (vc q.known).toArray), pv (.agg (vc (vjoin p.known q.known)).toArray), pv (.pointer (some ⟨b1, 0 + 17, none⟩)), pv (.slice a2p p.ticks.length c2p), pv (.agg ((vc (vjoin p.known q.known)) ++ [(.slice none 0 0 : Value), (.slice a2p p.ticks.length c2p : Value) ]).toArray), (true, fun ρ => .pointer (some ⟨(bOf (ρ 6)), 0, none⟩)), pn] (fun D ρ => [blk b1 ((vc p.known) ++ [(.slice a1p p.ents.length c1p : Value), (.slice a2p p.ticks.length c2p : Value) ]) 57, blk b3 ((vc q.known) ++ [(.slice a1q q.ents.length c1q : Value), (.slice a2q q.ticks.length c2q : Value) ]) 57, blk b5 ((vc vzero) ++ [(.slice none 0 0 : Value), (.slice none 0 0 : Value) ]) 57, cond (D 9) (blk (bOf (ρ 6)) ((vc (vjoin p.known q.known)) ++ [(.slice none 0 0 : Value), (.slice a2p p.ticks.length c2p : Value) ]) 57) (cond (D 8) (blk (bOf (ρ 6)) ((vc vzero) ++ [(.slice none 0 0 : Value), (.slice none 0 0 : Value) ]) 57) (emp))]) [8] (by kernel_rfl) hs ⟨?_, ?_, ?_, ?_, ?_, ?_, ?_, ?_, ?_, ?_, trivial⟩ ?_
    · exact ob [] [] rfl rfl fun D ρ w hs => L_fieldAddr FA_57_0 rfl ⟨rfl, hs⟩
    · exact ob [0] [] rfl rfl fun D ρ w hs => L_ldA (vs := vc p.known) SA_53 hs 0 rfl rfl rfl rfl ⟨rfl, hs⟩
    · exact ob [] [] rfl rfl fun D ρ w hs => L_fieldAddr FA_57_0 rfl ⟨rfl, hs⟩
    · exact ob [2] [] rfl rfl fun D ρ w hs => L_ldA (vs := vc q.known) SA_53 hs 1 rfl rfl rfl rfl ⟨rfl, hs⟩
    · exact ob [1, 3] [] rfl rfl fun D ρ w hs => L_callP (vs := [.agg (vc p.known).toArray, .agg (vc q.known).toArray]) (V := .agg (vc (vjoin p.known q.known)).toArray) EN_43 rfl rfl (rJoin_ok _ p.known q.known) hs fun _ hs => ⟨rfl, hs⟩
    · exact ob [] [] rfl rfl fun D ρ w hs => L_fieldAddr FA_57_2 rfl ⟨rfl, hs⟩
    · exact ob [5] [] rfl rfl fun D ρ w hs => L_ld (V := .slice a2p p.ticks.length c2p) S1_55 hs 0 rfl rfl rfl ⟨rfl, hs⟩
    · exact ob [4, 6] [] rfl rfl fun D ρ w hs => L_buildP (vs := [(0, .agg (vc (vjoin p.known q.known)).toArray), (2, .slice a2p p.ticks.length c2p)]) (cs := (vc (vjoin p.known q.known)) ++ [(.slice none 0 0 : Value), (.slice a2p p.ticks.length c2p : Value) ]) [vc vzero, [(.slice none 0 0 : Value)], [(.slice none 0 0 : Value)]] [vc (vjoin p.known q.known), [(.slice none 0 0 : Value)], [(.slice a2p p.ticks.length c2p : Value)]] BT_57 rfl (rfl) rfl rfl ⟨rfl, hs⟩
    · exact ob [] [9] rfl rfl fun D ρ w hs => L_alloc (cs := (vc vzero) ++ [(.slice none 0 0 : Value), (.slice none 0 0 : Value) ]) ZV_57 rfl hs fun _ _ hs => ⟨rfl, hs.put 3 (Nat.le_of_ble_eq_true rfl)⟩
    · exact ob [7, 8] [] rfl rfl fun D ρ w hs => L_st (V := .agg ((vc (vjoin p.known q.known)) ++ [(.slice none 0 0 : Value), (.slice a2p p.ticks.length c2p : Value) ]).toArray) (vs := (vc (vjoin p.known q.known)) ++ [(.slice none 0 0 : Value), (.slice a2p p.ticks.length c2p : Value) ]) (cs' := (vc (vjoin p.known q.known)) ++ [(.slice none 0 0 : Value), (.slice a2p p.ticks.length c2p : Value) ]) SA_57.1 hs 3 rfl rfl rfl rfl rfl (Nat.le_of_ble_eq_true rfl) (one_app (vc_one _) (one_cons rfl (one_cons rfl one_nil))) (spl_whole rfl) fun _ hs => ⟨trivial, hs⟩
    rintro ρ1 w15 ρ2 hρ hs
    replace hρ : ρ2 = upd (mix [24, 25, 26, 27, 28, 29, 30, 31, 6] ρ1 _) 6 (.pointer (some ⟨(bOf (ρ1 6)), 0, none⟩)) := hρ
    replace hs : Own w no w15 [blk b1 ((vc p.known) ++ [(.slice a1p p.ents.length c1p : Value), (.slice a2p p.ticks.length c2p : Value) ]) 57, blk b3 ((vc q.known) ++ [(.slice a1q q.ents.length c1q : Value), (.slice a2q q.ticks.length c2q : Value) ]) 57, blk b5 ((vc vzero) ++ [(.slice none 0 0 : Value), (.slice none 0 0 : Value) ]) 57, blk (bOf (ρ1 6)) ((vc (vjoin p.known q.known)) ++ [(.slice none 0 0 : Value), (.slice a2p p.ticks.length c2p : Value) ]) 57] := hs
    generalize (bOf (ρ1 6)) = b16 at hρ hs
    subst hρ
    refine W_seq ?_
    refine W_region ?_
    refine RW_op (L_assign (V := .slice none 0 0) rfl ?_)
    refine RW_nil ?_
    refine W_seq ?_
    refine W_seq ?_
    refine W_region ?_
    refine RW_op (L_assign (V := .int .i64 0) rfl ?_)
    refine RW_nil ?_
    refine W_block ?_
    replace hs := hs.more (row (.slice none 0 0) (List.map cec []) 134 7) (row_nil _ _ _ _)
    refine W_loopI (fun ρ μ ρ' w' => ∃ (ρo : Env) (k : Nat) (an1 : Option Addr) (cn1 : Nat) (L1 : List Cen), ρ' = upd (upd (mix [5, 7, 8, 9, 10, 32, 33, 34, 35, 36, 37, 38, 39, 40, 41, 42, 43, 44, 45, 46, 47, 48, 49, 50, 51, 52, 53, 54, 55, 56, 57, 58, 59, 60, 61, 62, 63, 64, 65, 66, 67, 68, 69, 70, 71, 72] ρo ρ) 8 (.int .i64 ((k : Nat) : Int))) 7 (.slice an1 L1.length cn1) ∧ (k ≤ p.ents.length) ∧ (L1 = putAll ([] ++ (p.ents.take k).filter (keepA q))) ∧ (∀ j : Nat, j < k → confB q (gd p.ents j) = false) ∧ μ = p.ents.length - k ∧ Own w no w' [blk b1 ((vc p.known) ++ [(.slice a1p p.ents.length c1p : Value), (.slice a2p p.ticks.length c2p : Value) ]) 57, blk b3 ((vc q.known) ++ [(.slice a1q q.ents.length c1q : Value), (.slice a2q q.ticks.length c2q : Value) ]) 57, blk b5 ((vc vzero) ++ [(.slice none 0 0 : Value), (.slice none 0 0 : Value) ]) 57, blk b16 ((vc (vjoin p.known q.known)) ++ [(.slice none 0 0 : Value), (.slice a2p p.ticks.length c2p : Value) ]) 57, row (.slice an1 L1.length cn1) (L1.map cec) 134 7]) ?_ ?_
    · exact ⟨_, _, 0, none, 0, [], upd_of (upd_of (mix_of (ds := [5, 7, 8, 9, 10, 32, 33, 34, 35, 36, 37, 38, 39, 40, 41, 42, 43, 44, 45, 46, 47, 48, 49, 50, 51, 52, 53, 54, 55, 56, 57, 58, 59, 60, 61, 62, 63, 64, 65, 66, 67, 68, 69, 70, 71, 72]) (Agr.refl _ _)) rfl) rfl, (by omega), rfl, (fun j hj => absurd hj (Nat.not_lt_zero j)), rfl, hs⟩
    · rintro μ ρ' w17 ⟨ρo, k, an1, cn1, L1, rfl, hk1, hL1, hcf, rfl, hs⟩
      have hll1 : L1.length ≤ 2000 := by rw [hL1, putAll_len, List.length_append]; have h1 := List.length_filter_le (keepA q) p.ents; have h2 := List.length_filter_le (keepA q) (p.ents.take k); rw [List.length_take] at h2; simp; omega
      refine W_seq ?_
      refine W_seq ?_
      refine W_region ?_
      refine RW_op (L_move (V := .int .i64 ((k : Nat) : Int)) rfl ?_)
      refine RW_op (L_fieldAddr FA_57_1 rfl ?_)
      refine RW_op (L_ld (V := .slice a1p p.ents.length c1p) S1_54 hs 0 rfl rfl rfl ?_)
      refine RW_op (L_lenR (n := p.ents.length) UD_54 (Rd.own' hr1p hs) (by simp) rfl ?_)
      refine RW_op (L_lss rfl rfl ?_)
      refine RW_nil ?_
      refine W_cond (t := decide (((k : Nat) : Int) < ((p.ents.length : Nat) : Int))) rfl (fun c18 => ?_) (fun c18 => ?_)
      ·
        replace c18 := of_decide_eq_true c18
        refine W_skip ?_
        refine W_seq ?_
        refine W_block ?_
        refine W_seq ?_
        refine W_region ?_
        refine RW_op (L_fieldAddr FA_57_1 rfl ?_)
        refine RW_op (L_ld (V := .slice a1p p.ents.length c1p) S1_54 hs 0 rfl rfl rfl ?_)
        refine RW_op (L_move (V := .int .i64 ((k : Nat) : Int)) rfl ?_)
        refine RW_op (L_ixR UD_54 SA_134.1 (Rd.own' hr1p hs) rfl rfl (by omega) (by rw [List.length_map]; omega) ?_)
        refine RW_op (L_ldRA (j := 0) (vs := cec (gd p.ents k)) k SA_134 (Rd.own' hr1p hs) (gd_at (by omega)) rfl rfl rfl (by omega) ?_)
        refine RW_op (L_alloc (cs := cec (⟨0, 0, 0, 0, (⟨0, 0⟩ : Dot), 0⟩ : Cen)) ZV_134 rfl hs fun b19 w20 hs => ?_)
        replace hs : Own w no w20 [blk b1 ((vc p.known) ++ [(.slice a1p p.ents.length c1p : Value), (.slice a2p p.ticks.length c2p : Value) ]) 57, blk b3 ((vc q.known) ++ [(.slice a1q q.ents.length c1q : Value), (.slice a2q q.ticks.length c2q : Value) ]) 57, blk b5 ((vc vzero) ++ [(.slice none 0 0 : Value), (.slice none 0 0 : Value) ]) 57, blk b16 ((vc (vjoin p.known q.known)) ++ [(.slice none 0 0 : Value), (.slice a2p p.ticks.length c2p : Value) ]) 57, row (.slice an1 L1.length cn1) (L1.map cec) 134 7, blk b19 (cec (⟨0, 0, 0, 0, (⟨0, 0⟩ : Dot), 0⟩ : Cen)) 134] := hs
        refine RW_op (L_st (V := .agg (cec (gd p.ents k)).toArray) (vs := cec (gd p.ents k)) (cs' := cec (gd p.ents k)) SA_134.1 hs 5 rfl rfl rfl rfl rfl (Nat.le_of_ble_eq_true rfl) (cec_one _) (spl_whole rfl) fun w21 hs => ?_)
        refine RW_nil ?_
        refine W_seq ?_
        have hce := (hpE _ (gd_mem (l := p.ents) (i := k) (by omega))).2.2.2.2.1
        refine W_region ?_
        refine RW_op (L_ldW (cs := (vc q.known) ++ [(.slice a1q q.ents.length c1q : Value), (.slice a2q q.ticks.length c2q : Value) ]) SA_57 hs 1 rfl rfl rfl ?_)
        refine RW_op (L_fieldAddr FA_134_4 rfl ?_)
        refine RW_op (L_ldA (vs := dc ((gd p.ents k).dot)) SA_96 hs 5 rfl rfl rfl rfl ?_)
        refine RW_op (L_callP (vs := [.agg ((vc q.known) ++ [(.slice a1q q.ents.length c1q : Value), (.slice a2q q.ticks.length c2q : Value) ]).toArray, .agg (dc ((gd p.ents k).dot)).toArray]) (V := .int .i64 (findI q.ents ((gd p.ents k).dot))) EN_66 rfl rfl ?hc hs fun w22 hs => ?_)
        case hc => exact (rfind_ok _ q a1q c1q a2q c2q ((gd p.ents k).dot) (Rd.own' hr1q hs) (Rd.own' hr2q hs))
        refine RW_op (L_assign (V := .int .i64 (findI q.ents ((gd p.ents k).dot))) rfl ?_)
        refine RW_nil ?_
        refine W_seq ?_
        refine W_seq ?_
        have hfl := find_lt q.ents (gd p.ents k).dot
        refine W_regD HM [some 48, some 49, some 50, some 51, some 52, some 53, some 54, some 55, some 56, some 57, some 58] [] [0, 1, 3, 7, 15, 7, 63, 127, 7, 511, 1023] [pv (.int .i64 (findI q.ents ((gd p.ents k).dot))), pv (.bool (decide (0 ≤ findI q.ents ((gd p.ents k).dot)))), pv (.bool (decide (0 ≤ findI q.ents ((gd p.ents k).dot)))), pg ((decide (0 ≤ findI q.ents ((gd p.ents k).dot))) == true) (.pointer (some ⟨b3, 0 + 16, none⟩)), pg ((decide (0 ≤ findI q.ents ((gd p.ents k).dot))) == true) (.slice a1q q.ents.length c1q), pg ((decide (0 ≤ findI q.ents ((gd p.ents k).dot))) == true) (.int .i64 (findI q.ents ((gd p.ents k).dot))), pg ((decide (0 ≤ findI q.ents ((gd p.ents k).dot))) == true) (.pointer (some ⟨bkS (.slice a1q q.ents.length c1q), ofS (.slice a1q q.ents.length c1q) + (findI q.ents ((gd p.ents k).dot)).toNat * 7, none⟩)), pg ((decide (0 ≤ findI q.ents ((gd p.ents k).dot))) == true) (.agg (cec (gd q.ents (findI q.ents ((gd p.ents k).dot)).toNat)).toArray), pg ((decide (0 ≤ findI q.ents ((gd p.ents k).dot))) == true) (.agg (cec (gd p.ents k)).toArray), pg ((decide (0 ≤ findI q.ents ((gd p.ents k).dot))) == true) (.bool (!decide (gd q.ents (findI q.ents ((gd p.ents k).dot)).toNat = gd p.ents k))), pv (.bool (confB q (gd p.ents k)))] (fun _ _ => _) [10] (by kernel_rfl) hs ⟨?_, ?_, ?_, ?_, ?_, ?_, ?_, ?_, ?_, ?_, ?_, trivial⟩ ?_
        · exact ob [] [] rfl rfl fun D ρ w hs => L_move (V := .int .i64 (findI q.ents ((gd p.ents k).dot))) rfl ⟨rfl, hs⟩
        · exact ob [0] [] rfl rfl fun D ρ w hs => L_geq rfl rfl ⟨rfl, hs⟩
        · exact ob [1] [] rfl rfl fun D ρ w hs => L_move (V := .bool (decide (0 ≤ findI q.ents ((gd p.ents k).dot)))) rfl ⟨rfl, hs⟩
        · exact obg [2] [] (decide (0 ≤ findI q.ents ((gd p.ents k).dot))) rfl (fun _ => rfl) rfl (fun _ _ _ _ h => h) fun D ρ w hG hs => L_fieldAddr FA_57_1 rfl ⟨rfl, hs⟩
        · exact obgy [2, 3] [] [3] (decide (0 ≤ findI q.ents ((gd p.ents k).dot))) rfl (fun _ => rfl) rfl (fun _ _ _ _ h => h) (fun hG => ⟨hG, trivial⟩) fun D ρ w hG hs => L_ld (V := .slice a1q q.ents.length c1q) S1_54 hs 1 rfl rfl rfl ⟨rfl, hs⟩
        · exact obg [2] [] (decide (0 ≤ findI q.ents ((gd p.ents k).dot))) rfl (fun _ => rfl) rfl (fun _ _ _ _ h => h) fun D ρ w hG hs => L_move (V := .int .i64 (findI q.ents ((gd p.ents k).dot))) rfl ⟨rfl, hs⟩
        · refine obgy [2, 4, 5] [] [4, 5] (decide (0 ≤ findI q.ents ((gd p.ents k).dot))) rfl (fun _ => rfl) rfl (fun _ _ _ _ h => h) (fun hG => ⟨hG, hG, trivial⟩) fun D ρ w hG hs => ?_
          have hgd := of_decide_eq_true (eq_of_beq (hG))
          exact L_ixR UD_54 SA_134.1 (Rd.own' hr1q hs) rfl rfl (by omega) (by rw [List.length_map]; omega) ⟨rfl, hs⟩
        · refine obgy [2, 6] [] [6] (decide (0 ≤ findI q.ents ((gd p.ents k).dot))) rfl (fun _ => rfl) rfl (fun _ _ _ _ h => h) (fun hG => ⟨hG, trivial⟩) fun D ρ w hG hs => ?_
          have hgd := of_decide_eq_true (eq_of_beq (hG))
          exact L_ldRA (j := 0) (vs := cec (gd q.ents (findI q.ents ((gd p.ents k).dot)).toNat)) ((findI q.ents ((gd p.ents k).dot)).toNat) SA_134 (Rd.own' hr1q hs) (gd_at (by omega)) rfl rfl rfl (by omega) ⟨rfl, hs⟩
        · exact obg [2] [] (decide (0 ≤ findI q.ents ((gd p.ents k).dot))) rfl (fun _ => rfl) rfl (fun _ _ _ _ h => h) fun D ρ w hG hs => L_ldW (cs := cec (gd p.ents k)) SA_134 hs 5 rfl rfl rfl ⟨rfl, hs⟩
        · exact obgy [2, 7, 8] [] [7, 8] (decide (0 ≤ findI q.ents ((gd p.ents k).dot))) rfl (fun _ => rfl) rfl (fun _ _ _ _ h => h) (fun hG => ⟨hG, hG, trivial⟩) fun D ρ w hG hs => L_neA (xs := cec (gd q.ents (findI q.ents ((gd p.ents k).dot)).toNat)) (ys := cec (gd p.ents k)) Try.eqGuardType134 (EQ_134 (gd q.ents (findI q.ents ((gd p.ents k).dot)).toNat) (gd p.ents k)) rfl rfl rfl ⟨rfl, hs⟩
        · exact ob [2, 9] [] rfl rfl fun D ρ w hs => opW_to (V := .bool ((decide (0 ≤ findI q.ents ((gd p.ents k).dot))) && (!decide (gd q.ents (findI q.ents ((gd p.ents k).dot)).toNat = gd p.ents k)))) (V' := .bool (confB q (gd p.ents k))) (L_andC (h' := !decide (gd q.ents (findI q.ents ((gd p.ents k).dot)).toNat = gd p.ents k)) rfl rfl rfl ⟨rfl, rfl⟩) (congrArg Value.bool (find_conf hrb.nd _)) ⟨rfl, hs⟩
        rintro ρ1 w23 ρ2 hρ hs
        replace hρ : ρ2 = upd (mix [48, 49, 50, 51, 52, 53, 54, 55, 56, 57, 58] ρ1 _) 58 (.bool (confB q (gd p.ents k))) := hρ
        subst hρ
        refine W_cond (t := confB q (gd p.ents k)) rfl (fun c24 => ?_) (fun c24 => ?_)
        ·
          refine W_seq ?_
          refine W_region ?_
          refine RW_op (L_buildP (vs := []) (cs := (vc vzero) ++ [(.slice none 0 0 : Value), (.slice none 0 0 : Value) ]) [vc vzero, [(.slice none 0 0 : Value)], [(.slice none 0 0 : Value)]] [vc vzero, [(.slice none 0 0 : Value)], [(.slice none 0 0 : Value)]] BT_57 rfl (rfl) rfl rfl ?_)
          refine RW_op (L_st (V := .agg ((vc vzero) ++ [(.slice none 0 0 : Value), (.slice none 0 0 : Value) ]).toArray) (vs := (vc vzero) ++ [(.slice none 0 0 : Value), (.slice none 0 0 : Value) ]) (cs' := (vc vzero) ++ [(.slice none 0 0 : Value), (.slice none 0 0 : Value) ]) SA_57.1 hs 2 rfl rfl rfl rfl rfl (Nat.le_of_ble_eq_true rfl) (one_app (vc_one _) (one_cons rfl (one_cons rfl one_nil))) (spl_whole rfl) fun w25 hs => ?_)
          refine RW_op (L_assign (V := .int .i64 5) rfl ?_)
          refine RW_nil ?_
          refine W_ret ?_
          refine ⟨_, res_cell2 (cs := (vc vzero) ++ [(.slice none 0 0 : Value), (.slice none 0 0 : Value) ]) (V := .int .i64 5) Try.results30 SA_57 hs 2 rfl rfl rfl rfl, ?_⟩
          obtain ⟨hI, hR⟩ := mergeR_conf c10 c10r (conf_some (k := k) (by omega) c24)
          rw [hI, hR]
          exact ⟨(((none, 0), (none, 0)), false), rfl, ((hs.take 0).more _ (row_nil _ _ 134 7)).more _ (row_nil _ _ 135 2), fun h => nomatch h⟩
        ·
          refine W_skip ?_
          refine W_seq ?_
          refine W_regO [some 60, some 61, some 62, some 63, some 64, some 65, some 66, some 67, some 68, some 69] [] [0, 1, 3, 7, 15, 7, 39, 127, 255, 511] [pv (.int .i64 (findI q.ents ((gd p.ents k).dot))), pv (.bool (decide (0 ≤ findI q.ents ((gd p.ents k).dot)))), pv (.bool (decide (0 ≤ findI q.ents ((gd p.ents k).dot)))), pg ((decide (0 ≤ findI q.ents ((gd p.ents k).dot))) == false) (.pointer (some ⟨b3, 0 + 0, none⟩)), pg ((decide (0 ≤ findI q.ents ((gd p.ents k).dot))) == false) (.agg (vc q.known).toArray), pg ((decide (0 ≤ findI q.ents ((gd p.ents k).dot))) == false) (.pointer (some ⟨b19, 0 + 4, none⟩)), pg ((decide (0 ≤ findI q.ents ((gd p.ents k).dot))) == false) (.agg (dc ((gd p.ents k).dot)).toArray), pg ((decide (0 ≤ findI q.ents ((gd p.ents k).dot))) == false) (.bool (hasB q.known ((gd p.ents k).dot))), pg ((decide (0 ≤ findI q.ents ((gd p.ents k).dot))) == false) (.bool (!(hasB q.known ((gd p.ents k).dot)))), pv (.bool (keepA q (gd p.ents k)))] (fun _ _ => _) [9] (by kernel_rfl) hs ⟨?_, ?_, ?_, ?_, ?_, ?_, ?_, ?_, ?_, ?_, trivial⟩ ?_
          · exact ob [] [] rfl rfl fun D ρ w hs => L_move (V := .int .i64 (findI q.ents ((gd p.ents k).dot))) rfl ⟨rfl, hs⟩
          · exact ob [0] [] rfl rfl fun D ρ w hs => L_geq rfl rfl ⟨rfl, hs⟩
          · exact ob [1] [] rfl rfl fun D ρ w hs => L_move (V := .bool (decide (0 ≤ findI q.ents ((gd p.ents k).dot)))) rfl ⟨rfl, hs⟩
          · exact obg [2] [] (decide (0 ≤ findI q.ents ((gd p.ents k).dot))) rfl (fun _ => rfl) rfl (fun _ _ _ _ h => h) fun D ρ w hG hs => L_fieldAddr FA_57_0 rfl ⟨rfl, hs⟩
          · exact obgy [2, 3] [] [3] (decide (0 ≤ findI q.ents ((gd p.ents k).dot))) rfl (fun _ => rfl) rfl (fun _ _ _ _ h => h) (fun hG => ⟨hG, trivial⟩) fun D ρ w hG hs => L_ldA (vs := vc q.known) SA_53 hs 1 rfl rfl rfl rfl ⟨rfl, hs⟩
          · exact obg [2] [] (decide (0 ≤ findI q.ents ((gd p.ents k).dot))) rfl (fun _ => rfl) rfl (fun _ _ _ _ h => h) fun D ρ w hG hs => L_fieldAddr FA_134_4 rfl ⟨rfl, hs⟩
          · exact obgy [2, 5] [] [5] (decide (0 ≤ findI q.ents ((gd p.ents k).dot))) rfl (fun _ => rfl) rfl (fun _ _ _ _ h => h) (fun hG => ⟨hG, trivial⟩) fun D ρ w hG hs => L_ldA (vs := dc ((gd p.ents k).dot)) SA_96 hs 5 rfl rfl rfl rfl ⟨rfl, hs⟩
          · refine obgy [2, 4, 6] [] [4, 6] (decide (0 ≤ findI q.ents ((gd p.ents k).dot))) rfl (fun _ => rfl) rfl (fun _ _ _ _ h => h) (fun hG => ⟨hG, hG, trivial⟩) fun D ρ w hG hs => ?_
            have hgd := of_decide_eq_false (eq_of_beq (hG))
            exact L_callP (vs := [.agg (vc q.known).toArray, .agg (dc ((gd p.ents k).dot)).toArray]) (V := .bool (hasB q.known ((gd p.ents k).dot))) EN_67 rfl rfl (rHas_ok _ q.known ((gd p.ents k).dot) (by first | assumption | exact dotOk_mk (by omega) (by omega) (by omega) (by omega))) hs fun _ hs => ⟨rfl, hs⟩
          · exact obgy [2, 7] [] [7] (decide (0 ≤ findI q.ents ((gd p.ents k).dot))) rfl (fun _ => rfl) rfl (fun _ _ _ _ h => h) (fun hG => ⟨hG, trivial⟩) fun D ρ w hG hs => L_not rfl ⟨rfl, hs⟩
          · exact ob [2, 8] [] rfl rfl fun D ρ w hs => opW_to (V := .bool ((decide (0 ≤ findI q.ents ((gd p.ents k).dot))) || (!(hasB q.known ((gd p.ents k).dot))))) (V' := .bool (keepA q (gd p.ents k))) (L_orC (h' := !(hasB q.known ((gd p.ents k).dot))) rfl rfl rfl ⟨rfl, rfl⟩) (congrArg Value.bool (find_keepA _ _)) ⟨rfl, hs⟩
          rintro ρ1 w27 ρ2 hρ hs
          replace hρ : ρ2 = upd (mix [60, 61, 62, 63, 64, 65, 66, 67, 68, 69] ρ1 _) 69 (.bool (keepA q (gd p.ents k))) := hρ
          subst hρ
          refine W_cond (t := keepA q (gd p.ents k)) rfl (fun c28 => ?_) (fun c28 => ?_)
          ·
            refine W_region ?_
            refine RW_op (L_move (V := .slice an1 L1.length cn1) rfl ?_)
            refine RW_op (L_ldW (cs := cec (gd p.ents k)) SA_134 hs 5 rfl rfl rfl ?_)
            refine RW_op (L_callX (vs := [.slice an1 L1.length cn1, .agg (cec (gd p.ents k)).toArray]) (V := fun x : Option Addr × Nat => .slice x.1 (putE (gd p.ents k) L1).length x.2) EN_68 rfl rfl (rput_ok _ an1 cn1 L1 (gd p.ents k) (by omega) (hs.rd 4 rfl)) hs fun x29 w30 hs _ => ?_)
            refine RW_op (L_assign (V := .slice x29.1 ((putE (gd p.ents k) L1).length) x29.2) rfl ?_)
            refine RW_nil ?_
            refine W_region ?_
            refine RW_op (L_move (V := .int .i64 ((k : Nat) : Int)) rfl ?_)
            refine RW_op (L_add (a := ((k : Nat) : Int)) (b := 1) (c := ((k + 1 : Nat) : Int)) rfl rfl (nat_i64 (by omega) (by omega)) ?_)
            refine RW_op (L_assign (V := .int .i64 ((k + 1 : Nat) : Int)) rfl ?_)
            refine RW_nil ?_
            have ho := hs.sel [0, 1, 2, 3, 6] (L' := [blk b1 ((vc p.known) ++ [(.slice a1p p.ents.length c1p : Value), (.slice a2p p.ticks.length c2p : Value) ]) 57, blk b3 ((vc q.known) ++ [(.slice a1q q.ents.length c1q : Value), (.slice a2q q.ticks.length c2q : Value) ]) 57, blk b5 ((vc vzero) ++ [(.slice none 0 0 : Value), (.slice none 0 0 : Value) ]) 57, blk b16 ((vc (vjoin p.known q.known)) ++ [(.slice none 0 0 : Value), (.slice a2p p.ticks.length c2p : Value) ]) 57, row (.slice x29.1 ((putE (gd p.ents k) L1).length) x29.2) ((putE (gd p.ents k) L1).map cec) 134 7]) (by decide) rfl
            replace hs := ho
            refine ⟨_, ?_, _, k + 1, x29.1, x29.2, putE (gd p.ents k) L1, upd_of (upd_of (mix_of (ds := [5, 7, 8, 9, 10, 32, 33, 34, 35, 36, 37, 38, 39, 40, 41, 42, 43, 44, 45, 46, 47, 48, 49, 50, 51, 52, 53, 54, 55, 56, 57, 58, 59, 60, 61, 62, 63, 64, 65, 66, 67, 68, 69, 70, 71, 72]) (by repeat (first | exact Agr.refl _ _ | refine Agr.upd ?_ rfl | refine Agr.mix ?_ rfl))) rfl) rfl, (by omega), (putsA hL1 (by omega) c28), (no_step2 hcf c24), rfl, hs.take 5⟩
            omega
          ·
            refine W_skip ?_
            refine W_region ?_
            refine RW_op (L_move (V := .int .i64 ((k : Nat) : Int)) rfl ?_)
            refine RW_op (L_add (a := ((k : Nat) : Int)) (b := 1) (c := ((k + 1 : Nat) : Int)) rfl rfl (nat_i64 (by omega) (by omega)) ?_)
            refine RW_op (L_assign (V := .int .i64 ((k + 1 : Nat) : Int)) rfl ?_)
            refine RW_nil ?_
            refine ⟨_, ?_, _, k + 1, an1, cn1, L1, upd_of (upd_of (mix_of (ds := [5, 7, 8, 9, 10, 32, 33, 34, 35, 36, 37, 38, 39, 40, 41, 42, 43, 44, 45, 46, 47, 48, 49, 50, 51, 52, 53, 54, 55, 56, 57, 58, 59, 60, 61, 62, 63, 64, 65, 66, 67, 68, 69, 70, 71, 72]) (by repeat (first | exact Agr.refl _ _ | refine Agr.upd ?_ rfl | refine Agr.mix ?_ rfl))) rfl) rfl, (by omega), (putsN hL1 (by omega) c28), (no_step2 hcf c24), rfl, hs.take 5⟩
            omega
      ·
        replace c18 := of_decide_eq_false c18
        refine W_exit ?_
        refine W_seq ?_
        refine W_seq ?_
        refine W_region ?_
        refine RW_op (L_assign (V := .int .i64 0) rfl ?_)
        refine RW_nil ?_
        refine W_block ?_
        refine W_loopI (fun ρ μ ρ' w' => ∃ (ρo : Env) (k2 : Nat) (an2 : Option Addr) (cn2 : Nat) (L2 : List Cen), ρ' = upd (upd (mix [7, 11, 12, 73, 74, 75, 76, 77, 78, 79, 80, 81, 82, 83, 84, 85, 86, 87, 88, 89, 90, 91, 92, 93, 94, 95, 96, 97, 98, 99, 100] ρo ρ) 11 (.int .i64 ((k2 : Nat) : Int))) 7 (.slice an2 L2.length cn2) ∧ (k2 ≤ q.ents.length) ∧ (L2 = putAll (p.ents.filter (keepA q) ++ (q.ents.take k2).filter (keepB p))) ∧ μ = q.ents.length - k2 ∧ Own w no w' [blk b1 ((vc p.known) ++ [(.slice a1p p.ents.length c1p : Value), (.slice a2p p.ticks.length c2p : Value) ]) 57, blk b3 ((vc q.known) ++ [(.slice a1q q.ents.length c1q : Value), (.slice a2q q.ticks.length c2q : Value) ]) 57, blk b5 ((vc vzero) ++ [(.slice none 0 0 : Value), (.slice none 0 0 : Value) ]) 57, blk b16 ((vc (vjoin p.known q.known)) ++ [(.slice none 0 0 : Value), (.slice a2p p.ticks.length c2p : Value) ]) 57, row (.slice an2 L2.length cn2) (L2.map cec) 134 7]) ?_ ?_
        · exact ⟨_, _, 0, an1, cn1, L1, upd_of (upd_of (mix_of (ds := [7, 11, 12, 73, 74, 75, 76, 77, 78, 79, 80, 81, 82, 83, 84, 85, 86, 87, 88, 89, 90, 91, 92, 93, 94, 95, 96, 97, 98, 99, 100]) (Agr.refl _ _)) rfl) rfl, (by omega), (by rw [hL1, take_all (l := p.ents) (by omega), List.take_zero, List.filter_nil, List.append_nil, List.nil_append]), rfl, hs⟩
        · rintro μ ρ' w31 ⟨ρo, k2, an2, cn2, L2, rfl, hk2, hL2, rfl, hs⟩
          have hll2 : L2.length ≤ 2000 := by rw [hL2, putAll_len, List.length_append]; have h1 := List.length_filter_le (keepA q) p.ents; have h2 := List.length_filter_le (keepB p) (q.ents.take k2); rw [List.length_take] at h2;  omega
          refine W_seq ?_
          refine W_seq ?_
          refine W_region ?_
          refine RW_op (L_move (V := .int .i64 ((k2 : Nat) : Int)) rfl ?_)
          refine RW_op (L_fieldAddr FA_57_1 rfl ?_)
          refine RW_op (L_ld (V := .slice a1q q.ents.length c1q) S1_54 hs 1 rfl rfl rfl ?_)
          refine RW_op (L_lenR (n := q.ents.length) UD_54 (Rd.own' hr1q hs) (by simp) rfl ?_)
          refine RW_op (L_lss rfl rfl ?_)
          refine RW_nil ?_
          refine W_cond (t := decide (((k2 : Nat) : Int) < ((q.ents.length : Nat) : Int))) rfl (fun c32 => ?_) (fun c32 => ?_)
          ·
            replace c32 := of_decide_eq_true c32
            refine W_skip ?_
            refine W_seq ?_
            refine W_block ?_
            refine W_seq ?_
            refine W_region ?_
            refine RW_op (L_fieldAddr FA_57_1 rfl ?_)
            refine RW_op (L_ld (V := .slice a1q q.ents.length c1q) S1_54 hs 1 rfl rfl rfl ?_)
            refine RW_op (L_move (V := .int .i64 ((k2 : Nat) : Int)) rfl ?_)
            refine RW_op (L_ixR UD_54 SA_134.1 (Rd.own' hr1q hs) rfl rfl (by omega) (by rw [List.length_map]; omega) ?_)
            refine RW_op (L_ldRA (j := 0) (vs := cec (gd q.ents k2)) k2 SA_134 (Rd.own' hr1q hs) (gd_at (by omega)) rfl rfl rfl (by omega) ?_)
            refine RW_op (L_alloc (cs := cec (⟨0, 0, 0, 0, (⟨0, 0⟩ : Dot), 0⟩ : Cen)) ZV_134 rfl hs fun b33 w34 hs => ?_)
            replace hs : Own w no w34 [blk b1 ((vc p.known) ++ [(.slice a1p p.ents.length c1p : Value), (.slice a2p p.ticks.length c2p : Value) ]) 57, blk b3 ((vc q.known) ++ [(.slice a1q q.ents.length c1q : Value), (.slice a2q q.ticks.length c2q : Value) ]) 57, blk b5 ((vc vzero) ++ [(.slice none 0 0 : Value), (.slice none 0 0 : Value) ]) 57, blk b16 ((vc (vjoin p.known q.known)) ++ [(.slice none 0 0 : Value), (.slice a2p p.ticks.length c2p : Value) ]) 57, row (.slice an2 L2.length cn2) (L2.map cec) 134 7, blk b33 (cec (⟨0, 0, 0, 0, (⟨0, 0⟩ : Dot), 0⟩ : Cen)) 134] := hs
            refine RW_op (L_st (V := .agg (cec (gd q.ents k2)).toArray) (vs := cec (gd q.ents k2)) (cs' := cec (gd q.ents k2)) SA_134.1 hs 5 rfl rfl rfl rfl rfl (Nat.le_of_ble_eq_true rfl) (cec_one _) (spl_whole rfl) fun w35 hs => ?_)
            refine RW_nil ?_
            refine W_seq ?_
            have hce := (hqE _ (gd_mem (l := q.ents) (i := k2) (by omega))).2.2.2.2.1
            refine W_regO [some 85, some 86, some 87, some 88, some 89, some 90, some 91, some 92, some 93, some 94, some 95, some 96, some 97] [] [0, 0, 2, 7, 15, 31, 63, 127, 63, 319, 1023, 2047, 4095] [pv (.agg ((vc p.known) ++ [(.slice a1p p.ents.length c1p : Value), (.slice a2p p.ticks.length c2p : Value) ]).toArray), pv (.pointer (some ⟨b33, 0 + 4, none⟩)), pv (.agg (dc ((gd q.ents k2).dot)).toArray), pv (.int .i64 (findI p.ents ((gd q.ents k2).dot))), pv (.bool (decide (findI p.ents ((gd q.ents k2).dot) < 0))), pv (.bool (decide (findI p.ents ((gd q.ents k2).dot) < 0))), pg ((decide (findI p.ents ((gd q.ents k2).dot) < 0)) == true) (.pointer (some ⟨b1, 0 + 0, none⟩)), pg ((decide (findI p.ents ((gd q.ents k2).dot) < 0)) == true) (.agg (vc p.known).toArray), pg ((decide (findI p.ents ((gd q.ents k2).dot) < 0)) == true) (.pointer (some ⟨b33, 0 + 4, none⟩)), pg ((decide (findI p.ents ((gd q.ents k2).dot) < 0)) == true) (.agg (dc ((gd q.ents k2).dot)).toArray), pg ((decide (findI p.ents ((gd q.ents k2).dot) < 0)) == true) (.bool (hasB p.known ((gd q.ents k2).dot))), pg ((decide (findI p.ents ((gd q.ents k2).dot) < 0)) == true) (.bool (!(hasB p.known ((gd q.ents k2).dot)))), pv (.bool (keepB p (gd q.ents k2)))] (fun _ _ => _) [12] (by kernel_rfl) hs ⟨?_, ?_, ?_, ?_, ?_, ?_, ?_, ?_, ?_, ?_, ?_, ?_, ?_, trivial⟩ ?_
            · exact ob [] [] rfl rfl fun D ρ w hs => L_ldW (cs := (vc p.known) ++ [(.slice a1p p.ents.length c1p : Value), (.slice a2p p.ticks.length c2p : Value) ]) SA_57 hs 0 rfl rfl rfl ⟨rfl, hs⟩
            · exact ob [] [] rfl rfl fun D ρ w hs => L_fieldAddr FA_134_4 rfl ⟨rfl, hs⟩
            · exact ob [1] [] rfl rfl fun D ρ w hs => L_ldA (vs := dc ((gd q.ents k2).dot)) SA_96 hs 5 rfl rfl rfl rfl ⟨rfl, hs⟩
            · exact ob [0, 2] [] rfl rfl fun D ρ w hs => L_callP (vs := [.agg ((vc p.known) ++ [(.slice a1p p.ents.length c1p : Value), (.slice a2p p.ticks.length c2p : Value) ]).toArray, .agg (dc ((gd q.ents k2).dot)).toArray]) (V := .int .i64 (findI p.ents ((gd q.ents k2).dot))) EN_66 rfl rfl (rfind_ok _ p a1p c1p a2p c2p ((gd q.ents k2).dot) (Rd.own' hr1p hs) (Rd.own' hr2p hs)) hs fun _ hs => ⟨rfl, hs⟩
            · exact ob [3] [] rfl rfl fun D ρ w hs => L_lss rfl rfl ⟨rfl, hs⟩
            · exact ob [4] [] rfl rfl fun D ρ w hs => L_move (V := .bool (decide (findI p.ents ((gd q.ents k2).dot) < 0))) rfl ⟨rfl, hs⟩
            · exact obg [5] [] (decide (findI p.ents ((gd q.ents k2).dot) < 0)) rfl (fun _ => rfl) rfl (fun _ _ _ _ h => h) fun D ρ w hG hs => L_fieldAddr FA_57_0 rfl ⟨rfl, hs⟩
            · exact obgy [5, 6] [] [6] (decide (findI p.ents ((gd q.ents k2).dot) < 0)) rfl (fun _ => rfl) rfl (fun _ _ _ _ h => h) (fun hG => ⟨hG, trivial⟩) fun D ρ w hG hs => L_ldA (vs := vc p.known) SA_53 hs 0 rfl rfl rfl rfl ⟨rfl, hs⟩
            · exact obg [5] [] (decide (findI p.ents ((gd q.ents k2).dot) < 0)) rfl (fun _ => rfl) rfl (fun _ _ _ _ h => h) fun D ρ w hG hs => L_fieldAddr FA_134_4 rfl ⟨rfl, hs⟩
            · exact obgy [5, 8] [] [8] (decide (findI p.ents ((gd q.ents k2).dot) < 0)) rfl (fun _ => rfl) rfl (fun _ _ _ _ h => h) (fun hG => ⟨hG, trivial⟩) fun D ρ w hG hs => L_ldA (vs := dc ((gd q.ents k2).dot)) SA_96 hs 5 rfl rfl rfl rfl ⟨rfl, hs⟩
            · refine obgy [5, 7, 9] [] [7, 9] (decide (findI p.ents ((gd q.ents k2).dot) < 0)) rfl (fun _ => rfl) rfl (fun _ _ _ _ h => h) (fun hG => ⟨hG, hG, trivial⟩) fun D ρ w hG hs => ?_
              have hgd := of_decide_eq_true (eq_of_beq (hG))
              exact L_callP (vs := [.agg (vc p.known).toArray, .agg (dc ((gd q.ents k2).dot)).toArray]) (V := .bool (hasB p.known ((gd q.ents k2).dot))) EN_67 rfl rfl (rHas_ok _ p.known ((gd q.ents k2).dot) (by first | assumption | exact dotOk_mk (by omega) (by omega) (by omega) (by omega))) hs fun _ hs => ⟨rfl, hs⟩
            · exact obgy [5, 10] [] [10] (decide (findI p.ents ((gd q.ents k2).dot) < 0)) rfl (fun _ => rfl) rfl (fun _ _ _ _ h => h) (fun hG => ⟨hG, trivial⟩) fun D ρ w hG hs => L_not rfl ⟨rfl, hs⟩
            · exact ob [5, 11] [] rfl rfl fun D ρ w hs => opW_to (V := .bool ((decide (findI p.ents ((gd q.ents k2).dot) < 0)) && (!(hasB p.known ((gd q.ents k2).dot))))) (V' := .bool (keepB p (gd q.ents k2))) (L_andC (h' := !(hasB p.known ((gd q.ents k2).dot))) rfl rfl rfl ⟨rfl, rfl⟩) (congrArg Value.bool (find_keepB _ _)) ⟨rfl, hs⟩
            rintro ρ1 w38 ρ2 hρ hs
            replace hρ : ρ2 = upd (mix [85, 86, 87, 88, 89, 90, 91, 92, 93, 94, 95, 96, 97] ρ1 _) 97 (.bool (keepB p (gd q.ents k2))) := hρ
            subst hρ
            refine W_cond (t := keepB p (gd q.ents k2)) rfl (fun c39 => ?_) (fun c39 => ?_)
            ·
              refine W_region ?_
              refine RW_op (L_move (V := .slice an2 L2.length cn2) rfl ?_)
              refine RW_op (L_ldW (cs := cec (gd q.ents k2)) SA_134 hs 5 rfl rfl rfl ?_)
              refine RW_op (L_callX (vs := [.slice an2 L2.length cn2, .agg (cec (gd q.ents k2)).toArray]) (V := fun x : Option Addr × Nat => .slice x.1 (putE (gd q.ents k2) L2).length x.2) EN_68 rfl rfl (rput_ok _ an2 cn2 L2 (gd q.ents k2) (by omega) (hs.rd 4 rfl)) hs fun x40 w41 hs _ => ?_)
              refine RW_op (L_assign (V := .slice x40.1 ((putE (gd q.ents k2) L2).length) x40.2) rfl ?_)
              refine RW_nil ?_
              refine W_region ?_
              refine RW_op (L_move (V := .int .i64 ((k2 : Nat) : Int)) rfl ?_)
              refine RW_op (L_add (a := ((k2 : Nat) : Int)) (b := 1) (c := ((k2 + 1 : Nat) : Int)) rfl rfl (nat_i64 (by omega) (by omega)) ?_)
              refine RW_op (L_assign (V := .int .i64 ((k2 + 1 : Nat) : Int)) rfl ?_)
              refine RW_nil ?_
              have ho := hs.sel [0, 1, 2, 3, 6] (L' := [blk b1 ((vc p.known) ++ [(.slice a1p p.ents.length c1p : Value), (.slice a2p p.ticks.length c2p : Value) ]) 57, blk b3 ((vc q.known) ++ [(.slice a1q q.ents.length c1q : Value), (.slice a2q q.ticks.length c2q : Value) ]) 57, blk b5 ((vc vzero) ++ [(.slice none 0 0 : Value), (.slice none 0 0 : Value) ]) 57, blk b16 ((vc (vjoin p.known q.known)) ++ [(.slice none 0 0 : Value), (.slice a2p p.ticks.length c2p : Value) ]) 57, row (.slice x40.1 ((putE (gd q.ents k2) L2).length) x40.2) ((putE (gd q.ents k2) L2).map cec) 134 7]) (by decide) rfl
              replace hs := ho
              refine ⟨_, ?_, _, k2 + 1, x40.1, x40.2, putE (gd q.ents k2) L2, upd_of (upd_of (mix_of (ds := [7, 11, 12, 73, 74, 75, 76, 77, 78, 79, 80, 81, 82, 83, 84, 85, 86, 87, 88, 89, 90, 91, 92, 93, 94, 95, 96, 97, 98, 99, 100]) (by repeat (first | exact Agr.refl _ _ | refine Agr.upd ?_ rfl | refine Agr.mix ?_ rfl))) rfl) rfl, (by omega), (putsA hL2 (by omega) c39), rfl, hs.take 5⟩
              omega
            ·
              refine W_skip ?_
              refine W_region ?_
              refine RW_op (L_move (V := .int .i64 ((k2 : Nat) : Int)) rfl ?_)
              refine RW_op (L_add (a := ((k2 : Nat) : Int)) (b := 1) (c := ((k2 + 1 : Nat) : Int)) rfl rfl (nat_i64 (by omega) (by omega)) ?_)
              refine RW_op (L_assign (V := .int .i64 ((k2 + 1 : Nat) : Int)) rfl ?_)
              refine RW_nil ?_
              refine ⟨_, ?_, _, k2 + 1, an2, cn2, L2, upd_of (upd_of (mix_of (ds := [7, 11, 12, 73, 74, 75, 76, 77, 78, 79, 80, 81, 82, 83, 84, 85, 86, 87, 88, 89, 90, 91, 92, 93, 94, 95, 96, 97, 98, 99, 100]) (by repeat (first | exact Agr.refl _ _ | refine Agr.upd ?_ rfl | refine Agr.mix ?_ rfl))) rfl) rfl, (by omega), (putsN hL2 (by omega) c39), rfl, hs.take 5⟩
              omega
          ·
            replace c32 := of_decide_eq_false c32
            refine W_exit ?_
            refine W_seq ?_
            refine W_region ?_
            refine RW_op (L_fieldAddr FA_57_2 rfl ?_)
            refine RW_op (L_ld (V := .slice a2p p.ticks.length c2p) S1_55 hs 0 rfl rfl rfl ?_)
            refine RW_op (L_assign (V := .slice a2p p.ticks.length c2p) rfl ?_)
            refine RW_nil ?_
            refine W_seq ?_
            refine W_seq ?_
            refine W_region ?_
            refine RW_op (L_assign (V := .int .i64 0) rfl ?_)
            refine RW_nil ?_
            refine W_block ?_
            replace hs := hs.more emp trivial
            refine W_loopI (fun ρ μ ρ' w' => ∃ (ρo : Env) (k3 : Nat) (z : Bool) (a8 : Option Addr) (c8 : Nat) (L8 : List Lst), ρ' = upd (upd (mix [13, 14, 103, 104, 105, 106, 107, 108, 109, 110, 111, 112, 113, 114, 115, 116, 117, 118, 119, 120, 121, 122, 123] ρo ρ) 14 (.int .i64 ((k3 : Nat) : Int))) 13 (.slice a8 L8.length c8) ∧ (k3 ≤ q.ticks.length) ∧ (L8 = ticksM p.ticks (q.ticks.take k3)) ∧ (z = true → ((a8, c8) = (a2p, c2p) ∧ L8 = p.ticks)) ∧ μ = q.ticks.length - k3 ∧ Own w no w' [blk b1 ((vc p.known) ++ [(.slice a1p p.ents.length c1p : Value), (.slice a2p p.ticks.length c2p : Value) ]) 57, blk b3 ((vc q.known) ++ [(.slice a1q q.ents.length c1q : Value), (.slice a2q q.ticks.length c2q : Value) ]) 57, blk b5 ((vc vzero) ++ [(.slice none 0 0 : Value), (.slice none 0 0 : Value) ]) 57, blk b16 ((vc (vjoin p.known q.known)) ++ [(.slice none 0 0 : Value), (.slice a2p p.ticks.length c2p : Value) ]) 57, row (.slice an2 L2.length cn2) (L2.map cec) 134 7, cond z emp (row (.slice a8 L8.length c8) (L8.map lsc) 135 2)]) ?_ ?_
            · exact ⟨_, _, 0, true, a2p, c2p, p.ticks, upd_of (upd_of (mix_of (ds := [13, 14, 103, 104, 105, 106, 107, 108, 109, 110, 111, 112, 113, 114, 115, 116, 117, 118, 119, 120, 121, 122, 123]) (Agr.refl _ _)) rfl) rfl, (by omega), rfl, (fun _ => ⟨rfl, rfl⟩), rfl, hs⟩
            · rintro μ ρ' w42 ⟨ρo, k3, z, a8, c8, L8, rfl, hk3, hL8, hz8, rfl, hs⟩
              have hrz : z = true → Rd w (.slice a8 L8.length c8) 2 (L8.map lsc) := fun h => by
                obtain ⟨e1, e2⟩ := hz8 h
                rw [Prod.mk.injEq] at e1
                rw [e1.1, e1.2, e2]; exact hr2p
              have hT8 : RisT L8 := by rw [hL8]; exact ticksM_ris hra.rt _
              have hl8 : L8.length ≤ 10000 := by have := ticksM_len (s := p.ticks) (q.ticks.take k3); rw [← hL8, List.length_take] at this; omega
              refine W_seq ?_
              refine W_seq ?_
              refine W_region ?_
              refine RW_op (L_move (V := .int .i64 ((k3 : Nat) : Int)) rfl ?_)
              refine RW_op (L_fieldAddr FA_57_2 rfl ?_)
              refine RW_op (L_ld (V := .slice a2q q.ticks.length c2q) S1_55 hs 1 rfl rfl rfl ?_)
              refine RW_op (L_lenR (n := q.ticks.length) UD_55 (Rd.own' hr2q hs) (by simp) rfl ?_)
              refine RW_op (L_lss rfl rfl ?_)
              refine RW_nil ?_
              refine W_cond (t := decide (((k3 : Nat) : Int) < ((q.ticks.length : Nat) : Int))) rfl (fun c43 => ?_) (fun c43 => ?_)
              ·
                replace c43 := of_decide_eq_true c43
                refine W_skip ?_
                refine W_seq ?_
                refine W_block ?_
                replace hs := hs.more emp trivial
                refine W_regD HM [some 110, some 111, some 112, some 113, some 114, some 115, some 116, some 117, some 118, some 119, some 120, some 121, some 122, some 123, some 13] [[], [], [], [], [], [], [], [], [], [], [], [], [], [123], [123]] [0, 0, 2, 0, 14, 30, 62, 0, 128, 0, 896, 1920, 3968, 8191, 16383] [pv (.slice a8 L8.length c8), pv (.pointer (some ⟨b3, 0 + 17, none⟩)), pv (.slice a2q q.ticks.length c2q), pv (.int .i64 ((k3 : Nat) : Int)), pv (.pointer (some ⟨bkS (.slice a2q q.ticks.length c2q), ofS (.slice a2q q.ticks.length c2q) + ((k3 : Nat) : Int).toNat * 2, none⟩)), pv (.pointer (some ⟨bkS (.slice a2q q.ticks.length c2q), ofS (.slice a2q q.ticks.length c2q) + ((k3 : Nat) : Int).toNat * 2 + 0, none⟩)), pv (.int .u16 ((gd q.ticks k3).cart)), pv (.pointer (some ⟨b3, 0 + 17, none⟩)), pv (.slice a2q q.ticks.length c2q), pv (.int .i64 ((k3 : Nat) : Int)), pv (.pointer (some ⟨bkS (.slice a2q q.ticks.length c2q), ofS (.slice a2q q.ticks.length c2q) + ((k3 : Nat) : Int).toNat * 2, none⟩)), pv (.pointer (some ⟨bkS (.slice a2q q.ticks.length c2q), ofS (.slice a2q q.ticks.length c2q) + ((k3 : Nat) : Int).toNat * 2 + 1, none⟩)), pv (.int .u32 ((gd q.ticks k3).tick)), (true, fun ρ => .slice (aOf (ρ 123)) ((putT ((gd q.ticks k3).cart) ((gd q.ticks k3).tick) L8).length) (cOf (ρ 123))), (true, fun ρ => .slice (aOf (ρ 123)) ((putT ((gd q.ticks k3).cart) ((gd q.ticks k3).tick) L8).length) (cOf (ρ 123)))] (fun D ρ => [blk b1 ((vc p.known) ++ [(.slice a1p p.ents.length c1p : Value), (.slice a2p p.ticks.length c2p : Value) ]) 57, blk b3 ((vc q.known) ++ [(.slice a1q q.ents.length c1q : Value), (.slice a2q q.ticks.length c2q : Value) ]) 57, blk b5 ((vc vzero) ++ [(.slice none 0 0 : Value), (.slice none 0 0 : Value) ]) 57, blk b16 ((vc (vjoin p.known q.known)) ++ [(.slice none 0 0 : Value), (.slice a2p p.ticks.length c2p : Value) ]) 57, row (.slice an2 L2.length cn2) (L2.map cec) 134 7, cond z emp (row (.slice a8 L8.length c8) (L8.map lsc) 135 2), cond (D 13) (row (.slice (aOf (ρ 123)) ((putT ((gd q.ticks k3).cart) ((gd q.ticks k3).tick) L8).length) (cOf (ρ 123))) ((putT ((gd q.ticks k3).cart) ((gd q.ticks k3).tick) L8).map lsc) 135 2) (emp)]) [14] (by kernel_rfl) hs ⟨?_, ?_, ?_, ?_, ?_, ?_, ?_, ?_, ?_, ?_, ?_, ?_, ?_, ?_, ?_, trivial⟩ ?_
                · exact ob [] [14] rfl rfl fun D ρ w hs => L_move (V := .slice a8 L8.length c8) rfl ⟨rfl, hs⟩
                · exact ob [] [] rfl rfl fun D ρ w hs => L_fieldAddr FA_57_2 rfl ⟨rfl, hs⟩
                · exact ob [1] [] rfl rfl fun D ρ w hs => L_ld (V := .slice a2q q.ticks.length c2q) S1_55 hs 1 rfl rfl rfl ⟨rfl, hs⟩
                · exact ob [] [] rfl rfl fun D ρ w hs => L_move (V := .int .i64 ((k3 : Nat) : Int)) rfl ⟨rfl, hs⟩
                · exact ob [2, 3] [] rfl rfl fun D ρ w hs => L_ixR UD_55 SA_135.1 (Rd.own' hr2q hs) rfl rfl (by omega) (by rw [List.length_map]; omega) ⟨rfl, hs⟩
                · exact ob [4] [] rfl rfl fun D ρ w hs => L_fieldAddr FA_135_0 rfl ⟨rfl, hs⟩
                · exact ob [5] [] rfl rfl fun D ρ w hs => L_ldR (j := 0) (V := .int .u16 ((gd q.ticks k3).cart)) k3 S1_70 (Rd.own' hr2q hs) (gd_at (by omega)) rfl rfl (by omega) ⟨rfl, hs⟩
                · exact ob [] [] rfl rfl fun D ρ w hs => L_fieldAddr FA_57_2 rfl ⟨rfl, hs⟩
                · exact ob [7] [] rfl rfl fun D ρ w hs => L_ld (V := .slice a2q q.ticks.length c2q) S1_55 hs 1 rfl rfl rfl ⟨rfl, hs⟩
                · exact ob [] [] rfl rfl fun D ρ w hs => L_move (V := .int .i64 ((k3 : Nat) : Int)) rfl ⟨rfl, hs⟩
                · exact ob [8, 9] [] rfl rfl fun D ρ w hs => L_ixR UD_55 SA_135.1 (Rd.own' hr2q hs) rfl rfl (by omega) (by rw [List.length_map]; omega) ⟨rfl, hs⟩
                · exact ob [10] [] rfl rfl fun D ρ w hs => L_fieldAddr FA_135_1 rfl ⟨rfl, hs⟩
                · exact ob [11] [] rfl rfl fun D ρ w hs => L_ldR (j := 1) (V := .int .u32 ((gd q.ticks k3).tick)) k3 S1_51 (Rd.own' hr2q hs) (gd_at (by omega)) rfl rfl (by omega) ⟨rfl, hs⟩
                · exact ob [0, 6, 12] [] rfl rfl fun D ρ w hs => L_callX (vs := [.slice a8 L8.length c8, .int .u16 ((gd q.ticks k3).cart), .int .u32 ((gd q.ticks k3).tick)]) (V := fun x : Option Addr × Nat => .slice x.1 (putT ((gd q.ticks k3).cart) ((gd q.ticks k3).tick) L8).length x.2) EN_69 rfl rfl (rticked_ok _ a8 c8 L8 ((gd q.ticks k3).cart) ((gd q.ticks k3).tick) (by omega) hT8 (hs.rdC 5 rfl hrz)) hs fun _ _ hs _ => ⟨rfl, hs.put 6 (Nat.le_of_ble_eq_true rfl)⟩
                · exact ob [13] [] rfl rfl fun D ρ w hs => L_assign (V := .slice (aOf (ρ 123)) ((putT ((gd q.ticks k3).cart) ((gd q.ticks k3).tick) L8).length) (cOf (ρ 123))) rfl ⟨rfl, hs⟩
                rintro ρ1 w45 ρ2 hρ hs
                replace hρ : ρ2 = upd (mix [110, 111, 112, 113, 114, 115, 116, 117, 118, 119, 120, 121, 122, 123, 13] ρ1 _) 13 (.slice (aOf (ρ1 123)) ((putT ((gd q.ticks k3).cart) ((gd q.ticks k3).tick) L8).length) (cOf (ρ1 123))) := hρ
                replace hs : Own w no w45 [blk b1 ((vc p.known) ++ [(.slice a1p p.ents.length c1p : Value), (.slice a2p p.ticks.length c2p : Value) ]) 57, blk b3 ((vc q.known) ++ [(.slice a1q q.ents.length c1q : Value), (.slice a2q q.ticks.length c2q : Value) ]) 57, blk b5 ((vc vzero) ++ [(.slice none 0 0 : Value), (.slice none 0 0 : Value) ]) 57, blk b16 ((vc (vjoin p.known q.known)) ++ [(.slice none 0 0 : Value), (.slice a2p p.ticks.length c2p : Value) ]) 57, row (.slice an2 L2.length cn2) (L2.map cec) 134 7, cond z emp (row (.slice a8 L8.length c8) (L8.map lsc) 135 2), row (.slice (aOf (ρ1 123)) ((putT ((gd q.ticks k3).cart) ((gd q.ticks k3).tick) L8).length) (cOf (ρ1 123))) ((putT ((gd q.ticks k3).cart) ((gd q.ticks k3).tick) L8).map lsc) 135 2] := hs
                generalize (aOf (ρ1 123)) = a46 at hρ hs
                generalize (cOf (ρ1 123)) = c47 at hρ hs
                subst hρ
                refine W_region ?_
                refine RW_op (L_move (V := .int .i64 ((k3 : Nat) : Int)) rfl ?_)
                refine RW_op (L_add (a := ((k3 : Nat) : Int)) (b := 1) (c := ((k3 + 1 : Nat) : Int)) rfl rfl (nat_i64 (by omega) (by omega)) ?_)
                refine RW_op (L_assign (V := .int .i64 ((k3 + 1 : Nat) : Int)) rfl ?_)
                refine RW_nil ?_
                have ho := hs.sel [0, 1, 2, 3, 4, 6] (L' := [blk b1 ((vc p.known) ++ [(.slice a1p p.ents.length c1p : Value), (.slice a2p p.ticks.length c2p : Value) ]) 57, blk b3 ((vc q.known) ++ [(.slice a1q q.ents.length c1q : Value), (.slice a2q q.ticks.length c2q : Value) ]) 57, blk b5 ((vc vzero) ++ [(.slice none 0 0 : Value), (.slice none 0 0 : Value) ]) 57, blk b16 ((vc (vjoin p.known q.known)) ++ [(.slice none 0 0 : Value), (.slice a2p p.ticks.length c2p : Value) ]) 57, row (.slice an2 L2.length cn2) (L2.map cec) 134 7, row (.slice a46 ((putT ((gd q.ticks k3).cart) ((gd q.ticks k3).tick) L8).length) c47) ((putT ((gd q.ticks k3).cart) ((gd q.ticks k3).tick) L8).map lsc) 135 2]) (by decide) rfl
                replace hs := ho
                refine ⟨_, ?_, _, k3 + 1, false, a46, c47, putT ((gd q.ticks k3).cart) ((gd q.ticks k3).tick) L8, upd_of (upd_of (mix_of (ds := [13, 14, 103, 104, 105, 106, 107, 108, 109, 110, 111, 112, 113, 114, 115, 116, 117, 118, 119, 120, 121, 122, 123]) (by repeat (first | exact Agr.refl _ _ | refine Agr.upd ?_ rfl | refine Agr.mix ?_ rfl))) rfl) rfl, (by omega), (by rw [ticksM_next (by omega), ← hL8]), (fun h => nomatch h), rfl, hs.take 6⟩
                omega
              ·
                replace c43 := of_decide_eq_false c43
                refine W_exit ?_
                refine W_seq ?_
                refine W_region ?_
                refine RW_op (L_move (V := .slice an2 L2.length cn2) rfl ?_)
                refine RW_op (L_fieldAddr FA_57_1 rfl ?_)
                refine RW_op (L_st1 (V := .slice an2 L2.length cn2) (cs' := (vc (vjoin p.known q.known)) ++ [(.slice an2 L2.length cn2 : Value), (.slice a2p p.ticks.length c2p : Value) ]) S1_54 hs 3 rfl rfl rfl rfl (Nat.le_of_ble_eq_true rfl) rfl fun w48 hs => ?_)
                replace hs : Own w no w48 [blk b1 ((vc p.known) ++ [(.slice a1p p.ents.length c1p : Value), (.slice a2p p.ticks.length c2p : Value) ]) 57, blk b3 ((vc q.known) ++ [(.slice a1q q.ents.length c1q : Value), (.slice a2q q.ticks.length c2q : Value) ]) 57, blk b5 ((vc vzero) ++ [(.slice none 0 0 : Value), (.slice none 0 0 : Value) ]) 57, blk b16 ((vc (vjoin p.known q.known)) ++ [(.slice an2 L2.length cn2 : Value), (.slice a2p p.ticks.length c2p : Value) ]) 57, row (.slice an2 L2.length cn2) (L2.map cec) 134 7, cond z emp (row (.slice a8 L8.length c8) (L8.map lsc) 135 2)] := hs
                refine RW_nil ?_
                refine W_seq ?_
                refine W_region ?_
                refine RW_op (L_move (V := .slice a8 L8.length c8) rfl ?_)
                refine RW_op (L_fieldAddr FA_57_2 rfl ?_)
                refine RW_op (L_st1 (V := .slice a8 L8.length c8) (cs' := (vc (vjoin p.known q.known)) ++ [(.slice an2 L2.length cn2 : Value), (.slice a8 L8.length c8 : Value) ]) S1_55 hs 3 rfl rfl rfl rfl (Nat.le_of_ble_eq_true rfl) rfl fun w49 hs => ?_)
                refine RW_nil ?_
                refine W_seq ?_
                refine W_region ?_
                refine RW_op (L_ldW (cs := (vc (vjoin p.known q.known)) ++ [(.slice an2 L2.length cn2 : Value), (.slice a8 L8.length c8 : Value) ]) SA_57 hs 3 rfl rfl rfl ?_)
                refine RW_op (L_st (V := .agg ((vc (vjoin p.known q.known)) ++ [(.slice an2 L2.length cn2 : Value), (.slice a8 L8.length c8 : Value) ]).toArray) (vs := (vc (vjoin p.known q.known)) ++ [(.slice an2 L2.length cn2 : Value), (.slice a8 L8.length c8 : Value) ]) (cs' := (vc (vjoin p.known q.known)) ++ [(.slice an2 L2.length cn2 : Value), (.slice a8 L8.length c8 : Value) ]) SA_57.1 hs 2 rfl rfl rfl rfl rfl (Nat.le_of_ble_eq_true rfl) (one_app (vc_one _) (one_cons rfl (one_cons rfl one_nil))) (spl_whole rfl) fun w50 hs => ?_)
                refine RW_op (L_assign (V := .int .i64 0) rfl ?_)
                refine RW_nil ?_
                refine W_ret ?_
                refine ⟨_, res_cell2 (cs := (vc (vjoin p.known q.known)) ++ [(.slice an2 L2.length cn2 : Value), (.slice a8 L8.length c8 : Value) ]) (V := .int .i64 0) Try.results30 SA_57 hs 2 rfl rfl rfl rfl, ?_⟩
                have hcc := conf_none (b := q) (l := p.ents) fun j hj => hcf j (by omega)
                obtain ⟨hI, hR⟩ := mergeR_doc c10 c10r hcc
                have hE : L2 = putAll (p.ents.filter (keepA q) ++ q.ents.filter (keepB p)) := by rw [hL2, take_all (l := q.ents) (by omega)]
                have hT : L8 = ticksM p.ticks q.ticks := by rw [hL8, take_all (l := q.ticks) (by omega)]
                rw [hI, hR]
                have ho := hs.two 4 5 (by decide) rfl rfl
                subst hE hT
                exact ⟨(((an2, cn2), (a8, c8)), z), rfl, ho, hz8⟩
end Tt
end Go.Proofs
namespace Go.Proofs
open Go Go.Vx Go.RowKit
namespace Tt
set_option maxRecDepth 20000 in
set_option maxHeartbeats 4000000 in
theorem cartMerges_ok (w : World) (p : Sta) (a1p : Option Addr) (c1p : Nat) (a2p : Option Addr) (c2p : Nat) (q : Sta) (a1q : Option Addr) (c1q : Nat) (a2q : Option Addr) (c2q : Nat) (hsortE : SortC Try.prog 63 64 cec 128 7 srtE) (hokp : StaOk p) (hokq : StaOk q) (hr1p : Rd w (.slice a1p p.ents.length c1p) 7 (p.ents.map cec)) (hr2p : Rd w (.slice a2p p.ticks.length c2p) 2 (p.ticks.map lsc)) (hr1q : Rd w (.slice a1q q.ents.length c1q) 7 (q.ents.map cec)) (hr2q : Rd w (.slice a2q q.ticks.length c2q) 2 (q.ticks.map lsc)) : Calls Try.prog 6 #[.agg ((vc p.known) ++ [(.slice a1p p.ents.length c1p : Value), (.slice a2p p.ticks.length c2p : Value) ]).toArray, .agg ((vc q.known) ++ [(.slice a1q q.ents.length c1q : Value), (.slice a2q q.ticks.length c2q : Value) ]).toArray] w (fun e w' => e = .returned (.bool true) ∧ Own w no w' []) := by
  refine calls_of_Wn (n := 42) Try.func6 rfl Try.ntmps6 rfl ?_
  have hs := Own.start w
  refine W_seq ?_
  refine W_region ?_
  refine RW_op (L_box (V := .agg ((vc p.known) ++ [(.slice a1p p.ents.length c1p : Value), (.slice a2p p.ticks.length c2p : Value) ]).toArray) (cs := (vc p.known) ++ [(.slice a1p p.ents.length c1p : Value), (.slice a2p p.ticks.length c2p : Value) ]) rfl rfl hs fun b1 w2 hs => ?_)
  refine RW_op (L_box (V := .agg ((vc q.known) ++ [(.slice a1q q.ents.length c1q : Value), (.slice a2q q.ticks.length c2q : Value) ]).toArray) (cs := (vc q.known) ++ [(.slice a1q q.ents.length c1q : Value), (.slice a2q q.ticks.length c2q : Value) ]) rfl rfl hs fun b3 w4 hs => ?_)
  refine RW_op (L_assign (V := .bool false) rfl ?_)
  refine RW_nil ?_
  refine W_seq ?_
  refine W_seq ?_
  refine W_region ?_
  refine RW_op (L_callP (vs := []) (V := .bool true) EN_26 rfl rfl ?hc hs fun w5 hs => ?_)
  case hc => exact (alive8_ok _ hsortE)
  refine RW_op (L_not rfl ?_)
  refine RW_nil ?_
  refine W_condF rfl ?_
  refine W_skip ?_
  refine W_seq ?_
  refine W_seq ?_
  refine W_regO [some 11, some 12, some 13, some 14, some 15, some 16, some 17, some 18] [] [0, 1, 3, 7, 15, 31, 63, 127] [pv (.agg ((vc p.known) ++ [(.slice a1p p.ents.length c1p : Value), (.slice a2p p.ticks.length c2p : Value) ]).toArray), pv (.bool (fewB p)), pv (.bool (!(fewB p))), pv (.bool (!(fewB p))), pg ((!(fewB p)) == false) (.agg ((vc q.known) ++ [(.slice a1q q.ents.length c1q : Value), (.slice a2q q.ticks.length c2q : Value) ]).toArray), pg ((!(fewB p)) == false) (.bool (fewB q)), pg ((!(fewB p)) == false) (.bool (!(fewB q))), pv (.bool ((!(fewB p)) || (!(fewB q))))] (fun _ _ => _) [7] (by kernel_rfl) hs ⟨?_, ?_, ?_, ?_, ?_, ?_, ?_, ?_, trivial⟩ ?_
  · exact ob [] [] rfl rfl fun D ρ w hs => L_ldW (cs := (vc p.known) ++ [(.slice a1p p.ents.length c1p : Value), (.slice a2p p.ticks.length c2p : Value) ]) SA_57 hs 0 rfl rfl rfl ⟨rfl, hs⟩
  · exact ob [0] [] rfl rfl fun D ρ w hs => L_callP (vs := [.agg ((vc p.known) ++ [(.slice a1p p.ents.length c1p : Value), (.slice a2p p.ticks.length c2p : Value) ]).toArray]) (V := .bool (fewB p)) EN_27 rfl rfl (few_ok _ p a1p c1p a2p c2p (Rd.own' hr1p hs) (Rd.own' hr2p hs)) hs fun _ hs => ⟨rfl, hs⟩
  · exact ob [1] [] rfl rfl fun D ρ w hs => L_not rfl ⟨rfl, hs⟩
  · exact ob [2] [] rfl rfl fun D ρ w hs => L_move (V := .bool (!(fewB p))) rfl ⟨rfl, hs⟩
  · exact obg [3] [] (!(fewB p)) rfl (fun _ => rfl) rfl (fun _ _ _ _ h => h) fun D ρ w hG hs => L_ldW (cs := (vc q.known) ++ [(.slice a1q q.ents.length c1q : Value), (.slice a2q q.ticks.length c2q : Value) ]) SA_57 hs 1 rfl rfl rfl ⟨rfl, hs⟩
  · exact obgy [3, 4] [] [4] (!(fewB p)) rfl (fun _ => rfl) rfl (fun _ _ _ _ h => h) (fun hG => ⟨hG, trivial⟩) fun D ρ w hG hs => L_callP (vs := [.agg ((vc q.known) ++ [(.slice a1q q.ents.length c1q : Value), (.slice a2q q.ticks.length c2q : Value) ]).toArray]) (V := .bool (fewB q)) EN_27 rfl rfl (few_ok _ q a1q c1q a2q c2q (Rd.own' hr1q hs) (Rd.own' hr2q hs)) hs fun _ hs => ⟨rfl, hs⟩
  · exact obgy [3, 5] [] [5] (!(fewB p)) rfl (fun _ => rfl) rfl (fun _ _ _ _ h => h) (fun hG => ⟨hG, trivial⟩) fun D ρ w hG hs => L_not rfl ⟨rfl, hs⟩
  · exact ob [3, 6] [] rfl rfl fun D ρ w hs => L_orC (h' := !(fewB q)) rfl rfl rfl ⟨rfl, hs⟩
  rintro ρ1 w8 ρ2 hρ hs
  replace hρ : ρ2 = upd (mix [11, 12, 13, 14, 15, 16, 17, 18] ρ1 _) 18 (.bool ((!(fewB p)) || (!(fewB q)))) := hρ
  subst hρ
  refine W_cond (t := (!(fewB p)) || (!(fewB q))) rfl (fun c9 => ?_) (fun c9 => ?_)
  ·
    refine W_seq ?_
    refine W_region ?_
    refine RW_op (L_assign (V := .bool true) rfl ?_)
    refine RW_nil ?_
    refine W_ret ?_
    refine ⟨_, res_one (V := .bool true) Try.results6 rfl, ?_⟩
    refine ⟨congrArg Ending.returned ?_, hs.take 0⟩
    rfl
  ·
    have c9r := or_r c9
    replace c9 := or_l c9
    replace c9 := not_f c9
    replace c9r := not_f c9r
    refine W_skip ?_
    refine W_seq ?_
    have ⟨hf1, hf2⟩ := few_le c9
    have ⟨hf3, hf4⟩ := few_le c9r
    replace hs := hs.more emp trivial
    replace hs := hs.more emp trivial
    replace hs := hs.more emp trivial
    replace hs := hs.more emp trivial
    replace hs := hs.more emp trivial
    replace hs := hs.more emp trivial
    replace hs := hs.more emp trivial
    refine W_regD HM [some 20, some 21, some 22, some 23, some 24, some 19, some 25, some 26, some 5, none, some 6] [[], [21], [], [23], [24], [24], [24], [], [5]] [0, 1, 0, 7, 15, 31, 63, 63, 0, 383, 1023] [pv (.agg ((vc p.known) ++ [(.slice a1p p.ents.length c1p : Value), (.slice a2p p.ticks.length c2p : Value) ]).toArray), (true, fun ρ => .agg ((vc p.known) ++ [(.slice (aOf (aggS (ρ 21) 16)) ((p.ents).length) (cOf (aggS (ρ 21) 16)) : Value), (.slice (aOf (aggS (ρ 21) 17)) ((p.ticks).length) (cOf (aggS (ρ 21) 17)) : Value) ]).toArray), pv (.agg ((vc q.known) ++ [(.slice a1q q.ents.length c1q : Value), (.slice a2q q.ticks.length c2q : Value) ]).toArray), (true, fun ρ => .agg ((vc q.known) ++ [(.slice (aOf (aggS (ρ 23) 16)) ((q.ents).length) (cOf (aggS (ρ 23) 16)) : Value), (.slice (aOf (aggS (ρ 23) 17)) ((q.ticks).length) (cOf (aggS (ρ 23) 17)) : Value) ]).toArray), (true, fun ρ => .tuple #[.agg ((vc ((mergeR p q).known)) ++ [(.slice (aOf (tupS (ρ 24) 0 16)) (((mergeR p q).ents).length) (cOf (tupS (ρ 24) 0 16)) : Value), (.slice (aOf (tupS (ρ 24) 0 17)) (((mergeR p q).ticks).length) (cOf (tupS (ρ 24) 0 17)) : Value) ]).toArray, .int .i64 (mergeI p q)]), (true, fun ρ => .tuple #[.agg ((vc ((mergeR p q).known)) ++ [(.slice (aOf (tupS (ρ 24) 0 16)) (((mergeR p q).ents).length) (cOf (tupS (ρ 24) 0 16)) : Value), (.slice (aOf (tupS (ρ 24) 0 17)) (((mergeR p q).ticks).length) (cOf (tupS (ρ 24) 0 17)) : Value) ]).toArray, .int .i64 (mergeI p q)]), (true, fun ρ => .agg ((vc ((mergeR p q).known)) ++ [(.slice (aOf (tupS (ρ 24) 0 16)) (((mergeR p q).ents).length) (cOf (tupS (ρ 24) 0 16)) : Value), (.slice (aOf (tupS (ρ 24) 0 17)) (((mergeR p q).ticks).length) (cOf (tupS (ρ 24) 0 17)) : Value) ]).toArray), pv (.int .i64 (mergeI p q)), (true, fun ρ => .pointer (some ⟨(bOf (ρ 5)), 0, none⟩)), pn, pv (.int .i64 (mergeI p q))] (fun D ρ => [blk b1 ((vc p.known) ++ [(.slice a1p p.ents.length c1p : Value), (.slice a2p p.ticks.length c2p : Value) ]) 57, blk b3 ((vc q.known) ++ [(.slice a1q q.ents.length c1q : Value), (.slice a2q q.ticks.length c2q : Value) ]) 57, cond (D 1) (row (.slice (aOf (aggS (ρ 21) 16)) ((p.ents).length) (cOf (aggS (ρ 21) 16))) (p.ents.map cec) 128 7) (emp), cond (D 1) (row (.slice (aOf (aggS (ρ 21) 17)) ((p.ticks).length) (cOf (aggS (ρ 21) 17))) (p.ticks.map lsc) 126 2) (emp), cond (D 3) (row (.slice (aOf (aggS (ρ 23) 16)) ((q.ents).length) (cOf (aggS (ρ 23) 16))) (q.ents.map cec) 128 7) (emp), cond (D 3) (row (.slice (aOf (aggS (ρ 23) 17)) ((q.ticks).length) (cOf (aggS (ρ 23) 17))) (q.ticks.map lsc) 126 2) (emp), cond (D 4) (row (.slice (aOf (tupS (ρ 24) 0 16)) (((mergeR p q).ents).length) (cOf (tupS (ρ 24) 0 16))) (((mergeR p q).ents).map cec) 128 7) (emp), cond (D 4) (row (.slice (aOf (tupS (ρ 24) 0 17)) (((mergeR p q).ticks).length) (cOf (tupS (ρ 24) 0 17))) (((mergeR p q).ticks).map lsc) 126 2) (emp), cond (D 9) (blk (bOf (ρ 5)) ((vc ((mergeR p q).known)) ++ [(.slice (aOf (tupS (ρ 24) 0 16)) (((mergeR p q).ents).length) (cOf (tupS (ρ 24) 0 16)) : Value), (.slice (aOf (tupS (ρ 24) 0 17)) (((mergeR p q).ticks).length) (cOf (tupS (ρ 24) 0 17)) : Value) ]) 62) (cond (D 8) (blk (bOf (ρ 5)) ((vc vzero) ++ [(.slice none 0 0 : Value), (.slice none 0 0 : Value) ]) 62) (emp))]) [10, 8] (by kernel_rfl) hs ⟨?_, ?_, ?_, ?_, ?_, ?_, ?_, ?_, ?_, ?_, ?_, trivial⟩ ?_
    · exact ob [] [] rfl rfl fun D ρ w hs => L_ldW (cs := (vc p.known) ++ [(.slice a1p p.ents.length c1p : Value), (.slice a2p p.ticks.length c2p : Value) ]) SA_57 hs 0 rfl rfl rfl ⟨rfl, hs⟩
    · exact ob [0] [] rfl rfl fun D ρ w hs => L_callX (α := (Option Addr × Nat) × (Option Addr × Nat)) (vs := [.agg ((vc p.known) ++ [(.slice a1p p.ents.length c1p : Value), (.slice a2p p.ticks.length c2p : Value) ]).toArray]) (V := fun x : (Option Addr × Nat) × (Option Addr × Nat) => .agg (vc p.known ++ [(.slice x.1.1 (p.ents).length x.1.2 : Value), (.slice x.2.1 (p.ticks).length x.2.2 : Value)]).toArray) (Lo := fun x => [row (.slice x.1.1 (p.ents).length x.1.2) ((p.ents).map cec) 128 7, row (.slice x.2.1 (p.ticks).length x.2.2) ((p.ticks).map lsc) 126 2]) (F := fun _ _ => True) EN_29 rfl rfl (theirs_ok _ p a1p c1p a2p c2p (by omega) (by omega) (Rd.own' hr1p hs) (Rd.own' hr2p hs)) hs fun _ _ hs _ => ⟨rfl, hs.put2 2 3 (Nat.le_of_ble_eq_true rfl) (Nat.le_of_ble_eq_true rfl)⟩
    · exact ob [] [] rfl rfl fun D ρ w hs => L_ldW (cs := (vc q.known) ++ [(.slice a1q q.ents.length c1q : Value), (.slice a2q q.ticks.length c2q : Value) ]) SA_57 hs 1 rfl rfl rfl ⟨rfl, hs⟩
    · exact ob [2] [] rfl rfl fun D ρ w hs => L_callX (α := (Option Addr × Nat) × (Option Addr × Nat)) (vs := [.agg ((vc q.known) ++ [(.slice a1q q.ents.length c1q : Value), (.slice a2q q.ticks.length c2q : Value) ]).toArray]) (V := fun x : (Option Addr × Nat) × (Option Addr × Nat) => .agg (vc q.known ++ [(.slice x.1.1 (q.ents).length x.1.2 : Value), (.slice x.2.1 (q.ticks).length x.2.2 : Value)]).toArray) (Lo := fun x => [row (.slice x.1.1 (q.ents).length x.1.2) ((q.ents).map cec) 128 7, row (.slice x.2.1 (q.ticks).length x.2.2) ((q.ticks).map lsc) 126 2]) (F := fun _ _ => True) EN_29 rfl rfl (theirs_ok _ q a1q c1q a2q c2q (by omega) (by omega) (Rd.own' hr1q hs) (Rd.own' hr2q hs)) hs fun _ _ hs _ => ⟨rfl, hs.put2 4 5 (Nat.le_of_ble_eq_true rfl) (Nat.le_of_ble_eq_true rfl)⟩
    · exact ob [1, 3] [9] rfl rfl fun D ρ w hs => L_callX (α := (Option Addr × Nat) × (Option Addr × Nat)) (vs := [.agg ((vc p.known) ++ [(.slice (aOf (aggS (ρ 21) 16)) ((p.ents).length) (cOf (aggS (ρ 21) 16)) : Value), (.slice (aOf (aggS (ρ 21) 17)) ((p.ticks).length) (cOf (aggS (ρ 21) 17)) : Value) ]).toArray, .agg ((vc q.known) ++ [(.slice (aOf (aggS (ρ 23) 16)) ((q.ents).length) (cOf (aggS (ρ 23) 16)) : Value), (.slice (aOf (aggS (ρ 23) 17)) ((q.ticks).length) (cOf (aggS (ρ 23) 17)) : Value) ]).toArray]) (V := fun x : (Option Addr × Nat) × (Option Addr × Nat) => .tuple #[.agg (vc (mergeR p q).known ++ [(.slice x.1.1 ((mergeR p q).ents).length x.1.2 : Value), (.slice x.2.1 ((mergeR p q).ticks).length x.2.2 : Value)]).toArray, .int .i64 (mergeI p q)]) (Lo := fun x => [row (.slice x.1.1 ((mergeR p q).ents).length x.1.2) (((mergeR p q).ents).map cec) 128 7, row (.slice x.2.1 ((mergeR p q).ticks).length x.2.2) (((mergeR p q).ticks).map lsc) 126 2]) (F := fun _ _ => True) EN_28 rfl rfl (cMerge_ok _ p (aOf (aggS (ρ 21) 16)) (cOf (aggS (ρ 21) 16)) (aOf (aggS (ρ 21) 17)) (cOf (aggS (ρ 21) 17)) q (aOf (aggS (ρ 23) 16)) (cOf (aggS (ρ 23) 16)) (aOf (aggS (ρ 23) 17)) (cOf (aggS (ρ 23) 17)) hsortE hokp (by omega) (by omega) hokq (by omega) (by omega) (hs.rd 2 rfl) (hs.rd 3 rfl) (hs.rd 4 rfl) (hs.rd 5 rfl)) hs fun _ _ hs _ => ⟨rfl, hs.put2 6 7 (Nat.le_of_ble_eq_true rfl) (Nat.le_of_ble_eq_true rfl)⟩
    · exact ob [4] [] rfl rfl fun D ρ w hs => L_move (V := .tuple #[.agg ((vc ((mergeR p q).known)) ++ [(.slice (aOf (tupS (ρ 24) 0 16)) (((mergeR p q).ents).length) (cOf (tupS (ρ 24) 0 16)) : Value), (.slice (aOf (tupS (ρ 24) 0 17)) (((mergeR p q).ticks).length) (cOf (tupS (ρ 24) 0 17)) : Value) ]).toArray, .int .i64 (mergeI p q)]) rfl ⟨rfl, hs⟩
    · exact ob [5] [] rfl rfl fun D ρ w hs => L_extract (V := .agg ((vc ((mergeR p q).known)) ++ [(.slice (aOf (tupS (ρ 24) 0 16)) (((mergeR p q).ents).length) (cOf (tupS (ρ 24) 0 16)) : Value), (.slice (aOf (tupS (ρ 24) 0 17)) (((mergeR p q).ticks).length) (cOf (tupS (ρ 24) 0 17)) : Value) ]).toArray) rfl rfl ⟨rfl, hs⟩
    · exact ob [5] [] rfl rfl fun D ρ w hs => L_extract (V := .int .i64 (mergeI p q)) rfl rfl ⟨rfl, hs⟩
    · exact ob [] [9] rfl rfl fun D ρ w hs => L_alloc (cs := (vc vzero) ++ [(.slice none 0 0 : Value), (.slice none 0 0 : Value) ]) ZV_62 rfl hs fun _ _ hs => ⟨rfl, hs.put 8 (Nat.le_of_ble_eq_true rfl)⟩
    · exact ob [6, 8] [] rfl rfl fun D ρ w hs => L_st (V := .agg ((vc ((mergeR p q).known)) ++ [(.slice (aOf (tupS (ρ 24) 0 16)) (((mergeR p q).ents).length) (cOf (tupS (ρ 24) 0 16)) : Value), (.slice (aOf (tupS (ρ 24) 0 17)) (((mergeR p q).ticks).length) (cOf (tupS (ρ 24) 0 17)) : Value) ]).toArray) (vs := (vc ((mergeR p q).known)) ++ [(.slice (aOf (tupS (ρ 24) 0 16)) (((mergeR p q).ents).length) (cOf (tupS (ρ 24) 0 16)) : Value), (.slice (aOf (tupS (ρ 24) 0 17)) (((mergeR p q).ticks).length) (cOf (tupS (ρ 24) 0 17)) : Value) ]) (cs' := (vc ((mergeR p q).known)) ++ [(.slice (aOf (tupS (ρ 24) 0 16)) (((mergeR p q).ents).length) (cOf (tupS (ρ 24) 0 16)) : Value), (.slice (aOf (tupS (ρ 24) 0 17)) (((mergeR p q).ticks).length) (cOf (tupS (ρ 24) 0 17)) : Value) ]) SA_62.1 hs 8 rfl rfl rfl rfl rfl (Nat.le_of_ble_eq_true rfl) (one_app (vc_one _) (one_cons rfl (one_cons rfl one_nil))) (spl_whole rfl) fun _ hs => ⟨trivial, hs⟩
    · exact ob [7] [] rfl rfl fun D ρ w hs => L_assign (V := .int .i64 (mergeI p q)) rfl ⟨rfl, hs⟩
    rintro ρ1 w15 ρ2 hρ hs
    replace hρ : ρ2 = upd (upd (mix [20, 21, 22, 23, 24, 19, 25, 26, 5, 6] ρ1 _) 5 (.pointer (some ⟨(bOf (ρ1 5)), 0, none⟩))) 6 (.int .i64 (mergeI p q)) := hρ
    replace hs : Own w no w15 [blk b1 ((vc p.known) ++ [(.slice a1p p.ents.length c1p : Value), (.slice a2p p.ticks.length c2p : Value) ]) 57, blk b3 ((vc q.known) ++ [(.slice a1q q.ents.length c1q : Value), (.slice a2q q.ticks.length c2q : Value) ]) 57, row (.slice (aOf (aggS (ρ1 21) 16)) ((p.ents).length) (cOf (aggS (ρ1 21) 16))) (p.ents.map cec) 128 7, row (.slice (aOf (aggS (ρ1 21) 17)) ((p.ticks).length) (cOf (aggS (ρ1 21) 17))) (p.ticks.map lsc) 126 2, row (.slice (aOf (aggS (ρ1 23) 16)) ((q.ents).length) (cOf (aggS (ρ1 23) 16))) (q.ents.map cec) 128 7, row (.slice (aOf (aggS (ρ1 23) 17)) ((q.ticks).length) (cOf (aggS (ρ1 23) 17))) (q.ticks.map lsc) 126 2, row (.slice (aOf (tupS (ρ1 24) 0 16)) (((mergeR p q).ents).length) (cOf (tupS (ρ1 24) 0 16))) (((mergeR p q).ents).map cec) 128 7, row (.slice (aOf (tupS (ρ1 24) 0 17)) (((mergeR p q).ticks).length) (cOf (tupS (ρ1 24) 0 17))) (((mergeR p q).ticks).map lsc) 126 2, blk (bOf (ρ1 5)) ((vc ((mergeR p q).known)) ++ [(.slice (aOf (tupS (ρ1 24) 0 16)) (((mergeR p q).ents).length) (cOf (tupS (ρ1 24) 0 16)) : Value), (.slice (aOf (tupS (ρ1 24) 0 17)) (((mergeR p q).ticks).length) (cOf (tupS (ρ1 24) 0 17)) : Value) ]) 62] := hs
    generalize (aOf (aggS (ρ1 21) 16)) = na16 at hs
    generalize (cOf (aggS (ρ1 21) 16)) = nc17 at hs
    generalize (aOf (aggS (ρ1 21) 17)) = na18 at hs
    generalize (cOf (aggS (ρ1 21) 17)) = nc19 at hs
    generalize (aOf (aggS (ρ1 23) 16)) = na20 at hs
    generalize (cOf (aggS (ρ1 23) 16)) = nc21 at hs
    generalize (aOf (aggS (ρ1 23) 17)) = na22 at hs
    generalize (cOf (aggS (ρ1 23) 17)) = nc23 at hs
    generalize (aOf (tupS (ρ1 24) 0 16)) = na24 at hs
    generalize (cOf (tupS (ρ1 24) 0 16)) = nc25 at hs
    generalize (aOf (tupS (ρ1 24) 0 17)) = na26 at hs
    generalize (cOf (tupS (ρ1 24) 0 17)) = nc27 at hs
    generalize (bOf (ρ1 5)) = b28 at hρ hs
    subst hρ
    refine W_seq ?_
    refine W_region ?_
    refine RW_op (L_ldW (cs := (vc p.known) ++ [(.slice a1p p.ents.length c1p : Value), (.slice a2p p.ticks.length c2p : Value) ]) SA_57 hs 0 rfl rfl rfl ?_)
    refine RW_op (L_ldW (cs := (vc q.known) ++ [(.slice a1q q.ents.length c1q : Value), (.slice a2q q.ticks.length c2q : Value) ]) SA_57 hs 1 rfl rfl rfl ?_)
    refine RW_op (L_callX (α := ((Option Addr × Nat) × (Option Addr × Nat)) × Bool) (vs := [.agg ((vc p.known) ++ [(.slice a1p p.ents.length c1p : Value), (.slice a2p p.ticks.length c2p : Value) ]).toArray, .agg ((vc q.known) ++ [(.slice a1q q.ents.length c1q : Value), (.slice a2q q.ticks.length c2q : Value) ]).toArray]) (V := fun y => .tuple #[.agg (vc (mergeR p q).known ++ [(.slice y.1.1.1 ((mergeR p q).ents).length y.1.1.2 : Value), (.slice y.1.2.1 ((mergeR p q).ticks).length y.1.2.2 : Value)]).toArray, .int .i64 (mergeI p q)]) (Lo := fun y => [row (.slice y.1.1.1 ((mergeR p q).ents).length y.1.1.2) ((mergeR p q).ents.map cec) 134 7, cond y.2 emp (row (.slice y.1.2.1 ((mergeR p q).ticks).length y.1.2.2) ((mergeR p q).ticks.map lsc) 135 2)]) (F := fun y _ => (y.2 = true → y.1.2 = (a2p, c2p) ∧ (mergeR p q).ticks = p.ticks)) EN_30 rfl rfl ?hc hs fun x29 w30 hs hF31 => ?_)
    case hc => exact (rMerge_ok _ p a1p c1p a2p c2p q a1q c1q a2q c2q hokp (by omega) (by omega) hokq (by omega) (by omega) (Rd.own' hr1p hs) (Rd.own' hr2p hs) (Rd.own' hr1q hs) (Rd.own' hr2q hs))
    have hrzL : x29.2 = true → Rd w (.slice x29.1.2.1 ((mergeR p q).ticks).length x29.1.2.2) 2 ((mergeR p q).ticks.map lsc) := fun h => by
      obtain ⟨e1, e2⟩ := hF31 h
      rw [Prod.ext_iff] at e1
      rw [e1.1, e1.2, e2]; exact hr2p
    refine RW_op (L_move (V := .tuple #[.agg ((vc ((mergeR p q).known)) ++ [(.slice x29.1.1.1 (((mergeR p q).ents).length) x29.1.1.2 : Value), (.slice x29.1.2.1 (((mergeR p q).ticks).length) x29.1.2.2 : Value) ]).toArray, .int .i64 (mergeI p q)]) rfl ?_)
    refine RW_op (L_extract (V := .agg ((vc ((mergeR p q).known)) ++ [(.slice x29.1.1.1 (((mergeR p q).ents).length) x29.1.1.2 : Value), (.slice x29.1.2.1 (((mergeR p q).ticks).length) x29.1.2.2 : Value) ]).toArray) rfl rfl ?_)
    refine RW_op (L_extract (V := .int .i64 (mergeI p q)) rfl rfl ?_)
    refine RW_op (L_alloc (cs := (vc vzero) ++ [(.slice none 0 0 : Value), (.slice none 0 0 : Value) ]) ZV_57 rfl hs fun b32 w33 hs => ?_)
    refine RW_op (L_st (V := .agg ((vc ((mergeR p q).known)) ++ [(.slice x29.1.1.1 (((mergeR p q).ents).length) x29.1.1.2 : Value), (.slice x29.1.2.1 (((mergeR p q).ticks).length) x29.1.2.2 : Value) ]).toArray) (vs := (vc ((mergeR p q).known)) ++ [(.slice x29.1.1.1 (((mergeR p q).ents).length) x29.1.1.2 : Value), (.slice x29.1.2.1 (((mergeR p q).ticks).length) x29.1.2.2 : Value) ]) (cs' := (vc ((mergeR p q).known)) ++ [(.slice x29.1.1.1 (((mergeR p q).ents).length) x29.1.1.2 : Value), (.slice x29.1.2.1 (((mergeR p q).ticks).length) x29.1.2.2 : Value) ]) SA_57.1 hs 11 rfl rfl rfl rfl rfl (Nat.le_of_ble_eq_true rfl) (one_app (vc_one _) (one_cons rfl (one_cons rfl one_nil))) (spl_whole rfl) fun w34 hs => ?_)
    replace hs : Own w no w34 [blk b1 ((vc p.known) ++ [(.slice a1p p.ents.length c1p : Value), (.slice a2p p.ticks.length c2p : Value) ]) 57, blk b3 ((vc q.known) ++ [(.slice a1q q.ents.length c1q : Value), (.slice a2q q.ticks.length c2q : Value) ]) 57, row (.slice na16 ((p.ents).length) nc17) (p.ents.map cec) 128 7, row (.slice na18 ((p.ticks).length) nc19) (p.ticks.map lsc) 126 2, row (.slice na20 ((q.ents).length) nc21) (q.ents.map cec) 128 7, row (.slice na22 ((q.ticks).length) nc23) (q.ticks.map lsc) 126 2, row (.slice na24 (((mergeR p q).ents).length) nc25) (((mergeR p q).ents).map cec) 128 7, row (.slice na26 (((mergeR p q).ticks).length) nc27) (((mergeR p q).ticks).map lsc) 126 2, blk b28 ((vc ((mergeR p q).known)) ++ [(.slice na24 (((mergeR p q).ents).length) nc25 : Value), (.slice na26 (((mergeR p q).ticks).length) nc27 : Value) ]) 62, row (.slice x29.1.1.1 (((mergeR p q).ents).length) x29.1.1.2) (((mergeR p q).ents).map cec) 134 7, cond x29.2 emp (row (.slice x29.1.2.1 (((mergeR p q).ticks).length) x29.1.2.2) (((mergeR p q).ticks).map lsc) 135 2), blk b32 ((vc ((mergeR p q).known)) ++ [(.slice x29.1.1.1 (((mergeR p q).ents).length) x29.1.1.2 : Value), (.slice x29.1.2.1 (((mergeR p q).ticks).length) x29.1.2.2 : Value) ]) 57] := hs
    refine RW_op (L_assign (V := .int .i64 (mergeI p q)) rfl ?_)
    refine RW_nil ?_
    refine W_seq ?_
    have hml := mergeR_lens p q
    replace hs := hs.more emp trivial
    replace hs := hs.more emp trivial
    refine W_regD HM [some 33, some 34, some 35, some 36, some 37, some 38, some 39, some 40, some 41, some 4] [[], [34]] [0, 1, 0, 7, 15, 31, 31, 127, 255, 511] [pv (.agg ((vc ((mergeR p q).known)) ++ [(.slice na24 (((mergeR p q).ents).length) nc25 : Value), (.slice na26 (((mergeR p q).ticks).length) nc27 : Value) ]).toArray), (true, fun ρ => .agg ((vc (((mergeR p q)).known)) ++ [(.slice (aOf (aggS (ρ 34) 16)) ((((mergeR p q)).ents).length) (cOf (aggS (ρ 34) 16)) : Value), (.slice (aOf (aggS (ρ 34) 17)) ((((mergeR p q)).ticks).length) (cOf (aggS (ρ 34) 17)) : Value) ]).toArray), pv (.agg ((vc ((mergeR p q).known)) ++ [(.slice x29.1.1.1 (((mergeR p q).ents).length) x29.1.1.2 : Value), (.slice x29.1.2.1 (((mergeR p q).ticks).length) x29.1.2.2 : Value) ]).toArray), pv (.bool true), pv (.bool true), pv (.int .i64 (mergeI p q)), pv (.int .i64 (mergeI p q)), pv (.bool true), pv (.bool true), pv (.bool true)] (fun D ρ => [blk b1 ((vc p.known) ++ [(.slice a1p p.ents.length c1p : Value), (.slice a2p p.ticks.length c2p : Value) ]) 57, blk b3 ((vc q.known) ++ [(.slice a1q q.ents.length c1q : Value), (.slice a2q q.ticks.length c2q : Value) ]) 57, row (.slice na16 ((p.ents).length) nc17) (p.ents.map cec) 128 7, row (.slice na18 ((p.ticks).length) nc19) (p.ticks.map lsc) 126 2, row (.slice na20 ((q.ents).length) nc21) (q.ents.map cec) 128 7, row (.slice na22 ((q.ticks).length) nc23) (q.ticks.map lsc) 126 2, row (.slice na24 (((mergeR p q).ents).length) nc25) (((mergeR p q).ents).map cec) 128 7, row (.slice na26 (((mergeR p q).ticks).length) nc27) (((mergeR p q).ticks).map lsc) 126 2, blk b28 ((vc ((mergeR p q).known)) ++ [(.slice na24 (((mergeR p q).ents).length) nc25 : Value), (.slice na26 (((mergeR p q).ticks).length) nc27 : Value) ]) 62, row (.slice x29.1.1.1 (((mergeR p q).ents).length) x29.1.1.2) (((mergeR p q).ents).map cec) 134 7, cond x29.2 emp (row (.slice x29.1.2.1 (((mergeR p q).ticks).length) x29.1.2.2) (((mergeR p q).ticks).map lsc) 135 2), blk b32 ((vc ((mergeR p q).known)) ++ [(.slice x29.1.1.1 (((mergeR p q).ents).length) x29.1.1.2 : Value), (.slice x29.1.2.1 (((mergeR p q).ticks).length) x29.1.2.2 : Value) ]) 57, cond (D 1) (row (.slice (aOf (aggS (ρ 34) 16)) ((((mergeR p q)).ents).length) (cOf (aggS (ρ 34) 16))) ((((mergeR p q)).ents).map cec) 134 7) (emp), cond (D 1) (row (.slice (aOf (aggS (ρ 34) 17)) ((((mergeR p q)).ticks).length) (cOf (aggS (ρ 34) 17))) ((((mergeR p q)).ticks).map lsc) 135 2) (emp)]) [9] (by kernel_rfl) hs ⟨?_, ?_, ?_, ?_, ?_, ?_, ?_, ?_, ?_, ?_, trivial⟩ ?_
    · exact ob [] [] rfl rfl fun D ρ w hs => L_ldW (cs := (vc ((mergeR p q).known)) ++ [(.slice na24 (((mergeR p q).ents).length) nc25 : Value), (.slice na26 (((mergeR p q).ticks).length) nc27 : Value) ]) SA_62 hs 8 rfl rfl rfl ⟨rfl, hs⟩
    · exact ob [0] [] rfl rfl fun D ρ w hs => L_callX (α := (Option Addr × Nat) × (Option Addr × Nat)) (vs := [.agg ((vc ((mergeR p q).known)) ++ [(.slice na24 (((mergeR p q).ents).length) nc25 : Value), (.slice na26 (((mergeR p q).ticks).length) nc27 : Value) ]).toArray]) (V := fun x : (Option Addr × Nat) × (Option Addr × Nat) => .agg (vc ((mergeR p q)).known ++ [(.slice x.1.1 (((mergeR p q)).ents).length x.1.2 : Value), (.slice x.2.1 (((mergeR p q)).ticks).length x.2.2 : Value)]).toArray) (Lo := fun x => [row (.slice x.1.1 (((mergeR p q)).ents).length x.1.2) ((((mergeR p q)).ents).map cec) 134 7, row (.slice x.2.1 (((mergeR p q)).ticks).length x.2.2) ((((mergeR p q)).ticks).map lsc) 135 2]) (F := fun _ _ => True) EN_32 rfl rfl (ours_ok _ (mergeR p q) na24 nc25 na26 nc27 (by omega) (by omega) (hs.rd 6 rfl) (hs.rd 7 rfl)) hs fun _ _ hs _ => ⟨rfl, hs.put2 12 13 (Nat.le_of_ble_eq_true rfl) (Nat.le_of_ble_eq_true rfl)⟩
    · exact ob [] [] rfl rfl fun D ρ w hs => L_ldW (cs := (vc ((mergeR p q).known)) ++ [(.slice x29.1.1.1 (((mergeR p q).ents).length) x29.1.1.2 : Value), (.slice x29.1.2.1 (((mergeR p q).ticks).length) x29.1.2.2 : Value) ]) SA_57 hs 11 rfl rfl rfl ⟨rfl, hs⟩
    · exact ob [1, 2] [] rfl rfl fun D ρ w hs => L_callPV (V' := .bool true) (congrArg Value.bool (by simp)) (vs := [.agg ((vc (((mergeR p q)).known)) ++ [(.slice (aOf (aggS (ρ 34) 16)) ((((mergeR p q)).ents).length) (cOf (aggS (ρ 34) 16)) : Value), (.slice (aOf (aggS (ρ 34) 17)) ((((mergeR p q)).ticks).length) (cOf (aggS (ρ 34) 17)) : Value) ]).toArray, .agg ((vc ((mergeR p q).known)) ++ [(.slice x29.1.1.1 (((mergeR p q).ents).length) x29.1.1.2 : Value), (.slice x29.1.2.1 (((mergeR p q).ticks).length) x29.1.2.2 : Value) ]).toArray]) (V := .bool (decide (((mergeR p q)).known = (mergeR p q).known) && (decide (((mergeR p q)).ents = (mergeR p q).ents) && decide (((mergeR p q)).ticks = (mergeR p q).ticks)))) EN_31 rfl rfl (same8_ok _ ((mergeR p q)) (aOf (aggS (ρ 34) 16)) (cOf (aggS (ρ 34) 16)) (aOf (aggS (ρ 34) 17)) (cOf (aggS (ρ 34) 17)) (mergeR p q) x29.1.1.1 x29.1.1.2 x29.1.2.1 x29.1.2.2 (hs.rd 12 rfl) (hs.rd 13 rfl) (hs.rd 9 rfl) (hs.rdC 10 rfl hrzL)) hs fun _ hs => ⟨rfl, hs⟩
    · exact ob [3] [] rfl rfl fun D ρ w hs => L_move (V := .bool true) rfl ⟨rfl, hs⟩
    · exact obg [4] [] true rfl (fun _ => rfl) rfl (fun _ _ _ h => nomatch h) fun D ρ w _ hs => L_move (V := .int .i64 (mergeI p q)) rfl ⟨rfl, hs⟩
    · exact obg [4] [] true rfl (fun _ => rfl) rfl (fun _ _ _ h => nomatch h) fun D ρ w _ hs => L_move (V := .int .i64 (mergeI p q)) rfl ⟨rfl, hs⟩
    · exact obg [4, 5, 6] [] true rfl (fun _ => rfl) rfl (fun _ _ _ h => nomatch h) fun D ρ w _ hs => opW_to (V := .bool (decide (mergeI p q = mergeI p q))) (V' := .bool true) (L_eql rfl rfl ⟨rfl, rfl⟩) (congrArg Value.bool (by simp)) ⟨rfl, hs⟩
    · exact ob [4, 7] [] rfl rfl fun D ρ w hs => L_pick (V := .bool true) rfl rfl ⟨rfl, hs⟩
    · exact ob [8] [] rfl rfl fun D ρ w hs => L_assign (V := .bool true) rfl ⟨rfl, hs⟩
    rintro ρ1 w37 ρ2 hρ hs
    replace hρ : ρ2 = upd (mix [33, 34, 35, 36, 37, 38, 39, 40, 41, 4] ρ1 _) 4 (.bool true) := hρ
    replace hs : Own w no w37 [blk b1 ((vc p.known) ++ [(.slice a1p p.ents.length c1p : Value), (.slice a2p p.ticks.length c2p : Value) ]) 57, blk b3 ((vc q.known) ++ [(.slice a1q q.ents.length c1q : Value), (.slice a2q q.ticks.length c2q : Value) ]) 57, row (.slice na16 ((p.ents).length) nc17) (p.ents.map cec) 128 7, row (.slice na18 ((p.ticks).length) nc19) (p.ticks.map lsc) 126 2, row (.slice na20 ((q.ents).length) nc21) (q.ents.map cec) 128 7, row (.slice na22 ((q.ticks).length) nc23) (q.ticks.map lsc) 126 2, row (.slice na24 (((mergeR p q).ents).length) nc25) (((mergeR p q).ents).map cec) 128 7, row (.slice na26 (((mergeR p q).ticks).length) nc27) (((mergeR p q).ticks).map lsc) 126 2, blk b28 ((vc ((mergeR p q).known)) ++ [(.slice na24 (((mergeR p q).ents).length) nc25 : Value), (.slice na26 (((mergeR p q).ticks).length) nc27 : Value) ]) 62, row (.slice x29.1.1.1 (((mergeR p q).ents).length) x29.1.1.2) (((mergeR p q).ents).map cec) 134 7, cond x29.2 emp (row (.slice x29.1.2.1 (((mergeR p q).ticks).length) x29.1.2.2) (((mergeR p q).ticks).map lsc) 135 2), blk b32 ((vc ((mergeR p q).known)) ++ [(.slice x29.1.1.1 (((mergeR p q).ents).length) x29.1.1.2 : Value), (.slice x29.1.2.1 (((mergeR p q).ticks).length) x29.1.2.2 : Value) ]) 57, row (.slice (aOf (aggS (ρ1 34) 16)) ((((mergeR p q)).ents).length) (cOf (aggS (ρ1 34) 16))) ((((mergeR p q)).ents).map cec) 134 7, row (.slice (aOf (aggS (ρ1 34) 17)) ((((mergeR p q)).ticks).length) (cOf (aggS (ρ1 34) 17))) ((((mergeR p q)).ticks).map lsc) 135 2] := hs
    generalize (aOf (aggS (ρ1 34) 16)) = na38 at hs
    generalize (cOf (aggS (ρ1 34) 16)) = nc39 at hs
    generalize (aOf (aggS (ρ1 34) 17)) = na40 at hs
    generalize (cOf (aggS (ρ1 34) 17)) = nc41 at hs
    subst hρ
    refine W_ret ?_
    refine ⟨_, res_one (V := .bool true) Try.results6 rfl, ?_⟩
    refine ⟨congrArg Ending.returned ?_, hs.take 0⟩
    rfl
end Tt
end Go.Proofs
namespace Go.Proofs.Ythbbcjimiemdgaa
open Go.RowKit Go.Vx
theorem Try.own : ownKnob Try.prog.godebug = none := by kernel_rfl
theorem Try.laidOut : laidOutB Try.prog = true := by kernel_rfl
theorem O53 : OpenT Try.prog 53 vc VecOk := O_vec Try.underlying53 Try.underlying51 (by kernel_rfl) (by kernel_rfl)
theorem O96 : OpenT Try.prog 96 dc DotOk := O_dot Try.underlying96 rfl rfl Try.underlying5 Try.underlying51 (by kernel_rfl) (by kernel_rfl) (by kernel_rfl)
theorem O134 : OpenT Try.prog 134 cec CenOk := O_cen Try.underlying134 rfl rfl O96 Try.underlying70 Try.underlying70 Try.underlying70 Try.underlying5 Try.underlying92 (by kernel_rfl) (by kernel_rfl)
theorem O135 : OpenT Try.prog 135 lsc LstOk := O_lst Try.underlying135 rfl Try.underlying70 Try.underlying51 (by kernel_rfl) (by kernel_rfl)
end Go.Proofs.Ythbbcjimiemdgaa
namespace Go.Vx
open Go.RowKit Go.Shelf Go.Sort Go.Proofs
theorem own_grow {w w' : World} {L : List Res} (h : Own w no w' L) : ∃ q os, w' = grow (w.drewN q) os := by
  refine ⟨w'.drawn - w.drawn, w'.heap.extract w.heap.size w'.heap.size, ?_⟩
  have hd : w.drawn + (w'.drawn - w.drawn) = w'.drawn := by have := h.tape.2; omega
  have hh : w.heap ++ w'.heap.extract w.heap.size w'.heap.size = w'.heap := by
    apply Array.ext_getElem?
    intro i
    by_cases hi : i < w.heap.size
    · rw [Array.getElem?_append_left hi, h.old i hi (fun h => h)]
    · rw [Array.getElem?_append_right (by omega)]
      have := h.size
      simp only [Array.getElem?_extract]
      split
      · congr 1; omega
      · rw [Array.getElem?_eq_none (by omega)]
  have h1 := h.os
  have h2 := h.tape.1
  have h3 := h.output
  cases w' with
  | mk heap tape drawn os output =>
    cases w with
    | mk heap0 tape0 drawn0 os0 output0 =>
      simp only at h1 h2 h3 hd hh
      subst h1; subst h2; subst h3
      simp [grow, World.drewN, hh, hd]
section
variable {P : Program} {ρ : Ren} {α : Type} [Inhabited α]
theorem flatK_at {enc : α → List Value} {k : Nat} {l : List α} (hk : ∀ x, (enc x).length = k) {j : Nat} (hj : j < l.length * k) : (l.map enc).flatten[j]? = some (flatK enc k l.toArray)[j]! := by
  have hk0 : 0 < k := by
    rcases Nat.eq_zero_or_pos k with h | h
    · subst h; simp at hj
    · exact h
  have hi : j / k < l.length := Nat.div_lt_of_lt_mul (by rw [Nat.mul_comm]; exact hj)
  have hm : j % k < k := Nat.mod_lt _ hk0
  have e1 : (l.map enc)[j / k]? = some (enc l[j / k]) := by simp [hi]
  have e2 : (enc l[j / k])[j % k]? = some (enc l[j / k])[j % k]! := by
    rw [List.getElem?_eq_getElem (by rw [hk]; exact hm), List.getElem!_eq_getElem?_getD, List.getElem?_eq_getElem (by rw [hk]; exact hm)]
    rfl
  have h := flat_at (l.map enc) k (len_map hk l) (j / k) (j % k) _ _ e1 e2
  rw [Nat.mul_comm, Nat.div_add_mod] at h
  rw [h, get_flatK enc k l.toArray j (by simpa using hj)]
  simp [hi]
theorem own_sorted {enc : α → List Value} {k : Nat} {w : World} {S : Nat → Prop} {g cap T n : Nat} {l m : List α} {os : Array Obj} (hk : ∀ x, (enc x).length = k) (h1 : ∀ x, ∀ v ∈ enc x, v.oneCell' = true)
    (hR : (row (.slice (some ⟨g, 0, none⟩) l.length cap) (l.map enc) T k).holds w S) (hlt : ∀ b, S b → b < w.heap.size) (hlen : m.length = l.length) :
    Own w S (sortWorldK enc k w g 0 n m.toArray os) [row (.slice (some ⟨g, 0, none⟩) l.length cap) (m.map enc) T k] := by
  obtain ⟨_, hown, hS⟩ := hR
  have hSg := hS g rfl
  have hgl := hlt g hSg
  rcases hown.2 with ⟨hv, _⟩ | ⟨g', cap', cur, hv, _, hg, hnc, hcm, hcs, htake⟩
  · cases hv
  · simp only [Value.slice.injEq, Option.some.injEq, Addr.mk.injEq, and_true] at hv
    obtain ⟨rfl, hn, rfl⟩ := hv
    simp only [List.length_map] at hnc htake hn
    have hX : ∀ c, c < w.heap.size → (sortWorldK enc k w g 0 n m.toArray os).heap[c]? = (w.heap.modify g (onCells (putCells id 0 (flatK enc k m.toArray))))[c]? := by
      intro c hc
      show ((w.heap.modify g (onCells (putCells id 0 (flatK enc k m.toArray)))) ++ os)[c]? = _
      rw [Array.getElem?_append_left (by simpa using hc)]
    have hXg : (sortWorldK enc k w g 0 n m.toArray os).heap[g]? = some (.cells (putCells id 0 (flatK enc k m.toArray) cur) T (0, 0)) := by
      rw [hX g hgl, Array.getElem?_modify, if_pos rfl, hg]; rfl
    have hXo : ∀ c, c < w.heap.size → c ≠ g → (sortWorldK enc k w g 0 n m.toArray os).heap[c]? = w.heap[c]? := by
      intro c hc hne
      rw [hX c hc, Array.getElem?_modify, if_neg (fun e => hne e.symm)]
    have hsz : (sortWorldK enc k w g 0 n m.toArray os).heap.size = w.heap.size + os.size := by
      show ((w.heap.modify g (onCells (putCells id 0 (flatK enc k m.toArray)))) ++ os).size = _
      simp
    refine ⟨rfl, ⟨rfl, Nat.le_add_right _ _⟩, rfl, by omega, fun b hb hm => hXo b hb (fun e => hm (e ▸ hSg)), fun j b => j = 0 ∧ b = g, fun j R hj => ?_, fun j b hb => by rw [hb.2]; omega, fun j j' b hb hb' => hb.1.trans hb'.1.symm, fun j b hb _ => by rw [hb.2]; exact hSg⟩
    cases j with
    | succ j => simp at hj
    | zero =>
      simp only [List.getElem?_cons_zero, Option.some.injEq] at hj
      subst hj
      refine ⟨⟨len_map hk m, one_map h1 m⟩, ⟨?_, .inr ⟨g, cap, _, by rw [List.length_map, hlen], Nat.zero_le _, hXg, by rw [List.length_map]; omega, hcm, by unfold putCells; simpa using hcs, ?_⟩⟩, fun g' hg' => by cases hg'; exact ⟨rfl, rfl⟩⟩
      · rw [flat_len _ (len_map hk m)]
      · apply List.ext_getElem?
        intro j
        rw [List.getElem?_take, List.length_map]
        by_cases hj : j < m.length * k
        · have hjc : j < cur.size := by
            rw [hcs]
            exact Nat.lt_of_lt_of_le hj (Nat.mul_le_mul_right _ (by omega))
          rw [if_pos hj, flatK_at hk hj, Array.getElem?_toList]
          unfold putCells
          rw [Array.getElem?_mapIdx, Array.getElem?_eq_getElem hjc]
          simp [hj]
        · rw [if_neg hj, List.getElem?_eq_none (by rw [flat_len _ (len_map hk m), List.length_map]; omega)]
theorem sortC_of (L : SlLaysF0.n6 P ρ) {k T g : Nat} {enc : α → List Value} {cf : α → α → Int} (aE : ∀ w, (isAgg (ρ.t 24)).run P w = .ok true w) (zE : ∀ w, (Go.sizeOf (ρ.t 24)).run P w = .ok k w) (hk : ∀ x, (enc x).length = k) (h1 : ∀ x, ∀ v ∈ enc x, v.oneCell' = true)
    (hO : SWO (ltOf cf)) (hg : En P g) (hc : ∀ w x y, Calls P g #[.agg (enc x).toArray, .agg (enc y).toArray] w fun e w' => e = .returned (.int .i64 (cf x y)) ∧ Own w no w' [])
    (hnil : ∀ w, Calls P (ρ.f 6) #[.slice none 0 0, .func (.func g) #[] #[]] w fun e w' => e = .returned (.tuple #[]) ∧ w' = w) :
    SortC P (ρ.f 6) g enc T k (fun l m => m.Perm l ∧ m.Pairwise fun x y => ¬ cf y x < 0) := by
  intro w S a c l hR hlt hsz
  have hR' := hR
  obtain ⟨_, hown, hS⟩ := hR
  rcases hown.2 with ⟨hv, hn⟩ | ⟨b, cap, cur, hv, _, hb, hnc, hcm, hcs, htake⟩
  · have hl : l = [] := by simpa using hn
    subst hl
    simp only [List.length_nil, Value.slice.injEq] at hv
    obtain ⟨rfl, _, rfl⟩ := hv
    exact (hnil w).mono fun e w' ⟨he, hw⟩ => ⟨⟨[], List.Perm.refl _, List.Pairwise.nil⟩, he, by subst hw; exact Own.lent hR' hlt, trivial⟩
  · simp only [Value.slice.injEq, List.length_map] at hv
    obtain ⟨rfl, _, rfl⟩ := hv
    have hbl := hlt b (hS b rfl)
    have hH : HoldsK enc k w b 0 l.toArray := by
      intro j hj
      have hj' : j < l.length * k := by simpa using hj
      rw [Nat.zero_add]
      refine ⟨?_, frozen_of_row w b _ _ _ hb⟩
      rw [cell_of_row w b j _ _ _ hb]
      have h2 := flatK_at (l := l) hk hj'
      rw [← htake, List.getElem?_take, List.length_map, if_pos hj'] at h2
      simpa using h2
    have hcmp : CmpLays P g #[] enc k cf b 0 l.toArray.size w := fun m os dk _ x y =>
      (hc _ x y).mono fun e w' ⟨he, ho⟩ => ⟨he, own_grow ho⟩
    refine (AnyQ.slices_SortFunc L k aE zE enc hk h1 cf hO g #[] b 0 c l.toArray w hg hcmp hH hbl (by simpa using hsz)).mono ?_
    rintro e w' ⟨he, d', n, os, hp, hs, rfl⟩
    obtain ⟨hp1, _, hp2⟩ := hp
    have hsz' : d'.toList.length = l.length := by simpa using hp1
    refine ⟨⟨d'.toList, ?_, ?_⟩, he, ?_, trivial⟩
    · have e1 : d'.extract 0 l.toArray.size = d' := by rw [← hp1]; simp
      have e2 : l.toArray.extract 0 l.toArray.size = l.toArray := by simp
      rw [e1, e2] at hp2
      simpa using hp2
    · rw [List.pairwise_iff_getElem]
      intro i j hi hj hij
      have h3 := hs i j (Nat.zero_le _) hij (by rw [← hp1]; simpa using hj)
      unfold ltOf at h3
      have e1 : d'[i]! = d'.toList[i] := by simp at hi; simp [hi]
      have e2 : d'[j]! = d'.toList[j] := by simp at hj; simp [hj]
      rw [e1, e2] at h3
      simpa using h3
    · have := own_sorted (n := n) (os := os) hk h1 hR' hlt hsz'
      simpa using this
end
end Go.Vx
namespace Go.Proofs
open Go.Shelf
def Try.sortE_ren : Go.Shelf.Ren := ⟨fun | 6 => 63 | 15 => 102 | 14 => 101 | 28 => 133 | 29 => 134 | 20 => 125 | 21 => 126 | 22 => 127 | 23 => 128 | 24 => 129 | 25 => 130 | 26 => 131 | 27 => 132 | 46 => 153 | 47 => 154 | 48 => 155 | 49 => 156 | 50 => 157 | 57 => 166 | n => n, fun | 22 => 59 | 24 => 128 | 25 => 132 | 3 => 3 | 39 => 170 | 0 => 0 | 53 => 51 | 55 => 92 | 4 => 4 | 46 => 191 | 45 => 190 | 50 => 139 | 5 => 5 | 9 => 9 | 66 => 210 | 70 => 214 | 76 => 220 | 77 => 221 | n => n, fun | n => n⟩
theorem Try.sortE : Go.Proofs.SlLaysF0.n6 Try.prog Try.sortE_ren := {
  mixed := by kernel_rfl
  f6 := ⟨Try.f63.name, by decide, Try.func63.trans (congrArg some (by kernel_rfl))⟩
  f14 := ⟨Try.f101.name, by decide, Try.func101.trans (congrArg some (by kernel_rfl))⟩
  f15 := Try.func102.trans (congrArg some (by kernel_rfl))
  f20 := ⟨Try.f125.name, by decide, Try.func125.trans (congrArg some (by kernel_rfl))⟩
  f21 := ⟨Try.f126.name, by decide, Try.func126.trans (congrArg some (by kernel_rfl))⟩
  f22 := ⟨Try.f127.name, by decide, Try.func127.trans (congrArg some (by kernel_rfl))⟩
  f23 := ⟨Try.f128.name, by decide, Try.func128.trans (congrArg some (by kernel_rfl))⟩
  f24 := ⟨Try.f129.name, by decide, Try.func129.trans (congrArg some (by kernel_rfl))⟩
  f25 := ⟨Try.f130.name, by decide, Try.func130.trans (congrArg some (by kernel_rfl))⟩
  f26 := ⟨Try.f131.name, by decide, Try.func131.trans (congrArg some (by kernel_rfl))⟩
  f27 := ⟨Try.f132.name, by decide, Try.func132.trans (congrArg some (by kernel_rfl))⟩
  f28 := Try.func133.trans (congrArg some (by kernel_rfl))
  f29 := Try.func134.trans (congrArg some (by kernel_rfl))
  f46 := ⟨Try.f153.name, by decide, Try.func153.trans (congrArg some (by kernel_rfl))⟩
  f47 := Try.func154.trans (congrArg some (by kernel_rfl))
  f48 := Try.func155.trans (congrArg some (by kernel_rfl))
  f49 := ⟨Try.f156.name, by decide, Try.func156.trans (congrArg some (by kernel_rfl))⟩
  f50 := ⟨Try.f157.name, by decide, Try.func157.trans (congrArg some (by kernel_rfl))⟩
  f57 := ⟨Try.f166.name, by decide, Try.func166.trans (congrArg some (by kernel_rfl))⟩
  t0 := Try.underlying0
  a0 := Try.isAgg0
  z0 := Try.sizeOf0
  v0 := Try.zeroValue0
  t3 := Try.underlying3
  a3 := Try.isAgg3
  z3 := Try.sizeOf3
  v3 := Try.zeroValue3
  t4 := Try.underlying4
  a4 := Try.isAgg4
  z4 := Try.sizeOf4
  v4 := Try.zeroValue4
  t5 := Try.underlying5
  a5 := Try.isAgg5
  z5 := Try.sizeOf5
  v5 := Try.zeroValue5
  t9 := Try.underlying9
  a9 := Try.isAgg9
  z9 := Try.sizeOf9
  v9 := Try.zeroValue9
  t22 := Try.underlying59
  a22 := Try.isAgg59
  z22 := Try.sizeOf59
  v22 := Try.zeroValue59
  t25 := Try.underlying132
  a25 := Try.isAgg132
  z25 := Try.sizeOf132
  v25 := Try.zeroValue132
  t39 := Try.underlying170
  a39 := Try.isAgg170
  z39 := Try.sizeOf170
  v39 := Try.zeroValue170
  t45 := Try.underlying190
  a45 := Try.isAgg190
  z45 := Try.sizeOf190
  v45 := Try.zeroValue190
  t46 := Try.underlying191
  a46 := Try.isAgg191
  z46 := Try.sizeOf191
  v46 := Try.zeroValue191
  t50 := Try.underlying139
  a50 := Try.isAgg139
  z50 := Try.sizeOf139
  v50 := Try.zeroValue139
  t53 := Try.underlying51
  a53 := Try.isAgg51
  z53 := Try.sizeOf51
  v53 := Try.zeroValue51
  t55 := Try.underlying92
  a55 := Try.isAgg92
  z55 := Try.sizeOf92
  v55 := Try.zeroValue92
  t66 := Try.underlying210
  a66 := Try.isAgg210
  z66 := Try.sizeOf210
  v66 := Try.zeroValue210
  t70 := Try.underlying214
  a70 := Try.isAgg214
  z70 := Try.sizeOf214
  v70 := Try.zeroValue214
  t76 := Try.underlying220
  a76 := Try.isAgg220
  z76 := Try.sizeOf220
  v76 := Try.zeroValue220
  t77 := Try.underlying221
  a77 := Try.isAgg221
  z77 := Try.sizeOf221
  v77 := Try.zeroValue221 }
end Go.Proofs
namespace Go.Proofs.Ythbbcjimiemdgaa
open Go.Vx Go.Sort Go.Proofs
theorem swoE : SWO (ltOf placeI) where
  irrefl x := by unfold ltOf; rw [decide_eq_false_iff_not, place_lt, ahead_irrefl]; decide
  trans x y z h1 h2 := by unfold ltOf at *; rw [decide_eq_true_iff, place_lt] at *; exact ahead_trans h1 h2
  ntrans x y z h1 h2 := by unfold ltOf at *; rw [decide_eq_false_iff_not, place_lt, ahead_iff] at *; omega
theorem sortsE : SortC Try.prog 63 64 cec 128 7 srtE :=
  sortC_of (ρ := Try.sortE_ren) (k := 7) (T := 128) Try.sortE Try.isAgg128 Try.sizeOf128 (fun _ => rfl) cec_one swoE Try.call64 (fun w x y => Tt.place_ok w x y) (fun w => AnyF.slices_SortFunc_none Try.sortE none 0 _ w)
end Go.Proofs.Ythbbcjimiemdgaa
