/- A part of a proof: what functions of the program compute, and plain facts on that. -/
import Derived.Test.YthbbcjimiemdgaaCartViewsP5
import Derived.KernelRfl
import Derived.Test.YthbbcjimiemdgaaProg
import Derived.Shelf.SlSortCmp.WholeK
import Derived.Shelf.SlLaysF0
import Derived.Ground.SlsfProg
import Derived.Shelf.SlSortCmp.NoneTotal
set_option linter.unusedVariables false
set_option linter.unusedSimpArgs false
namespace Go.Proofs
open Go Go.Vx Go.RowKit
namespace Tt
set_option maxRecDepth 20000 in
set_option maxHeartbeats 4000000 in
theorem less8_ok (w : World) (x y : Cen) : Calls Try.prog 112 #[.agg (cec x).toArray, .agg (cec y).toArray] w (fun e w' => e = .returned (.bool (lessC x y)) ∧ Own w no w' []) := by
  refine calls_of_Wn (n := 36) Try.func112 rfl Try.ntmps112 rfl ?_
  have hs := Own.start w
  refine W_seq ?_
  refine W_region ?_
  refine RW_op (L_box (V := .agg (cec x).toArray) (cs := cec x) rfl rfl hs fun b1 w2 hs => ?_)
  refine RW_op (L_box (V := .agg (cec y).toArray) (cs := cec y) rfl rfl hs fun b3 w4 hs => ?_)
  refine RW_op (L_assign (V := .bool false) rfl ?_)
  refine RW_nil ?_
  refine W_seq ?_
  refine W_seq ?_
  refine W_region ?_
  refine RW_op (L_fieldAddr FA_134_5 rfl ?_)
  refine RW_op (L_ld (V := .int .u64 x.count) S1_92 hs 0 rfl rfl rfl ?_)
  refine RW_op (L_fieldAddr FA_134_5 rfl ?_)
  refine RW_op (L_ld (V := .int .u64 y.count) S1_92 hs 1 rfl rfl rfl ?_)
  refine RW_op (L_neq rfl rfl ?_)
  refine RW_nil ?_
  refine W_cond (t := !decide (x.count = y.count)) rfl (fun c5 => ?_) (fun c5 => ?_)
  ·
    replace c5 := not_t c5
    replace c5 := of_decide_eq_false c5
    refine W_seq ?_
    refine W_region ?_
    refine RW_op (L_fieldAddr FA_134_5 rfl ?_)
    refine RW_op (L_ld (V := .int .u64 x.count) S1_92 hs 0 rfl rfl rfl ?_)
    refine RW_op (L_fieldAddr FA_134_5 rfl ?_)
    refine RW_op (L_ld (V := .int .u64 y.count) S1_92 hs 1 rfl rfl rfl ?_)
    refine RW_op (L_lss rfl rfl ?_)
    refine RW_op (L_assign (V := .bool (decide (x.count < y.count))) rfl ?_)
    refine RW_nil ?_
    refine W_ret ?_
    refine ⟨_, res_one (V := .bool (decide (x.count < y.count))) Try.results112 rfl, ?_⟩
    refine ⟨congrArg Ending.returned ?_, hs.take 0⟩
    unfold lessC; rw [if_neg c5]
  ·
    replace c5 := not_f c5
    replace c5 := of_decide_eq_true c5
    refine W_skip ?_
    refine W_seq ?_
    refine W_seq ?_
    refine W_region ?_
    refine RW_op (L_fieldAddr FA_134_4 rfl ?_)
    refine RW_op (L_fieldAddr FA_96_0 rfl ?_)
    refine RW_op (L_ld (V := .int .u8 x.dot.rep) S1_5 hs 0 rfl rfl rfl ?_)
    refine RW_op (L_fieldAddr FA_134_4 rfl ?_)
    refine RW_op (L_fieldAddr FA_96_0 rfl ?_)
    refine RW_op (L_ld (V := .int .u8 y.dot.rep) S1_5 hs 1 rfl rfl rfl ?_)
    refine RW_op (L_neq rfl rfl ?_)
    refine RW_nil ?_
    refine W_cond (t := !decide (x.dot.rep = y.dot.rep)) rfl (fun c6 => ?_) (fun c6 => ?_)
    ·
      replace c6 := not_t c6
      replace c6 := of_decide_eq_false c6
      refine W_seq ?_
      refine W_region ?_
      refine RW_op (L_fieldAddr FA_134_4 rfl ?_)
      refine RW_op (L_fieldAddr FA_96_0 rfl ?_)
      refine RW_op (L_ld (V := .int .u8 x.dot.rep) S1_5 hs 0 rfl rfl rfl ?_)
      refine RW_op (L_fieldAddr FA_134_4 rfl ?_)
      refine RW_op (L_fieldAddr FA_96_0 rfl ?_)
      refine RW_op (L_ld (V := .int .u8 y.dot.rep) S1_5 hs 1 rfl rfl rfl ?_)
      refine RW_op (L_lss rfl rfl ?_)
      refine RW_op (L_assign (V := .bool (decide (x.dot.rep < y.dot.rep))) rfl ?_)
      refine RW_nil ?_
      refine W_ret ?_
      refine ⟨_, res_one (V := .bool (decide (x.dot.rep < y.dot.rep))) Try.results112 rfl, ?_⟩
      refine ⟨congrArg Ending.returned ?_, hs.take 0⟩
      unfold lessC; rw [if_pos c5, if_neg c6]
    ·
      replace c6 := not_f c6
      replace c6 := of_decide_eq_true c6
      refine W_skip ?_
      refine W_seq ?_
      refine W_region ?_
      refine RW_op (L_fieldAddr FA_134_4 rfl ?_)
      refine RW_op (L_fieldAddr FA_96_1 rfl ?_)
      refine RW_op (L_ld (V := .int .u32 x.dot.seq) S1_51 hs 0 rfl rfl rfl ?_)
      refine RW_op (L_fieldAddr FA_134_4 rfl ?_)
      refine RW_op (L_fieldAddr FA_96_1 rfl ?_)
      refine RW_op (L_ld (V := .int .u32 y.dot.seq) S1_51 hs 1 rfl rfl rfl ?_)
      refine RW_op (L_lss rfl rfl ?_)
      refine RW_op (L_assign (V := .bool (decide (x.dot.seq < y.dot.seq))) rfl ?_)
      refine RW_nil ?_
      refine W_ret ?_
      refine ⟨_, res_one (V := .bool (decide (x.dot.seq < y.dot.seq))) Try.results112 rfl, ?_⟩
      refine ⟨congrArg Ending.returned ?_, hs.take 0⟩
      unfold lessC; rw [if_pos c5, if_pos c6]
set_option maxRecDepth 20000 in
set_option maxHeartbeats 4000000 in
theorem rqty_ok (w : World) (s : Sta) (a1 : Option Addr) (c1 : Nat) (a2 : Option Addr) (c2 : Nat) (c n : Int) (hE0 : ∀ e ∈ s.ents, CenOk e) (hr1 : Rd w (.slice a1 s.ents.length c1) 7 (s.ents.map cec)) (hr2 : Rd w (.slice a2 s.ticks.length c2) 2 (s.ticks.map lsc)) : Calls Try.prog 76 #[.agg ((vc s.known) ++ [(.slice a1 s.ents.length c1 : Value), (.slice a2 s.ticks.length c2 : Value) ]).toArray, .int .u16 c, .int .i64 n] w (fun e w' => e = .returned (.tuple #[.int .u32 (qtyL (ofItem s c n)), .bool (hasI s c n)]) ∧ Own w no w' []) := by
  refine calls_of_Wn (n := 74) Try.func76 rfl Try.ntmps76 rfl ?_
  have hs := Own.start w
  have hn1 := hr1.sml
  refine W_seq ?_
  refine W_region ?_
  refine RW_op (L_box (V := .agg ((vc s.known) ++ [(.slice a1 s.ents.length c1 : Value), (.slice a2 s.ticks.length c2 : Value) ]).toArray) (cs := (vc s.known) ++ [(.slice a1 s.ents.length c1 : Value), (.slice a2 s.ticks.length c2 : Value) ]) rfl rfl hs fun b1 w2 hs => ?_)
  refine RW_op (L_assign (V := .int .u32 0) rfl ?_)
  refine RW_op (L_assign (V := .bool false) rfl ?_)
  refine RW_nil ?_
  refine W_seq ?_
  refine W_region ?_
  refine RW_op (L_assign (V := .int .u32 0) rfl ?_)
  refine RW_op (L_assign (V := .int .i64 (-1)) rfl ?_)
  refine RW_op (L_assign (V := .bool false) rfl ?_)
  refine RW_nil ?_
  refine W_seq ?_
  refine W_seq ?_
  refine W_region ?_
  refine RW_op (L_assign (V := .int .i64 0) rfl ?_)
  refine RW_nil ?_
  refine W_block ?_
  refine W_loopI (fun ρ μ ρ' w' => ∃ (ρo : Env) (k : Nat) (sm : Int) (bi : Int) (av : Bool), ρ' = upd (upd (upd (upd (mix [8, 9, 10, 11, 12, 13, 14, 15, 16, 17, 18, 19, 20, 21, 22, 23, 24, 25, 26, 27, 28, 29, 30, 31, 32, 33, 34, 35, 36, 37, 38, 39, 40, 41, 42, 43, 44, 45, 46, 47, 48, 49, 50, 51, 52, 53, 54, 55, 56, 57, 58, 59, 60] ρo ρ) 11 (.int .i64 ((k : Nat) : Int))) 8 (.int .u32 sm)) 9 (.int .i64 bi)) 10 (.bool av) ∧ (k ≤ s.ents.length) ∧ (sm = sumE (ofK s c n k)) ∧ (BestI s c n k bi) ∧ (av = (s.ents.take k).any (itP c n)) ∧ μ = s.ents.length - k ∧ Own w no w' [blk b1 ((vc s.known) ++ [(.slice a1 s.ents.length c1 : Value), (.slice a2 s.ticks.length c2 : Value) ]) 57]) ?_ ?_
  · exact ⟨_, _, 0, 0, -1, false, upd_of (upd_of (upd_of (upd_of (mix_of (ds := [8, 9, 10, 11, 12, 13, 14, 15, 16, 17, 18, 19, 20, 21, 22, 23, 24, 25, 26, 27, 28, 29, 30, 31, 32, 33, 34, 35, 36, 37, 38, 39, 40, 41, 42, 43, 44, 45, 46, 47, 48, 49, 50, 51, 52, 53, 54, 55, 56, 57, 58, 59, 60]) (Agr.refl _ _)) rfl) rfl) rfl) rfl, (by omega), rfl, (.inl ⟨rfl, rfl⟩), rfl, rfl, hs⟩
  · rintro μ ρ' w3 ⟨ρo, k, sm, bi, av, rfl, hk, hsm, hbi, hav, rfl, hs⟩
    have hbb := best_b hbi hk
    refine W_seq ?_
    refine W_seq ?_
    refine W_region ?_
    refine RW_op (L_move (V := .int .i64 ((k : Nat) : Int)) rfl ?_)
    refine RW_op (L_fieldAddr FA_57_1 rfl ?_)
    refine RW_op (L_ld (V := .slice a1 s.ents.length c1) S1_54 hs 0 rfl rfl rfl ?_)
    refine RW_op (L_lenR (n := s.ents.length) UD_54 (Rd.own' hr1 hs) (by simp) rfl ?_)
    refine RW_op (L_lss rfl rfl ?_)
    refine RW_nil ?_
    refine W_cond (t := decide (((k : Nat) : Int) < ((s.ents.length : Nat) : Int))) rfl (fun c4 => ?_) (fun c4 => ?_)
    ·
      replace c4 := of_decide_eq_true c4
      refine W_skip ?_
      refine W_seq ?_
      refine W_block ?_
      refine W_seq ?_
      refine W_region ?_
      refine RW_op (L_fieldAddr FA_57_1 rfl ?_)
      refine RW_op (L_ld (V := .slice a1 s.ents.length c1) S1_54 hs 0 rfl rfl rfl ?_)
      refine RW_op (L_move (V := .int .i64 ((k : Nat) : Int)) rfl ?_)
      refine RW_op (L_ixR UD_54 SA_134.1 (Rd.own' hr1 hs) rfl rfl (by omega) (by rw [List.length_map]; omega) ?_)
      refine RW_op (L_ldRA (j := 0) (vs := cec (gd s.ents k)) k SA_134 (Rd.own' hr1 hs) (gd_at (by omega)) rfl rfl rfl (by omega) ?_)
      refine RW_op (L_alloc (cs := cec (⟨0, 0, 0, 0, (⟨0, 0⟩ : Dot), 0⟩ : Cen)) ZV_134 rfl hs fun b5 w6 hs => ?_)
      refine RW_op (L_st (V := .agg (cec (gd s.ents k)).toArray) (vs := cec (gd s.ents k)) (cs' := cec (gd s.ents k)) SA_134.1 hs 1 rfl rfl rfl rfl rfl (Nat.le_of_ble_eq_true rfl) (cec_one _) (spl_whole rfl) fun w7 hs => ?_)
      refine RW_nil ?_
      refine W_seq ?_
      refine W_seq ?_
      have hce := hE0 _ (gd_mem (l := s.ents) (i := k) (by omega))
      have ⟨_, ⟨hi1, hi2⟩, ⟨hq1, hq2⟩, _⟩ := hce
      refine W_regO [some 25, some 26, some 27, some 28, some 29, some 30, some 31, some 32, some 33, some 34, some 35, some 36, some 37, some 38, some 39, some 40] [] [0, 1, 0, 7, 15, 31, 63, 127, 31, 511, 1023, 2047, 4095, 8191, 16383, 32767] [pv (.pointer (some ⟨b5, 0 + 0, none⟩)), pv (.int .u16 ((gd s.ents k).cart)), pv (.int .u16 c), pv (.bool (!decide ((gd s.ents k).cart = c))), pv (.bool (!decide ((gd s.ents k).cart = c))), pg ((!decide ((gd s.ents k).cart = c)) == false) (.pointer (some ⟨b5, 0 + 1, none⟩)), pg ((!decide ((gd s.ents k).cart = c)) == false) (.int .u16 ((gd s.ents k).item)), pg ((!decide ((gd s.ents k).cart = c)) == false) (.int .i64 ((gd s.ents k).item)), pg ((!decide ((gd s.ents k).cart = c)) == false) (.int .i64 n), pg ((!decide ((gd s.ents k).cart = c)) == false) (.bool (!decide ((gd s.ents k).item = n))), pv (.bool ((!decide ((gd s.ents k).cart = c)) || (!decide ((gd s.ents k).item = n)))), pv (.bool ((!decide ((gd s.ents k).cart = c)) || (!decide ((gd s.ents k).item = n)))), pg (((!decide ((gd s.ents k).cart = c)) || (!decide ((gd s.ents k).item = n))) == false) (.pointer (some ⟨b5, 0 + 3, none⟩)), pg (((!decide ((gd s.ents k).cart = c)) || (!decide ((gd s.ents k).item = n))) == false) (.int .u8 ((gd s.ents k).kind)), pg (((!decide ((gd s.ents k).cart = c)) || (!decide ((gd s.ents k).item = n))) == false) (.bool (decide ((gd s.ents k).kind = 4))), pv (.bool (((!decide ((gd s.ents k).cart = c)) || (!decide ((gd s.ents k).item = n))) || (decide ((gd s.ents k).kind = 4))))] (fun _ _ => _) [15] (by kernel_rfl) hs ⟨?_, ?_, ?_, ?_, ?_, ?_, ?_, ?_, ?_, ?_, ?_, ?_, ?_, ?_, ?_, ?_, trivial⟩ ?_
      · exact ob [] [] rfl rfl fun D ρ w hs => L_fieldAddr FA_134_0 rfl ⟨rfl, hs⟩
      · exact ob [0] [] rfl rfl fun D ρ w hs => L_ld (V := .int .u16 ((gd s.ents k).cart)) S1_70 hs 1 rfl rfl rfl ⟨rfl, hs⟩
      · exact ob [] [] rfl rfl fun D ρ w hs => L_move (V := .int .u16 c) rfl ⟨rfl, hs⟩
      · exact ob [1, 2] [] rfl rfl fun D ρ w hs => L_neq rfl rfl ⟨rfl, hs⟩
      · exact ob [3] [] rfl rfl fun D ρ w hs => L_move (V := .bool (!decide ((gd s.ents k).cart = c))) rfl ⟨rfl, hs⟩
      · exact obg [4] [] (!decide ((gd s.ents k).cart = c)) rfl (fun _ => rfl) rfl (fun _ _ _ _ h => h) fun D ρ w hG hs => L_fieldAddr FA_134_1 rfl ⟨rfl, hs⟩
      · exact obgy [4, 5] [] [5] (!decide ((gd s.ents k).cart = c)) rfl (fun _ => rfl) rfl (fun _ _ _ _ h => h) (fun hG => ⟨hG, trivial⟩) fun D ρ w hG hs => L_ld (V := .int .u16 ((gd s.ents k).item)) S1_70 hs 1 rfl rfl rfl ⟨rfl, hs⟩
      · exact obgy [4, 6] [] [6] (!decide ((gd s.ents k).cart = c)) rfl (fun _ => rfl) rfl (fun _ _ _ _ h => h) (fun hG => ⟨hG, trivial⟩) fun D ρ w hG hs => L_conv UD_70 UD_3 rfl (wr_i64 (by omega) (by omega)) ⟨rfl, hs⟩
      · exact obg [4] [] (!decide ((gd s.ents k).cart = c)) rfl (fun _ => rfl) rfl (fun _ _ _ _ h => h) fun D ρ w hG hs => L_move (V := .int .i64 n) rfl ⟨rfl, hs⟩
      · exact obgy [4, 7, 8] [] [7, 8] (!decide ((gd s.ents k).cart = c)) rfl (fun _ => rfl) rfl (fun _ _ _ _ h => h) (fun hG => ⟨hG, hG, trivial⟩) fun D ρ w hG hs => L_neq rfl rfl ⟨rfl, hs⟩
      · exact ob [4, 9] [] rfl rfl fun D ρ w hs => L_orC (h' := !decide ((gd s.ents k).item = n)) rfl rfl rfl ⟨rfl, hs⟩
      · exact ob [10] [] rfl rfl fun D ρ w hs => L_move (V := .bool ((!decide ((gd s.ents k).cart = c)) || (!decide ((gd s.ents k).item = n)))) rfl ⟨rfl, hs⟩
      · exact obg [11] [] ((!decide ((gd s.ents k).cart = c)) || (!decide ((gd s.ents k).item = n))) rfl (fun _ => rfl) rfl (fun _ _ _ _ h => h) fun D ρ w hG hs => L_fieldAddr FA_134_3 rfl ⟨rfl, hs⟩
      · exact obgy [11, 12] [] [12] ((!decide ((gd s.ents k).cart = c)) || (!decide ((gd s.ents k).item = n))) rfl (fun _ => rfl) rfl (fun _ _ _ _ h => h) (fun hG => ⟨hG, trivial⟩) fun D ρ w hG hs => L_ld (V := .int .u8 ((gd s.ents k).kind)) S1_5 hs 1 rfl rfl rfl ⟨rfl, hs⟩
      · exact obgy [11, 13] [] [13] ((!decide ((gd s.ents k).cart = c)) || (!decide ((gd s.ents k).item = n))) rfl (fun _ => rfl) rfl (fun _ _ _ _ h => h) (fun hG => ⟨hG, trivial⟩) fun D ρ w hG hs => L_eql rfl rfl ⟨rfl, hs⟩
      · exact ob [11, 14] [] rfl rfl fun D ρ w hs => L_orC (h' := decide ((gd s.ents k).kind = 4)) rfl rfl rfl ⟨rfl, hs⟩
      rintro ρ1 w8 ρ2 hρ hs
      replace hρ : ρ2 = upd (mix [25, 26, 27, 28, 29, 30, 31, 32, 33, 34, 35, 36, 37, 38, 39, 40] ρ1 _) 40 (.bool (((!decide ((gd s.ents k).cart = c)) || (!decide ((gd s.ents k).item = n))) || (decide ((gd s.ents k).kind = 4)))) := hρ
      subst hρ
      refine W_cond (t := ((!decide ((gd s.ents k).cart = c)) || (!decide ((gd s.ents k).item = n))) || (decide ((gd s.ents k).kind = 4))) rfl (fun c9 => ?_) (fun c9 => ?_)
      ·
        refine W_exit ?_
        refine W_region ?_
        refine RW_op (L_move (V := .int .i64 ((k : Nat) : Int)) rfl ?_)
        refine RW_op (L_add (a := ((k : Nat) : Int)) (b := 1) (c := ((k + 1 : Nat) : Int)) rfl rfl (nat_i64 (by omega) (by omega)) ?_)
        refine RW_op (L_assign (V := .int .i64 ((k + 1 : Nat) : Int)) rfl ?_)
        refine RW_nil ?_
        have hit : itP c n (gd s.ents k) = false := by
          have hq := c9
          unfold itP
          revert hq
          cases decide ((gd s.ents k).cart = c) <;> cases decide ((gd s.ents k).item = n) <;> cases decide ((gd s.ents k).kind = 4) <;> simp
        refine ⟨_, ?_, _, k + 1, sm, bi, av, upd_of (upd_of (upd_of (upd_of (mix_of (ds := [8, 9, 10, 11, 12, 13, 14, 15, 16, 17, 18, 19, 20, 21, 22, 23, 24, 25, 26, 27, 28, 29, 30, 31, 32, 33, 34, 35, 36, 37, 38, 39, 40, 41, 42, 43, 44, 45, 46, 47, 48, 49, 50, 51, 52, 53, 54, 55, 56, 57, 58, 59, 60]) (by repeat (first | exact Agr.refl _ _ | refine Agr.upd ?_ rfl | refine Agr.mix ?_ rfl))) rfl) rfl) rfl) rfl, (by omega), (by rw [ofK_no (by omega) hit]; exact hsm), (best_skip hbi (by omega) hit), (by rw [← anyT_next (p := itP c n) hav (by omega), hit, Bool.or_false]), rfl, hs.take 1⟩
        omega
      ·
        have c9r := or_r c9
        replace c9 := or_l c9
        have c9rr := or_r c9
        replace c9 := or_l c9
        replace c9 := not_f c9
        replace c9 := of_decide_eq_true c9
        replace c9rr := not_f c9rr
        replace c9rr := of_decide_eq_true c9rr
        replace c9r := of_decide_eq_false c9r
        refine W_skip ?_
        refine W_seq ?_
        refine W_region ?_
        refine RW_op (L_assign (V := .bool true) rfl ?_)
        refine RW_nil ?_
        refine W_seq ?_
        refine W_region ?_
        refine RW_op (L_fieldAddr FA_134_3 rfl ?_)
        refine RW_op (L_ld (V := .int .u8 ((gd s.ents k).kind)) S1_5 hs 1 rfl rfl rfl ?_)
        refine RW_op (L_eql rfl rfl ?_)
        refine RW_nil ?_
        refine W_cond (t := decide ((gd s.ents k).kind = 1)) rfl (fun c10 => ?_) (fun c10 => ?_)
        ·
          replace c10 := of_decide_eq_true c10
          refine W_region ?_
          refine RW_op (L_move (V := .int .u32 sm) rfl ?_)
          refine RW_op (L_fieldAddr FA_134_2 rfl ?_)
          refine RW_op (L_ld (V := .int .u16 ((gd s.ents k).qty)) S1_70 hs 1 rfl rfl rfl ?_)
          refine RW_op (L_conv UD_70 UD_51 rfl (wr_u32 (by omega) (by omega)) ?_)
          refine RW_op (L_add (a := sm) (b := (gd s.ents k).qty) (c := (sm + ((gd s.ents k).qty)) % 4294967296) rfl rfl (wm_u32 _) ?_)
          refine RW_op (L_assign (V := .int .u32 ((sm + ((gd s.ents k).qty)) % 4294967296)) rfl ?_)
          refine RW_nil ?_
          refine W_region ?_
          refine RW_op (L_move (V := .int .i64 ((k : Nat) : Int)) rfl ?_)
          refine RW_op (L_add (a := ((k : Nat) : Int)) (b := 1) (c := ((k + 1 : Nat) : Int)) rfl rfl (nat_i64 (by omega) (by omega)) ?_)
          refine RW_op (L_assign (V := .int .i64 ((k + 1 : Nat) : Int)) rfl ?_)
          refine RW_nil ?_
          have hit : itP c n (gd s.ents k) = true := by
            unfold itP
            rw [decide_eq_true c9, decide_eq_true c9rr, decide_eq_false c9r]; rfl
          refine ⟨_, ?_, _, k + 1, (sm + ((gd s.ents k).qty)) % 4294967296, bi, true, upd_of (upd_of (upd_of (upd_of (mix_of (ds := [8, 9, 10, 11, 12, 13, 14, 15, 16, 17, 18, 19, 20, 21, 22, 23, 24, 25, 26, 27, 28, 29, 30, 31, 32, 33, 34, 35, 36, 37, 38, 39, 40, 41, 42, 43, 44, 45, 46, 47, 48, 49, 50, 51, 52, 53, 54, 55, 56, 57, 58, 59, 60]) (by repeat (first | exact Agr.refl _ _ | refine Agr.upd ?_ rfl | refine Agr.mix ?_ rfl))) rfl) rfl) rfl) rfl, (by omega), (sum_yes hsm (by omega) hit c10), (best_add hbi (by omega) hit c10), (by rw [← anyT_next (p := itP c n) hav (by omega), hit, Bool.or_true]), rfl, hs.take 1⟩
          omega
        ·
          replace c10 := of_decide_eq_false c10
          refine W_seq ?_
          refine W_regD HM [some 49, some 50, some 51, some 52, some 53, some 54, some 55, some 56, some 57, some 58, some 59] [] [0, 1, 3, 7, 15, 7, 63, 127, 7, 511, 1023] [pv (.int .i64 bi), pv (.bool (decide (bi < 0))), pv (.bool (decide (bi < 0))), pg ((decide (bi < 0)) == false) (.pointer (some ⟨b1, 0 + 16, none⟩)), pg ((decide (bi < 0)) == false) (.slice a1 s.ents.length c1), pg ((decide (bi < 0)) == false) (.int .i64 bi), pg ((decide (bi < 0)) == false) (.pointer (some ⟨bkS (.slice a1 s.ents.length c1), ofS (.slice a1 s.ents.length c1) + bi.toNat * 7, none⟩)), pg ((decide (bi < 0)) == false) (.agg (cec (gd s.ents bi.toNat)).toArray), pg ((decide (bi < 0)) == false) (.agg (cec (gd s.ents k)).toArray), pg ((decide (bi < 0)) == false) (.bool (lessC (gd s.ents bi.toNat) (gd s.ents k))), pv (.bool ((decide (bi < 0)) || (lessC (gd s.ents bi.toNat) (gd s.ents k))))] (fun _ _ => _) [10] (by kernel_rfl) hs ⟨?_, ?_, ?_, ?_, ?_, ?_, ?_, ?_, ?_, ?_, ?_, trivial⟩ ?_
          · exact ob [] [] rfl rfl fun D ρ w hs => L_move (V := .int .i64 bi) rfl ⟨rfl, hs⟩
          · exact ob [0] [] rfl rfl fun D ρ w hs => L_lss rfl rfl ⟨rfl, hs⟩
          · exact ob [1] [] rfl rfl fun D ρ w hs => L_move (V := .bool (decide (bi < 0))) rfl ⟨rfl, hs⟩
          · exact obg [2] [] (decide (bi < 0)) rfl (fun _ => rfl) rfl (fun _ _ _ _ h => h) fun D ρ w hG hs => L_fieldAddr FA_57_1 rfl ⟨rfl, hs⟩
          · exact obgy [2, 3] [] [3] (decide (bi < 0)) rfl (fun _ => rfl) rfl (fun _ _ _ _ h => h) (fun hG => ⟨hG, trivial⟩) fun D ρ w hG hs => L_ld (V := .slice a1 s.ents.length c1) S1_54 hs 0 rfl rfl rfl ⟨rfl, hs⟩
          · exact obg [2] [] (decide (bi < 0)) rfl (fun _ => rfl) rfl (fun _ _ _ _ h => h) fun D ρ w hG hs => L_move (V := .int .i64 bi) rfl ⟨rfl, hs⟩
          · refine obgy [2, 4, 5] [] [4, 5] (decide (bi < 0)) rfl (fun _ => rfl) rfl (fun _ _ _ _ h => h) (fun hG => ⟨hG, hG, trivial⟩) fun D ρ w hG hs => ?_
            have hgd := of_decide_eq_false (eq_of_beq (hG))
            exact L_ixR UD_54 SA_134.1 (Rd.own' hr1 hs) rfl rfl (by omega) (by rw [List.length_map]; omega) ⟨rfl, hs⟩
          · refine obgy [2, 6] [] [6] (decide (bi < 0)) rfl (fun _ => rfl) rfl (fun _ _ _ _ h => h) (fun hG => ⟨hG, trivial⟩) fun D ρ w hG hs => ?_
            have hgd := of_decide_eq_false (eq_of_beq (hG))
            exact L_ldRA (j := 0) (vs := cec (gd s.ents bi.toNat)) bi.toNat SA_134 (Rd.own' hr1 hs) (gd_at (by omega)) rfl rfl rfl (by omega) ⟨rfl, hs⟩
          · exact obg [2] [] (decide (bi < 0)) rfl (fun _ => rfl) rfl (fun _ _ _ _ h => h) fun D ρ w hG hs => L_ldW (cs := cec (gd s.ents k)) SA_134 hs 1 rfl rfl rfl ⟨rfl, hs⟩
          · exact obgy [2, 7, 8] [] [7, 8] (decide (bi < 0)) rfl (fun _ => rfl) rfl (fun _ _ _ _ h => h) (fun hG => ⟨hG, hG, trivial⟩) fun D ρ w hG hs => L_callP (vs := [.agg (cec (gd s.ents bi.toNat)).toArray, .agg (cec (gd s.ents k)).toArray]) (V := .bool (lessC (gd s.ents bi.toNat) (gd s.ents k))) EN_112 rfl rfl (less8_ok _ (gd s.ents bi.toNat) (gd s.ents k)) hs fun _ hs => ⟨rfl, hs⟩
          · exact ob [2, 9] [] rfl rfl fun D ρ w hs => L_orC (h' := lessC (gd s.ents bi.toNat) (gd s.ents k)) rfl rfl rfl ⟨rfl, hs⟩
          rintro ρ1 w12 ρ2 hρ hs
          replace hρ : ρ2 = upd (mix [49, 50, 51, 52, 53, 54, 55, 56, 57, 58, 59] ρ1 _) 59 (.bool ((decide (bi < 0)) || (lessC (gd s.ents bi.toNat) (gd s.ents k)))) := hρ
          subst hρ
          refine W_cond (t := (decide (bi < 0)) || (lessC (gd s.ents bi.toNat) (gd s.ents k))) rfl (fun c13 => ?_) (fun c13 => ?_)
          ·
            refine W_region ?_
            refine RW_op (L_move (V := .int .i64 ((k : Nat) : Int)) rfl ?_)
            refine RW_op (L_assign (V := .int .i64 ((k : Nat) : Int)) rfl ?_)
            refine RW_nil ?_
            refine W_region ?_
            refine RW_op (L_move (V := .int .i64 ((k : Nat) : Int)) rfl ?_)
            refine RW_op (L_add (a := ((k : Nat) : Int)) (b := 1) (c := ((k + 1 : Nat) : Int)) rfl rfl (nat_i64 (by omega) (by omega)) ?_)
            refine RW_op (L_assign (V := .int .i64 ((k + 1 : Nat) : Int)) rfl ?_)
            refine RW_nil ?_
            have hit : itP c n (gd s.ents k) = true := by
              unfold itP
              rw [decide_eq_true c9, decide_eq_true c9rr, decide_eq_false c9r]; rfl
            refine ⟨_, ?_, _, k + 1, sm, ((k : Nat) : Int), true, upd_of (upd_of (upd_of (upd_of (mix_of (ds := [8, 9, 10, 11, 12, 13, 14, 15, 16, 17, 18, 19, 20, 21, 22, 23, 24, 25, 26, 27, 28, 29, 30, 31, 32, 33, 34, 35, 36, 37, 38, 39, 40, 41, 42, 43, 44, 45, 46, 47, 48, 49, 50, 51, 52, 53, 54, 55, 56, 57, 58, 59, 60]) (by repeat (first | exact Agr.refl _ _ | refine Agr.upd ?_ rfl | refine Agr.mix ?_ rfl))) rfl) rfl) rfl) rfl, (by omega), (sum_no hsm (by omega) hit c10), (best_take hbi (by omega) hit c10 c13), (by rw [← anyT_next (p := itP c n) hav (by omega), hit, Bool.or_true]), rfl, hs.take 1⟩
            omega
          ·
            have c13r := or_r c13
            replace c13 := or_l c13
            replace c13 := of_decide_eq_false c13
            refine W_skip ?_
            refine W_region ?_
            refine RW_op (L_move (V := .int .i64 ((k : Nat) : Int)) rfl ?_)
            refine RW_op (L_add (a := ((k : Nat) : Int)) (b := 1) (c := ((k + 1 : Nat) : Int)) rfl rfl (nat_i64 (by omega) (by omega)) ?_)
            refine RW_op (L_assign (V := .int .i64 ((k + 1 : Nat) : Int)) rfl ?_)
            refine RW_nil ?_
            have hit : itP c n (gd s.ents k) = true := by
              unfold itP
              rw [decide_eq_true c9, decide_eq_true c9rr, decide_eq_false c9r]; rfl
            refine ⟨_, ?_, _, k + 1, sm, bi, true, upd_of (upd_of (upd_of (upd_of (mix_of (ds := [8, 9, 10, 11, 12, 13, 14, 15, 16, 17, 18, 19, 20, 21, 22, 23, 24, 25, 26, 27, 28, 29, 30, 31, 32, 33, 34, 35, 36, 37, 38, 39, 40, 41, 42, 43, 44, 45, 46, 47, 48, 49, 50, 51, 52, 53, 54, 55, 56, 57, 58, 59, 60]) (by repeat (first | exact Agr.refl _ _ | refine Agr.upd ?_ rfl | refine Agr.mix ?_ rfl))) rfl) rfl) rfl) rfl, (by omega), (sum_no hsm (by omega) hit c10), (best_keep hbi (by omega) hit c10 (by rw [decide_eq_false c13, c13r]; rfl)), (by rw [← anyT_next (p := itP c n) hav (by omega), hit, Bool.or_true]), rfl, hs.take 1⟩
            omega
    ·
      replace c4 := of_decide_eq_false c4
      refine W_exit ?_
      refine W_seq ?_
      refine W_seq ?_
      have hbb := best_b hbi hk
      refine W_region ?_
      refine RW_op (L_move (V := .int .i64 bi) rfl ?_)
      refine RW_op (L_geq rfl rfl ?_)
      refine RW_nil ?_
      refine W_cond (t := decide (0 ≤ bi)) rfl (fun c14 => ?_) (fun c14 => ?_)
      ·
        replace c14 := of_decide_eq_true c14
        have ⟨hq1, hq2⟩ := (hE0 _ (gd_mem (l := s.ents) (i := bi.toNat) (by omega))).2.2.1
        refine W_region ?_
        refine RW_op (L_move (V := .int .u32 sm) rfl ?_)
        refine RW_op (L_fieldAddr FA_57_1 rfl ?_)
        refine RW_op (L_ld (V := .slice a1 s.ents.length c1) S1_54 hs 0 rfl rfl rfl ?_)
        refine RW_op (L_move (V := .int .i64 bi) rfl ?_)
        refine RW_op (L_ixR UD_54 SA_134.1 (Rd.own' hr1 hs) rfl rfl (by omega) (by rw [List.length_map]; omega) ?_)
        refine RW_op (L_fieldAddr FA_134_2 rfl ?_)
        refine RW_op (L_ldR (j := 2) (V := .int .u16 ((gd s.ents bi.toNat).qty)) bi.toNat S1_70 (Rd.own' hr1 hs) (gd_at (by omega)) rfl rfl (by omega) ?_)
        refine RW_op (L_conv UD_70 UD_51 rfl (wr_u32 (by omega) (by omega)) ?_)
        refine RW_op (L_add (a := sm) (b := (gd s.ents bi.toNat).qty) (c := (sm + ((gd s.ents bi.toNat).qty)) % 4294967296) rfl rfl (wm_u32 _) ?_)
        refine RW_op (L_assign (V := .int .u32 ((sm + ((gd s.ents bi.toNat).qty)) % 4294967296)) rfl ?_)
        refine RW_nil ?_
        refine W_seq ?_
        refine W_region ?_
        refine RW_op (L_move (V := .int .u32 ((sm + ((gd s.ents bi.toNat).qty)) % 4294967296)) rfl ?_)
        refine RW_op (L_move (V := .bool av) rfl ?_)
        refine RW_op (L_assign (V := .int .u32 ((sm + ((gd s.ents bi.toNat).qty)) % 4294967296)) rfl ?_)
        refine RW_op (L_assign (V := .bool av) rfl ?_)
        refine RW_nil ?_
        refine W_ret ?_
        refine ⟨_, res_two (U := .int .u32 ((sm + ((gd s.ents bi.toNat).qty)) % 4294967296)) (V := .bool av) Try.results76 rfl rfl, ?_⟩
        have hA : av = hasI s c n := by rw [hav, List.take_of_length_le (by omega)]; rfl
        have hQ := qty_some hsm hbi (by omega) c14
        refine ⟨congrArg Ending.returned ?_, hs.take 0⟩
        rw [hQ, hA]
      ·
        replace c14 := of_decide_eq_false c14
        refine W_skip ?_
        refine W_seq ?_
        refine W_region ?_
        refine RW_op (L_move (V := .int .u32 sm) rfl ?_)
        refine RW_op (L_move (V := .bool av) rfl ?_)
        refine RW_op (L_assign (V := .int .u32 sm) rfl ?_)
        refine RW_op (L_assign (V := .bool av) rfl ?_)
        refine RW_nil ?_
        refine W_ret ?_
        refine ⟨_, res_two (U := .int .u32 sm) (V := .bool av) Try.results76 rfl rfl, ?_⟩
        have hA : av = hasI s c n := by rw [hav, List.take_of_length_le (by omega)]; rfl
        have hQ := qty_none hE0 hsm hbi (by omega) c14
        refine ⟨congrArg Ending.returned ?_, hs.take 0⟩
        rw [hQ, hA]
end Tt
end Go.Proofs
namespace Go.Proofs
open Go Go.Vx Go.RowKit
namespace Tt
set_option maxRecDepth 20000 in
set_option maxHeartbeats 4000000 in
theorem rView8_ok (w : World) (s : Sta) (a1 : Option Addr) (c1 : Nat) (a2 : Option Addr) (c2 : Nat) (c : Int) (hok : StaOk s) (hr1 : Rd w (.slice a1 s.ents.length c1) 7 (s.ents.map cec)) (hr2 : Rd w (.slice a2 s.ticks.length c2) 2 (s.ticks.map lsc)) : Calls Try.prog 35 #[.agg ((vc s.known) ++ [(.slice a1 s.ents.length c1 : Value), (.slice a2 s.ticks.length c2 : Value) ]).toArray, .int .u16 c] w (fun e w' => ∃ x : Option Addr × Nat, e = .returned (.agg [.int .u16 (viewC s c (rightS s)).cart, .slice x.1 (viewC s c (rightS s)).lines.length x.2, .bool (viewC s c (rightS s)).out, .int .u32 (viewC s c (rightS s)).tick].toArray) ∧ Own w no w' [row (.slice x.1 (viewC s c (rightS s)).lines.length x.2) ((viewC s c (rightS s)).lines.map lc) 102 2] ∧ True) := by
  refine calls_of_Wn (n := 118) Try.func35 rfl Try.ntmps35 rfl ?_
  have hs := Own.start w
  have ⟨hv0, hE0, hT0⟩ := hok
  have hn1 := hr1.sml
  refine W_seq ?_
  refine W_region ?_
  refine RW_op (L_box (V := .agg ((vc s.known) ++ [(.slice a1 s.ents.length c1 : Value), (.slice a2 s.ticks.length c2 : Value) ]).toArray) (cs := (vc s.known) ++ [(.slice a1 s.ents.length c1 : Value), (.slice a2 s.ticks.length c2 : Value) ]) rfl rfl hs fun b1 w2 hs => ?_)
  refine RW_op (L_alloc (cs := [.int .u16 0, .slice none 0 0, .bool false, .int .u32 0]) ZV_74 rfl hs fun b3 w4 hs => ?_)
  refine RW_nil ?_
  refine W_seq ?_
  refine W_region ?_
  refine RW_op (L_move (V := .int .u16 c) rfl ?_)
  refine RW_op (L_build (vs := [(0, .int .u16 c)]) (cs := [.int .u16 c, .slice none 0 0, .bool false, .int .u32 0]) BT_74 (rfl) rfl ?_)
  refine RW_op (L_alloc (cs := [.int .u16 0, .slice none 0 0, .bool false, .int .u32 0]) ZV_74 rfl hs fun b5 w6 hs => ?_)
  refine RW_op (L_st (V := .agg #[.int .u16 c, .slice none 0 0, .bool false, .int .u32 0]) (vs := [.int .u16 c, .slice none 0 0, .bool false, .int .u32 0]) (cs' := [.int .u16 c, .slice none 0 0, .bool false, .int .u32 0]) SA_74.1 hs 2 rfl rfl rfl rfl rfl (Nat.le_of_ble_eq_true rfl) (one_cons rfl (one_cons rfl (one_cons rfl (one_cons rfl one_nil)))) (spl_whole rfl) fun w7 hs => ?_)
  replace hs : Own w no w7 [blk b1 ((vc s.known) ++ [(.slice a1 s.ents.length c1 : Value), (.slice a2 s.ticks.length c2 : Value) ]) 57, blk b3 [.int .u16 0, .slice none 0 0, .bool false, .int .u32 0] 74, blk b5 [.int .u16 c, .slice none 0 0, .bool false, .int .u32 0] 74] := hs
  refine RW_nil ?_
  refine W_seq ?_
  refine W_seq ?_
  refine W_region ?_
  refine RW_op (L_ldW (cs := (vc s.known) ++ [(.slice a1 s.ents.length c1 : Value), (.slice a2 s.ticks.length c2 : Value) ]) SA_57 hs 0 rfl rfl rfl ?_)
  refine RW_op (L_callP (vs := [.agg ((vc s.known) ++ [(.slice a1 s.ents.length c1 : Value), (.slice a2 s.ticks.length c2 : Value) ]).toArray]) (V := .bool (rightS s)) EN_46 rfl rfl ?hc hs fun w8 hs => ?_)
  case hc => exact (rRight8_ok _ s a1 c1 a2 c2 hok (Rd.own' hr1 hs) (Rd.own' hr2 hs))
  refine RW_op (L_not rfl ?_)
  refine RW_nil ?_
  refine W_cond (t := !(rightS s)) rfl (fun c9 => ?_) (fun c9 => ?_)
  ·
    replace c9 := not_t c9
    refine W_seq ?_
    refine W_region ?_
    refine RW_op (L_ldW (cs := [.int .u16 c, .slice none 0 0, .bool false, .int .u32 0]) SA_74 hs 2 rfl rfl rfl ?_)
    refine RW_op (L_st (V := .agg #[.int .u16 c, .slice none 0 0, .bool false, .int .u32 0]) (vs := [.int .u16 c, .slice none 0 0, .bool false, .int .u32 0]) (cs' := [.int .u16 c, .slice none 0 0, .bool false, .int .u32 0]) SA_74.1 hs 1 rfl rfl rfl rfl rfl (Nat.le_of_ble_eq_true rfl) (one_cons rfl (one_cons rfl (one_cons rfl (one_cons rfl one_nil)))) (spl_whole rfl) fun w10 hs => ?_)
    refine RW_nil ?_
    refine W_ret ?_
    refine ⟨_, res_cell (cs := [.int .u16 c, .slice none 0 0, .bool false, .int .u32 0]) Try.results35 SA_74 hs 1 rfl rfl rfl, ?_⟩
    rw [c9]
    exact ⟨(none, 0), rfl, (hs.take 0).more _ (row_nil _ _ 102 2), trivial⟩
  ·
    replace c9 := not_f c9
    refine W_skip ?_
    refine W_seq ?_
    refine W_region ?_
    refine RW_op (L_ldW (cs := (vc s.known) ++ [(.slice a1 s.ents.length c1 : Value), (.slice a2 s.ticks.length c2 : Value) ]) SA_57 hs 0 rfl rfl rfl ?_)
    refine RW_op (L_move (V := .int .u16 c) rfl ?_)
    refine RW_op (L_callP (vs := [.agg ((vc s.known) ++ [(.slice a1 s.ents.length c1 : Value), (.slice a2 s.ticks.length c2 : Value) ]).toArray, .int .u16 c]) (V := .tuple #[.int .u32 ((tickP s.ticks c).getD 0), .bool ((tickP s.ticks c).isSome)]) EN_75 rfl rfl ?hc hs fun w11 hs => ?_)
    case hc => exact (rtick_ok _ s a1 c1 a2 c2 c (Rd.own' hr1 hs) (Rd.own' hr2 hs))
    refine RW_op (L_move (V := .tuple #[.int .u32 ((tickP s.ticks c).getD 0), .bool ((tickP s.ticks c).isSome)]) rfl ?_)
    refine RW_op (L_extract (V := .int .u32 ((tickP s.ticks c).getD 0)) rfl rfl ?_)
    refine RW_op (L_extract (V := .bool ((tickP s.ticks c).isSome)) rfl rfl ?_)
    refine RW_op (L_assign (V := .int .u32 ((tickP s.ticks c).getD 0)) rfl ?_)
    refine RW_op (L_assign (V := .bool ((tickP s.ticks c).isSome)) rfl ?_)
    refine RW_nil ?_
    refine W_seq ?_
    refine W_region ?_
    refine RW_op (L_move (V := .int .u32 ((tickP s.ticks c).getD 0)) rfl ?_)
    refine RW_op (L_fieldAddr FA_74_3 rfl ?_)
    refine RW_op (L_st1 (V := .int .u32 ((tickP s.ticks c).getD 0)) (cs' := [.int .u16 c, .slice none 0 0, .bool false, .int .u32 ((tickP s.ticks c).getD 0)]) S1_51 hs 2 rfl rfl rfl rfl (Nat.le_of_ble_eq_true rfl) rfl fun w12 hs => ?_)
    refine RW_nil ?_
    refine W_seq ?_
    refine W_seq ?_
    refine W_region ?_
    refine RW_op (L_assign (V := .int .i64 0) rfl ?_)
    refine RW_nil ?_
    refine W_block ?_
    refine W_loopI (fun ρ μ ρ' w' => ∃ (ρo : Env) (k : Nat) (ou : Bool), ρ' = upd (mix [8, 32, 33, 34, 35, 36, 37, 38, 39, 40, 41, 42, 43, 44, 45, 46, 47, 48, 49, 50, 51, 52, 53, 54, 55, 56, 57, 58, 59, 60] ρo ρ) 8 (.int .i64 ((k : Nat) : Int)) ∧ (k ≤ s.ents.length) ∧ (ou = (s.ents.take k).any (fun e : Cen => decide (e.cart = c) && decide (e.kind = 4))) ∧ μ = s.ents.length - k ∧ Own w no w' [blk b1 ((vc s.known) ++ [(.slice a1 s.ents.length c1 : Value), (.slice a2 s.ticks.length c2 : Value) ]) 57, blk b3 [.int .u16 0, .slice none 0 0, .bool false, .int .u32 0] 74, blk b5 [.int .u16 c, .slice none 0 0, .bool ou, .int .u32 ((tickP s.ticks c).getD 0)] 74]) ?_ ?_
    · exact ⟨_, _, 0, false, upd_of (mix_of (ds := [8, 32, 33, 34, 35, 36, 37, 38, 39, 40, 41, 42, 43, 44, 45, 46, 47, 48, 49, 50, 51, 52, 53, 54, 55, 56, 57, 58, 59, 60]) (Agr.refl _ _)) rfl, (by omega), rfl, rfl, hs⟩
    · rintro μ ρ' w13 ⟨ρo, k, ou, rfl, hk, hob, rfl, hs⟩
      refine W_seq ?_
      refine W_seq ?_
      refine W_region ?_
      refine RW_op (L_move (V := .int .i64 ((k : Nat) : Int)) rfl ?_)
      refine RW_op (L_fieldAddr FA_57_1 rfl ?_)
      refine RW_op (L_ld (V := .slice a1 s.ents.length c1) S1_54 hs 0 rfl rfl rfl ?_)
      refine RW_op (L_lenR (n := s.ents.length) UD_54 (Rd.own' hr1 hs) (by simp) rfl ?_)
      refine RW_op (L_lss rfl rfl ?_)
      refine RW_nil ?_
      refine W_cond (t := decide (((k : Nat) : Int) < ((s.ents.length : Nat) : Int))) rfl (fun c14 => ?_) (fun c14 => ?_)
      ·
        replace c14 := of_decide_eq_true c14
        refine W_skip ?_
        refine W_seq ?_
        refine W_block ?_
        refine W_regO [some 39, some 40, some 41, some 42, some 43, some 44, some 45, some 46, some 47, some 48, some 49, some 50, some 51, some 52, some 53, some 54, some 55, some 56, some 57, some 58, some 59, some 60, none] [] [0, 1, 3, 7, 15, 7, 63, 127, 255, 7, 1023, 2047, 4095, 8191, 4095, 32767, 65535, 131071, 262143, 524287, 1048575, 2097151, 4194303] [pv (.pointer (some ⟨b5, 0 + 2, none⟩)), pv (.bool ou), pv (.bool ou), pg (ou == false) (.pointer (some ⟨b1, 0 + 16, none⟩)), pg (ou == false) (.slice a1 s.ents.length c1), pg (ou == false) (.int .i64 ((k : Nat) : Int)), pg (ou == false) (.pointer (some ⟨bkS (.slice a1 s.ents.length c1), ofS (.slice a1 s.ents.length c1) + ((k : Nat) : Int).toNat * 7, none⟩)), pg (ou == false) (.pointer (some ⟨bkS (.slice a1 s.ents.length c1), ofS (.slice a1 s.ents.length c1) + ((k : Nat) : Int).toNat * 7 + 0, none⟩)), pg (ou == false) (.int .u16 ((gd s.ents k).cart)), pg (ou == false) (.int .u16 c), pg (ou == false) (.bool (decide ((gd s.ents k).cart = c))), pg (ou == false) (.bool (decide ((gd s.ents k).cart = c))), pg ((ou == false) && ((decide ((gd s.ents k).cart = c)) == true)) (.pointer (some ⟨b1, 0 + 16, none⟩)), pg ((ou == false) && ((decide ((gd s.ents k).cart = c)) == true)) (.slice a1 s.ents.length c1), pg ((ou == false) && ((decide ((gd s.ents k).cart = c)) == true)) (.int .i64 ((k : Nat) : Int)), pg ((ou == false) && ((decide ((gd s.ents k).cart = c)) == true)) (.pointer (some ⟨bkS (.slice a1 s.ents.length c1), ofS (.slice a1 s.ents.length c1) + ((k : Nat) : Int).toNat * 7, none⟩)), pg ((ou == false) && ((decide ((gd s.ents k).cart = c)) == true)) (.pointer (some ⟨bkS (.slice a1 s.ents.length c1), ofS (.slice a1 s.ents.length c1) + ((k : Nat) : Int).toNat * 7 + 3, none⟩)), pg ((ou == false) && ((decide ((gd s.ents k).cart = c)) == true)) (.int .u8 ((gd s.ents k).kind)), pg ((ou == false) && ((decide ((gd s.ents k).cart = c)) == true)) (.bool (decide ((gd s.ents k).kind = 4))), pg (ou == false) (.bool ((decide ((gd s.ents k).cart = c)) && (decide ((gd s.ents k).kind = 4)))), pv (.bool (ou || ((decide ((gd s.ents k).cart = c)) && (decide ((gd s.ents k).kind = 4))))), pv (.pointer (some ⟨b5, 0 + 2, none⟩)), pn] (fun D ρ => [blk b1 ((vc s.known) ++ [(.slice a1 s.ents.length c1 : Value), (.slice a2 s.ticks.length c2 : Value) ]) 57, blk b3 [.int .u16 0, .slice none 0 0, .bool false, .int .u32 0] 74, cond (D 22) (blk b5 [.int .u16 c, .slice none 0 0, .bool (ou || ((decide ((gd s.ents k).cart = c)) && (decide ((gd s.ents k).kind = 4)))), .int .u32 ((tickP s.ticks c).getD 0)] 74) (blk b5 [.int .u16 c, .slice none 0 0, .bool ou, .int .u32 ((tickP s.ticks c).getD 0)] 74)]) [] (by kernel_rfl) hs ⟨?_, ?_, ?_, ?_, ?_, ?_, ?_, ?_, ?_, ?_, ?_, ?_, ?_, ?_, ?_, ?_, ?_, ?_, ?_, ?_, ?_, ?_, ?_, trivial⟩ ?_
        · exact ob [] [] rfl rfl fun D ρ w hs => L_fieldAddr FA_74_2 rfl ⟨rfl, hs⟩
        · exact ob [0] [22] rfl rfl fun D ρ w hs => L_ld (V := .bool ou) S1_4 hs 2 rfl rfl rfl ⟨rfl, hs⟩
        · exact ob [1] [] rfl rfl fun D ρ w hs => L_move (V := .bool ou) rfl ⟨rfl, hs⟩
        · exact obg [2] [] ou rfl (fun _ => rfl) rfl (fun _ _ _ _ h => h) fun D ρ w hG hs => L_fieldAddr FA_57_1 rfl ⟨rfl, hs⟩
        · exact obgy [2, 3] [] [3] ou rfl (fun _ => rfl) rfl (fun _ _ _ _ h => h) (fun hG => ⟨hG, trivial⟩) fun D ρ w hG hs => L_ld (V := .slice a1 s.ents.length c1) S1_54 hs 0 rfl rfl rfl ⟨rfl, hs⟩
        · exact obg [2] [] ou rfl (fun _ => rfl) rfl (fun _ _ _ _ h => h) fun D ρ w hG hs => L_move (V := .int .i64 ((k : Nat) : Int)) rfl ⟨rfl, hs⟩
        · exact obgy [2, 4, 5] [] [4, 5] ou rfl (fun _ => rfl) rfl (fun _ _ _ _ h => h) (fun hG => ⟨hG, hG, trivial⟩) fun D ρ w hG hs => L_ixR UD_54 SA_134.1 (Rd.own' hr1 hs) rfl rfl (by omega) (by rw [List.length_map]; omega) ⟨rfl, hs⟩
        · exact obgy [2, 6] [] [6] ou rfl (fun _ => rfl) rfl (fun _ _ _ _ h => h) (fun hG => ⟨hG, trivial⟩) fun D ρ w hG hs => L_fieldAddr FA_134_0 rfl ⟨rfl, hs⟩
        · exact obgy [2, 7] [] [7] ou rfl (fun _ => rfl) rfl (fun _ _ _ _ h => h) (fun hG => ⟨hG, trivial⟩) fun D ρ w hG hs => L_ldR (j := 0) (V := .int .u16 ((gd s.ents k).cart)) k S1_70 (Rd.own' hr1 hs) (gd_at (by omega)) rfl rfl (by omega) ⟨rfl, hs⟩
        · exact obg [2] [] ou rfl (fun _ => rfl) rfl (fun _ _ _ _ h => h) fun D ρ w hG hs => L_move (V := .int .u16 c) rfl ⟨rfl, hs⟩
        · exact obgy [2, 8, 9] [] [8, 9] ou rfl (fun _ => rfl) rfl (fun _ _ _ _ h => h) (fun hG => ⟨hG, hG, trivial⟩) fun D ρ w hG hs => L_eql rfl rfl ⟨rfl, hs⟩
        · exact obgy [2, 10] [] [10] ou rfl (fun _ => rfl) rfl (fun _ _ _ _ h => h) (fun hG => ⟨hG, trivial⟩) fun D ρ w hG hs => L_move (V := .bool (decide ((gd s.ents k).cart = c))) rfl ⟨rfl, hs⟩
        · exact obg [11] [] (decide ((gd s.ents k).cart = c)) rfl (fun _ => rfl) rfl (fun _ _ _ _ h => h) fun D ρ w hG hs => L_fieldAddr FA_57_1 rfl ⟨rfl, hs⟩
        · exact obgy [11, 12] [] [12] (decide ((gd s.ents k).cart = c)) rfl (fun _ => rfl) rfl (fun _ _ _ _ h => h) (fun hG => ⟨hG, trivial⟩) fun D ρ w hG hs => L_ld (V := .slice a1 s.ents.length c1) S1_54 hs 0 rfl rfl rfl ⟨rfl, hs⟩
        · exact obg [11] [] (decide ((gd s.ents k).cart = c)) rfl (fun _ => rfl) rfl (fun _ _ _ _ h => h) fun D ρ w hG hs => L_move (V := .int .i64 ((k : Nat) : Int)) rfl ⟨rfl, hs⟩
        · refine obgy [11, 13, 14] [] [13, 14] (decide ((gd s.ents k).cart = c)) rfl (fun _ => rfl) rfl (fun _ _ _ _ h => h) (fun hG => ⟨hG, hG, trivial⟩) fun D ρ w hG hs => ?_
          have hgd1 := of_decide_eq_true (eq_of_beq (and_r (hG)))
          exact L_ixR UD_54 SA_134.1 (Rd.own' hr1 hs) rfl rfl (by omega) (by rw [List.length_map]; omega) ⟨rfl, hs⟩
        · exact obgy [11, 15] [] [15] (decide ((gd s.ents k).cart = c)) rfl (fun _ => rfl) rfl (fun _ _ _ _ h => h) (fun hG => ⟨hG, trivial⟩) fun D ρ w hG hs => L_fieldAddr FA_134_3 rfl ⟨rfl, hs⟩
        · refine obgy [11, 16] [] [16] (decide ((gd s.ents k).cart = c)) rfl (fun _ => rfl) rfl (fun _ _ _ _ h => h) (fun hG => ⟨hG, trivial⟩) fun D ρ w hG hs => ?_
          have hgd1 := of_decide_eq_true (eq_of_beq (and_r (hG)))
          exact L_ldR (j := 3) (V := .int .u8 ((gd s.ents k).kind)) k S1_5 (Rd.own' hr1 hs) (gd_at (by omega)) rfl rfl (by omega) ⟨rfl, hs⟩
        · exact obgy [11, 17] [] [17] (decide ((gd s.ents k).cart = c)) rfl (fun _ => rfl) rfl (fun _ _ _ _ h => h) (fun hG => ⟨hG, trivial⟩) fun D ρ w hG hs => L_eql rfl rfl ⟨rfl, hs⟩
        · exact obgy [2, 11, 18] [] [11] ou rfl (fun _ => rfl) rfl (fun _ _ _ _ h => h) (fun hG => ⟨hG, trivial⟩) fun D ρ w hG hs => L_andN (h' := decide ((gd s.ents k).kind = 4)) (G := (ou == false)) hG rfl rfl rfl ⟨rfl, hs⟩
        · exact ob [2, 19] [] rfl rfl fun D ρ w hs => L_orC (h' := (decide ((gd s.ents k).cart = c)) && (decide ((gd s.ents k).kind = 4))) rfl rfl rfl ⟨rfl, hs⟩
        · exact ob [] [] rfl rfl fun D ρ w hs => L_fieldAddr FA_74_2 rfl ⟨rfl, hs⟩
        · exact ob [20, 21] [] rfl rfl fun D ρ w hs => L_st1 (V := .bool (ou || ((decide ((gd s.ents k).cart = c)) && (decide ((gd s.ents k).kind = 4))))) (cs' := [.int .u16 c, .slice none 0 0, .bool (ou || ((decide ((gd s.ents k).cart = c)) && (decide ((gd s.ents k).kind = 4)))), .int .u32 ((tickP s.ticks c).getD 0)]) S1_4 hs 2 rfl rfl rfl rfl (Nat.le_of_ble_eq_true rfl) rfl fun _ hs => ⟨trivial, hs⟩
        rintro ρ1 w16 ρ2 hρ hs
        replace hρ : ρ2 = mix [39, 40, 41, 42, 43, 44, 45, 46, 47, 48, 49, 50, 51, 52, 53, 54, 55, 56, 57, 58, 59, 60] ρ1 _ := hρ
        replace hs : Own w no w16 [blk b1 ((vc s.known) ++ [(.slice a1 s.ents.length c1 : Value), (.slice a2 s.ticks.length c2 : Value) ]) 57, blk b3 [.int .u16 0, .slice none 0 0, .bool false, .int .u32 0] 74, blk b5 [.int .u16 c, .slice none 0 0, .bool (ou || ((decide ((gd s.ents k).cart = c)) && (decide ((gd s.ents k).kind = 4)))), .int .u32 ((tickP s.ticks c).getD 0)] 74] := hs
        subst hρ
        refine W_region ?_
        refine RW_op (L_move (V := .int .i64 ((k : Nat) : Int)) rfl ?_)
        refine RW_op (L_add (a := ((k : Nat) : Int)) (b := 1) (c := ((k + 1 : Nat) : Int)) rfl rfl (nat_i64 (by omega) (by omega)) ?_)
        refine RW_op (L_assign (V := .int .i64 ((k + 1 : Nat) : Int)) rfl ?_)
        refine RW_nil ?_
        refine ⟨_, ?_, _, k + 1, ou || ((decide ((gd s.ents k).cart = c)) && (decide ((gd s.ents k).kind = 4))), upd_of (mix_of (ds := [8, 32, 33, 34, 35, 36, 37, 38, 39, 40, 41, 42, 43, 44, 45, 46, 47, 48, 49, 50, 51, 52, 53, 54, 55, 56, 57, 58, 59, 60]) (by repeat (first | exact Agr.refl _ _ | refine Agr.upd ?_ rfl | refine Agr.mix ?_ rfl))) rfl, (by omega), (anyT_next (p := (fun e : Cen => decide (e.cart = c) && decide (e.kind = 4))) hob (by omega)), rfl, hs.take 3⟩
        omega
      ·
        replace c14 := of_decide_eq_false c14
        refine W_exit ?_
        refine W_seq ?_
        refine W_region ?_
        refine RW_op (L_assign (V := .slice none 0 0) rfl ?_)
        refine RW_nil ?_
        refine W_seq ?_
        refine W_region ?_
        refine RW_op (L_assign (V := .int .i64 (-1)) rfl ?_)
        refine RW_nil ?_
        refine W_block ?_
        replace hs := hs.more (row (.slice none 0 0) (List.map lc []) 102 2) (row_nil _ _ _ _)
        rw [take_all (by omega)] at hob
        have hc0 : ∀ x ∈ candI s c s.ents.length, 0 ≤ x ∧ x < 65536 := fun x hx => by
          obtain ⟨e, he, e2⟩ := List.mem_map.1 (List.mem_filter.1 hx).1
          rw [← e2]; exact (hE0 e (List.mem_of_mem_take he)).2.1
        have hc1 : ∀ x ∈ candI s c s.ents.length, 0 ≤ x := fun x hx => (hc0 x hx).1
        refine W_loopI (fun ρ μ ρ' w' => ∃ (ρo : Env) (last : Int) (I : List Int) (an6 : Option Addr) (cn6 : Nat) (ol : List Line), ρ' = upd (upd (mix [9, 10, 11, 12, 13, 14, 15, 16, 17, 61, 62, 63, 64, 65, 66, 67, 68, 69, 70, 71, 72, 73, 74, 75, 76, 77, 78, 79, 80, 81, 82, 83, 84, 85, 86, 87, 88, 89, 90, 91, 92, 93, 94, 95, 96, 97, 98, 99, 100, 101, 102, 103, 104, 105, 106, 107, 108, 109, 110, 111, 112, 113, 114, 115, 116, 117] ρo ρ) 10 (.int .i64 last)) 9 (.slice an6 ol.length cn6) ∧ (-1 ≤ last ∧ last < 65536) ∧ (((ol.length : Nat) : Int) ≤ last + 1) ∧ (UpTo (candI s c s.ents.length) last I) ∧ (ol = I.map (lineS s c)) ∧ μ = (65536 - last).toNat ∧ Own w no w' [blk b1 ((vc s.known) ++ [(.slice a1 s.ents.length c1 : Value), (.slice a2 s.ticks.length c2 : Value) ]) 57, blk b3 [.int .u16 0, .slice none 0 0, .bool false, .int .u32 0] 74, blk b5 [.int .u16 c, .slice none 0 0, .bool ou, .int .u32 ((tickP s.ticks c).getD 0)] 74, row (.slice an6 ol.length cn6) (ol.map lc) 102 2]) ?_ ?_
        · exact ⟨_, _, -1, [], none, 0, [], upd_of (upd_of (mix_of (ds := [9, 10, 11, 12, 13, 14, 15, 16, 17, 61, 62, 63, 64, 65, 66, 67, 68, 69, 70, 71, 72, 73, 74, 75, 76, 77, 78, 79, 80, 81, 82, 83, 84, 85, 86, 87, 88, 89, 90, 91, 92, 93, 94, 95, 96, 97, 98, 99, 100, 101, 102, 103, 104, 105, 106, 107, 108, 109, 110, 111, 112, 113, 114, 115, 116, 117]) (Agr.refl _ _)) rfl) rfl, (by omega), (by simp), (upto_nil hc1), rfl, rfl, hs⟩
        · rintro μ ρ' w17 ⟨ρo, last, I, an6, cn6, ol, rfl, hla, hll, hup, hol, rfl, hs⟩
          refine W_block ?_
          refine W_seq ?_
          refine W_region ?_
          refine RW_op (L_assign (V := .int .i64 (-1)) rfl ?_)
          refine RW_nil ?_
          refine W_seq ?_
          refine W_seq ?_
          refine W_region ?_
          refine RW_op (L_assign (V := .int .i64 0) rfl ?_)
          refine RW_nil ?_
          refine W_block ?_
          refine W_loopI (fun ρ μ ρ' w' => ∃ (ρo : Env) (k3 : Nat) (nx : Int), ρ' = upd (upd (mix [11, 12, 13, 14, 15, 61, 62, 63, 64, 65, 66, 67, 68, 69, 70, 71, 72, 73, 74, 75, 76, 77, 78, 79, 80, 81, 82, 83, 84, 85, 86, 87, 88, 89, 90, 91, 92, 93, 94, 95, 96, 97] ρo ρ) 12 (.int .i64 ((k3 : Nat) : Int))) 11 (.int .i64 nx) ∧ (k3 ≤ s.ents.length) ∧ (nx = minAb last (candI s c k3)) ∧ (-1 ≤ nx ∧ nx < 65536) ∧ μ = s.ents.length - k3 ∧ Own w no w' [blk b1 ((vc s.known) ++ [(.slice a1 s.ents.length c1 : Value), (.slice a2 s.ticks.length c2 : Value) ]) 57, blk b3 [.int .u16 0, .slice none 0 0, .bool false, .int .u32 0] 74, blk b5 [.int .u16 c, .slice none 0 0, .bool ou, .int .u32 ((tickP s.ticks c).getD 0)] 74, row (.slice an6 ol.length cn6) (ol.map lc) 102 2]) ?_ ?_
          · exact ⟨_, _, 0, -1, upd_of (upd_of (mix_of (ds := [11, 12, 13, 14, 15, 61, 62, 63, 64, 65, 66, 67, 68, 69, 70, 71, 72, 73, 74, 75, 76, 77, 78, 79, 80, 81, 82, 83, 84, 85, 86, 87, 88, 89, 90, 91, 92, 93, 94, 95, 96, 97]) (Agr.refl _ _)) rfl) rfl, (by omega), rfl, (by omega), rfl, hs⟩
          · rintro μ ρ' w18 ⟨ρo, k3, nx, rfl, hk3, hmin, hnx, rfl, hs⟩
            refine W_seq ?_
            refine W_seq ?_
            refine W_region ?_
            refine RW_op (L_move (V := .int .i64 ((k3 : Nat) : Int)) rfl ?_)
            refine RW_op (L_fieldAddr FA_57_1 rfl ?_)
            refine RW_op (L_ld (V := .slice a1 s.ents.length c1) S1_54 hs 0 rfl rfl rfl ?_)
            refine RW_op (L_lenR (n := s.ents.length) UD_54 (Rd.own' hr1 hs) (by simp) rfl ?_)
            refine RW_op (L_lss rfl rfl ?_)
            refine RW_nil ?_
            refine W_cond (t := decide (((k3 : Nat) : Int) < ((s.ents.length : Nat) : Int))) rfl (fun c19 => ?_) (fun c19 => ?_)
            ·
              replace c19 := of_decide_eq_true c19
              refine W_skip ?_
              refine W_seq ?_
              refine W_block ?_
              refine W_seq ?_
              have ⟨_, ⟨hi1, hi2⟩, _⟩ := hE0 _ (gd_mem (l := s.ents) (i := k3) (by omega))
              refine W_region ?_
              refine RW_op (L_fieldAddr FA_57_1 rfl ?_)
              refine RW_op (L_ld (V := .slice a1 s.ents.length c1) S1_54 hs 0 rfl rfl rfl ?_)
              refine RW_op (L_move (V := .int .i64 ((k3 : Nat) : Int)) rfl ?_)
              refine RW_op (L_ixR UD_54 SA_134.1 (Rd.own' hr1 hs) rfl rfl (by omega) (by rw [List.length_map]; omega) ?_)
              refine RW_op (L_fieldAddr FA_134_1 rfl ?_)
              refine RW_op (L_ldR (j := 1) (V := .int .u16 ((gd s.ents k3).item)) k3 S1_70 (Rd.own' hr1 hs) (gd_at (by omega)) rfl rfl (by omega) ?_)
              refine RW_op (L_conv UD_70 UD_3 rfl (wr_i64 (by omega) (by omega)) ?_)
              refine RW_op (L_assign (V := .int .i64 ((gd s.ents k3).item)) rfl ?_)
              refine RW_nil ?_
              refine W_seq ?_
              refine W_region ?_
              refine RW_op (L_ldW (cs := (vc s.known) ++ [(.slice a1 s.ents.length c1 : Value), (.slice a2 s.ticks.length c2 : Value) ]) SA_57 hs 0 rfl rfl rfl ?_)
              refine RW_op (L_move (V := .int .u16 c) rfl ?_)
              refine RW_op (L_move (V := .int .i64 ((gd s.ents k3).item)) rfl ?_)
              refine RW_op (L_callP (vs := [.agg ((vc s.known) ++ [(.slice a1 s.ents.length c1 : Value), (.slice a2 s.ticks.length c2 : Value) ]).toArray, .int .u16 c, .int .i64 ((gd s.ents k3).item)]) (V := .tuple #[.int .u32 (qtyL (ofItem s c ((gd s.ents k3).item))), .bool (hasI s c ((gd s.ents k3).item))]) EN_76 rfl rfl ?hc hs fun w20 hs => ?_)
              case hc => exact (rqty_ok _ s a1 c1 a2 c2 c ((gd s.ents k3).item) hE0 (Rd.own' hr1 hs) (Rd.own' hr2 hs))
              refine RW_op (L_move (V := .tuple #[.int .u32 (qtyL (ofItem s c ((gd s.ents k3).item))), .bool (hasI s c ((gd s.ents k3).item))]) rfl ?_)
              refine RW_op (L_extract (V := .int .u32 (qtyL (ofItem s c ((gd s.ents k3).item)))) rfl rfl ?_)
              refine RW_op (L_extract (V := .bool (hasI s c ((gd s.ents k3).item))) rfl rfl ?_)
              refine RW_op (L_assign (V := .int .u32 (qtyL (ofItem s c ((gd s.ents k3).item)))) rfl ?_)
              refine RW_op (L_assign (V := .bool (hasI s c ((gd s.ents k3).item))) rfl ?_)
              refine RW_nil ?_
              refine W_seq ?_
              refine W_regO [some 82, some 83, some 84, some 85, some 86, some 87, some 88, some 89, some 90, some 91, some 92, some 93, some 94, some 95, some 96] [] [0, 1, 3, 3, 15, 31, 63, 127, 255, 511, 1023, 1023, 4095, 8191, 16383] [pv (.bool (hasI s c ((gd s.ents k3).item))), pv (.bool (hasI s c ((gd s.ents k3).item))), pg ((hasI s c ((gd s.ents k3).item)) == true) (.int .i64 ((gd s.ents k3).item)), pg ((hasI s c ((gd s.ents k3).item)) == true) (.int .i64 last), pg ((hasI s c ((gd s.ents k3).item)) == true) (.bool (decide (last < (gd s.ents k3).item))), pv (.bool ((hasI s c ((gd s.ents k3).item)) && (decide (last < (gd s.ents k3).item)))), pv (.bool ((hasI s c ((gd s.ents k3).item)) && (decide (last < (gd s.ents k3).item)))), pg (((hasI s c ((gd s.ents k3).item)) && (decide (last < (gd s.ents k3).item))) == true) (.int .i64 nx), pg (((hasI s c ((gd s.ents k3).item)) && (decide (last < (gd s.ents k3).item))) == true) (.bool (decide (nx < 0))), pg (((hasI s c ((gd s.ents k3).item)) && (decide (last < (gd s.ents k3).item))) == true) (.bool (decide (nx < 0))), pg ((((hasI s c ((gd s.ents k3).item)) && (decide (last < (gd s.ents k3).item))) == true) && ((decide (nx < 0)) == false)) (.int .i64 ((gd s.ents k3).item)), pg ((((hasI s c ((gd s.ents k3).item)) && (decide (last < (gd s.ents k3).item))) == true) && ((decide (nx < 0)) == false)) (.int .i64 nx), pg ((((hasI s c ((gd s.ents k3).item)) && (decide (last < (gd s.ents k3).item))) == true) && ((decide (nx < 0)) == false)) (.bool (decide ((gd s.ents k3).item < nx))), pg (((hasI s c ((gd s.ents k3).item)) && (decide (last < (gd s.ents k3).item))) == true) (.bool ((decide (nx < 0)) || (decide ((gd s.ents k3).item < nx)))), pv (.bool (((hasI s c ((gd s.ents k3).item)) && (decide (last < (gd s.ents k3).item))) && ((decide (nx < 0)) || (decide ((gd s.ents k3).item < nx)))))] (fun _ _ => _) [14] (by kernel_rfl) hs ⟨?_, ?_, ?_, ?_, ?_, ?_, ?_, ?_, ?_, ?_, ?_, ?_, ?_, ?_, ?_, trivial⟩ ?_
              · exact ob [] [] rfl rfl fun D ρ w hs => L_move (V := .bool (hasI s c ((gd s.ents k3).item))) rfl ⟨rfl, hs⟩
              · exact ob [0] [] rfl rfl fun D ρ w hs => L_move (V := .bool (hasI s c ((gd s.ents k3).item))) rfl ⟨rfl, hs⟩
              · exact obg [1] [] (hasI s c ((gd s.ents k3).item)) rfl (fun _ => rfl) rfl (fun _ _ _ _ h => h) fun D ρ w hG hs => L_move (V := .int .i64 ((gd s.ents k3).item)) rfl ⟨rfl, hs⟩
              · exact obg [1] [] (hasI s c ((gd s.ents k3).item)) rfl (fun _ => rfl) rfl (fun _ _ _ _ h => h) fun D ρ w hG hs => L_move (V := .int .i64 last) rfl ⟨rfl, hs⟩
              · exact obgy [1, 2, 3] [] [2, 3] (hasI s c ((gd s.ents k3).item)) rfl (fun _ => rfl) rfl (fun _ _ _ _ h => h) (fun hG => ⟨hG, hG, trivial⟩) fun D ρ w hG hs => L_gtr rfl rfl ⟨rfl, hs⟩
              · exact ob [1, 4] [] rfl rfl fun D ρ w hs => L_andC (h' := decide (last < (gd s.ents k3).item)) rfl rfl rfl ⟨rfl, hs⟩
              · exact ob [5] [] rfl rfl fun D ρ w hs => L_move (V := .bool ((hasI s c ((gd s.ents k3).item)) && (decide (last < (gd s.ents k3).item)))) rfl ⟨rfl, hs⟩
              · exact obg [6] [] ((hasI s c ((gd s.ents k3).item)) && (decide (last < (gd s.ents k3).item))) rfl (fun _ => rfl) rfl (fun _ _ _ _ h => h) fun D ρ w hG hs => L_move (V := .int .i64 nx) rfl ⟨rfl, hs⟩
              · exact obgy [6, 7] [] [7] ((hasI s c ((gd s.ents k3).item)) && (decide (last < (gd s.ents k3).item))) rfl (fun _ => rfl) rfl (fun _ _ _ _ h => h) (fun hG => ⟨hG, trivial⟩) fun D ρ w hG hs => L_lss rfl rfl ⟨rfl, hs⟩
              · exact obgy [6, 8] [] [8] ((hasI s c ((gd s.ents k3).item)) && (decide (last < (gd s.ents k3).item))) rfl (fun _ => rfl) rfl (fun _ _ _ _ h => h) (fun hG => ⟨hG, trivial⟩) fun D ρ w hG hs => L_move (V := .bool (decide (nx < 0))) rfl ⟨rfl, hs⟩
              · exact obg [9] [] (decide (nx < 0)) rfl (fun _ => rfl) rfl (fun _ _ _ _ h => h) fun D ρ w hG hs => L_move (V := .int .i64 ((gd s.ents k3).item)) rfl ⟨rfl, hs⟩
              · exact obg [9] [] (decide (nx < 0)) rfl (fun _ => rfl) rfl (fun _ _ _ _ h => h) fun D ρ w hG hs => L_move (V := .int .i64 nx) rfl ⟨rfl, hs⟩
              · exact obgy [9, 10, 11] [] [10, 11] (decide (nx < 0)) rfl (fun _ => rfl) rfl (fun _ _ _ _ h => h) (fun hG => ⟨hG, hG, trivial⟩) fun D ρ w hG hs => L_lss rfl rfl ⟨rfl, hs⟩
              · exact obgy [6, 9, 12] [] [9] ((hasI s c ((gd s.ents k3).item)) && (decide (last < (gd s.ents k3).item))) rfl (fun _ => rfl) rfl (fun _ _ _ _ h => h) (fun hG => ⟨hG, trivial⟩) fun D ρ w hG hs => L_orN (h' := decide ((gd s.ents k3).item < nx)) (G := (((hasI s c ((gd s.ents k3).item)) && (decide (last < (gd s.ents k3).item))) == true)) hG rfl rfl rfl ⟨rfl, hs⟩
              · exact ob [6, 13] [] rfl rfl fun D ρ w hs => L_andC (h' := (decide (nx < 0)) || (decide ((gd s.ents k3).item < nx))) rfl rfl rfl ⟨rfl, hs⟩
              rintro ρ1 w21 ρ2 hρ hs
              replace hρ : ρ2 = upd (mix [82, 83, 84, 85, 86, 87, 88, 89, 90, 91, 92, 93, 94, 95, 96] ρ1 _) 96 (.bool (((hasI s c ((gd s.ents k3).item)) && (decide (last < (gd s.ents k3).item))) && ((decide (nx < 0)) || (decide ((gd s.ents k3).item < nx))))) := hρ
              subst hρ
              refine W_cond (t := ((hasI s c ((gd s.ents k3).item)) && (decide (last < (gd s.ents k3).item))) && ((decide (nx < 0)) || (decide ((gd s.ents k3).item < nx)))) rfl (fun c22 => ?_) (fun c22 => ?_)
              ·
                have c22r := and_r c22
                replace c22 := and_l c22
                have c22rr := and_r c22
                replace c22 := and_l c22
                replace c22rr := of_decide_eq_true c22rr
                refine W_region ?_
                refine RW_op (L_move (V := .int .i64 ((gd s.ents k3).item)) rfl ?_)
                refine RW_op (L_assign (V := .int .i64 ((gd s.ents k3).item)) rfl ?_)
                refine RW_nil ?_
                refine W_region ?_
                refine RW_op (L_move (V := .int .i64 ((k3 : Nat) : Int)) rfl ?_)
                refine RW_op (L_add (a := ((k3 : Nat) : Int)) (b := 1) (c := ((k3 + 1 : Nat) : Int)) rfl rfl (nat_i64 (by omega) (by omega)) ?_)
                refine RW_op (L_assign (V := .int .i64 ((k3 + 1 : Nat) : Int)) rfl ?_)
                refine RW_nil ?_
                refine ⟨_, ?_, _, k3 + 1, (gd s.ents k3).item, upd_of (upd_of (mix_of (ds := [11, 12, 13, 14, 15, 61, 62, 63, 64, 65, 66, 67, 68, 69, 70, 71, 72, 73, 74, 75, 76, 77, 78, 79, 80, 81, 82, 83, 84, 85, 86, 87, 88, 89, 90, 91, 92, 93, 94, 95, 96, 97]) (by repeat (first | exact Agr.refl _ _ | refine Agr.upd ?_ rfl | refine Agr.mix ?_ rfl))) rfl) rfl, (by omega), (cand_yes hmin (by omega) c22 c22rr (by have := c22r; simp at this; omega)), (by omega), rfl, hs.take 4⟩
                omega
              ·
                refine W_skip ?_
                refine W_region ?_
                refine RW_op (L_move (V := .int .i64 ((k3 : Nat) : Int)) rfl ?_)
                refine RW_op (L_add (a := ((k3 : Nat) : Int)) (b := 1) (c := ((k3 + 1 : Nat) : Int)) rfl rfl (nat_i64 (by omega) (by omega)) ?_)
                refine RW_op (L_assign (V := .int .i64 ((k3 + 1 : Nat) : Int)) rfl ?_)
                refine RW_nil ?_
                refine ⟨_, ?_, _, k3 + 1, nx, upd_of (upd_of (mix_of (ds := [11, 12, 13, 14, 15, 61, 62, 63, 64, 65, 66, 67, 68, 69, 70, 71, 72, 73, 74, 75, 76, 77, 78, 79, 80, 81, 82, 83, 84, 85, 86, 87, 88, 89, 90, 91, 92, 93, 94, 95, 96, 97]) (by repeat (first | exact Agr.refl _ _ | refine Agr.upd ?_ rfl | refine Agr.mix ?_ rfl))) rfl) rfl, (by omega), (cand_no hmin (by omega) (by intro ⟨h0, h1, h2⟩; have := c22; simp [h0, h1, h2] at this; omega)), (by omega), rfl, hs.take 4⟩
                omega
            ·
              replace c19 := of_decide_eq_false c19
              refine W_exit ?_
              refine W_seq ?_
              refine W_seq ?_
              rw [show candI s c k3 = candI s c s.ents.length by rw [show k3 = s.ents.length by omega]] at hmin
              refine W_region ?_
              refine RW_op (L_move (V := .int .i64 nx) rfl ?_)
              refine RW_op (L_lss rfl rfl ?_)
              refine RW_nil ?_
              refine W_cond (t := decide (nx < 0)) rfl (fun c23 => ?_) (fun c23 => ?_)
              ·
                replace c23 := of_decide_eq_true c23
                refine W_seq ?_
                refine W_region ?_
                refine RW_op (L_move (V := .slice an6 ol.length cn6) rfl ?_)
                refine RW_op (L_fieldAddr FA_74_1 rfl ?_)
                refine RW_op (L_st1 (V := .slice an6 ol.length cn6) (cs' := [.int .u16 c, .slice an6 ol.length cn6, .bool ou, .int .u32 ((tickP s.ticks c).getD 0)]) S1_72 hs 2 rfl rfl rfl rfl (Nat.le_of_ble_eq_true rfl) rfl fun w24 hs => ?_)
                refine RW_nil ?_
                refine W_seq ?_
                refine W_region ?_
                refine RW_op (L_ldW (cs := [.int .u16 c, .slice an6 ol.length cn6, .bool ou, .int .u32 ((tickP s.ticks c).getD 0)]) SA_74 hs 2 rfl rfl rfl ?_)
                refine RW_op (L_st (V := .agg #[.int .u16 c, .slice an6 ol.length cn6, .bool ou, .int .u32 ((tickP s.ticks c).getD 0)]) (vs := [.int .u16 c, .slice an6 ol.length cn6, .bool ou, .int .u32 ((tickP s.ticks c).getD 0)]) (cs' := [.int .u16 c, .slice an6 ol.length cn6, .bool ou, .int .u32 ((tickP s.ticks c).getD 0)]) SA_74.1 hs 1 rfl rfl rfl rfl rfl (Nat.le_of_ble_eq_true rfl) (one_cons rfl (one_cons rfl (one_cons rfl (one_cons rfl one_nil)))) (spl_whole rfl) fun w25 hs => ?_)
                refine RW_nil ?_
                refine W_ret ?_
                refine ⟨_, res_cell (cs := [.int .u16 c, .slice an6 ol.length cn6, .bool ou, .int .u32 ((tickP s.ticks c).getD 0)]) Try.results35 SA_74 hs 1 rfl rfl rfl, ?_⟩
                have hI := cand_end hup hla.1 hc1 (by rw [← hmin]; exact c23)
                have hV := view_doc c9 (tk := (tickP s.ticks c).getD 0) rfl hob hI hol
                rw [hV]
                exact ⟨(an6, cn6), rfl, hs.only 3 rfl, trivial⟩
              ·
                replace c23 := of_decide_eq_false c23
                refine W_skip ?_
                refine W_seq ?_
                have hgt := cand_gt hla.1 hc1 (by rw [← hmin]; exact c23)
                rw [← hmin] at hgt
                have hup2 : UpTo (candI s c s.ents.length) nx (I ++ [nx]) := by rw [hmin]; exact upto_next hup hla.1 hc1 (by rw [← hmin]; exact c23)
                refine W_region ?_
                refine RW_op (L_ldW (cs := (vc s.known) ++ [(.slice a1 s.ents.length c1 : Value), (.slice a2 s.ticks.length c2 : Value) ]) SA_57 hs 0 rfl rfl rfl ?_)
                refine RW_op (L_move (V := .int .u16 c) rfl ?_)
                refine RW_op (L_move (V := .int .i64 nx) rfl ?_)
                refine RW_op (L_callP (vs := [.agg ((vc s.known) ++ [(.slice a1 s.ents.length c1 : Value), (.slice a2 s.ticks.length c2 : Value) ]).toArray, .int .u16 c, .int .i64 nx]) (V := .tuple #[.int .u32 (qtyL (ofItem s c nx)), .bool (hasI s c nx)]) EN_76 rfl rfl ?hc hs fun w26 hs => ?_)
                case hc => exact (rqty_ok _ s a1 c1 a2 c2 c nx hE0 (Rd.own' hr1 hs) (Rd.own' hr2 hs))
                refine RW_op (L_move (V := .tuple #[.int .u32 (qtyL (ofItem s c nx)), .bool (hasI s c nx)]) rfl ?_)
                refine RW_op (L_extract (V := .int .u32 (qtyL (ofItem s c nx))) rfl rfl ?_)
                refine RW_op (L_extract (V := .bool (hasI s c nx)) rfl rfl ?_)
                refine RW_op (L_assign (V := .int .u32 (qtyL (ofItem s c nx))) rfl ?_)
                refine RW_op (L_assign (V := .bool (hasI s c nx)) rfl ?_)
                refine RW_nil ?_
                refine W_seq ?_
                refine W_region ?_
                refine RW_op (L_move (V := .slice an6 ol.length cn6) rfl ?_)
                refine RW_op (L_move (V := .int .i64 nx) rfl ?_)
                refine RW_op (L_conv UD_3 UD_70 rfl (wr_u16 (by omega) (by omega)) ?_)
                refine RW_op (L_move (V := .int .u32 (qtyL (ofItem s c nx))) rfl ?_)
                refine RW_op (L_build (vs := [(0, .int .u16 nx), (1, .int .u32 (qtyL (ofItem s c nx)))]) (cs := lc (⟨nx, qtyL (ofItem s c nx)⟩ : Line)) BT_102 (rfl) rfl ?_)
                refine RW_op (L_bs (vals := [.agg (lc (⟨nx, qtyL (ofItem s c nx)⟩ : Line)).toArray]) (ls := List.map lc ([(⟨nx, qtyL (ofItem s c nx)⟩ : Line)] : List Line)) EL_72 rfl rfl rfl (len_map (enc := lc) (fun _ => rfl) _) (one_map lc_one _) (Nat.le_of_ble_eq_true rfl) hs fun b27 w28 hs => ?_)
                refine RW_op (L_appN (ls' := (ol ++ [(⟨nx, qtyL (ofItem s c nx)⟩ : Line)]).map lc) (n := (ol ++ [(⟨nx, qtyL (ofItem s c nx)⟩ : Line)]).length) EL_72 hs 3 rfl rfl rfl (hs.rd 4 rfl) (one_map lc_one _) (by simp only [List.length_map, List.length_append, List.length_cons, List.length_nil]; omega) (by simp) (by simp) fun a29 c29 w30 hs => ?_)
                refine RW_op (L_assign (V := .slice a29 ((ol ++ [(⟨nx, qtyL (ofItem s c nx)⟩ : Line)]).length) c29) rfl ?_)
                refine RW_nil ?_
                refine W_region ?_
                refine RW_op (L_move (V := .int .i64 nx) rfl ?_)
                refine RW_op (L_assign (V := .int .i64 nx) rfl ?_)
                refine RW_nil ?_
                refine ⟨_, ?_, _, nx, I ++ [nx], a29, c29, ol ++ [(⟨nx, qtyL (ofItem s c nx)⟩ : Line)], upd_of (upd_of (mix_of (ds := [9, 10, 11, 12, 13, 14, 15, 16, 17, 61, 62, 63, 64, 65, 66, 67, 68, 69, 70, 71, 72, 73, 74, 75, 76, 77, 78, 79, 80, 81, 82, 83, 84, 85, 86, 87, 88, 89, 90, 91, 92, 93, 94, 95, 96, 97, 98, 99, 100, 101, 102, 103, 104, 105, 106, 107, 108, 109, 110, 111, 112, 113, 114, 115, 116, 117]) (by repeat (first | exact Agr.refl _ _ | refine Agr.upd ?_ rfl | refine Agr.mix ?_ rfl))) rfl) rfl, (by omega), (by simp only [List.length_append, List.length_singleton]; omega), hup2, (line_step hol rfl), rfl, hs.take 4⟩
                omega
end Tt
end Go.Proofs
namespace Go.Proofs
open Go Go.Vx Go.RowKit
namespace Tt
set_option maxRecDepth 20000 in
set_option maxHeartbeats 4000000 in
theorem rCarts8_ok (w : World) (s : Sta) (a1 : Option Addr) (c1 : Nat) (a2 : Option Addr) (c2 : Nat) (hok : StaOk s) (hlt : s.ticks.length ≤ 100000) (hr1 : Rd w (.slice a1 s.ents.length c1) 7 (s.ents.map cec)) (hr2 : Rd w (.slice a2 s.ticks.length c2) 2 (s.ticks.map lsc)) : Calls Try.prog 38 #[.agg ((vc s.known) ++ [(.slice a1 s.ents.length c1 : Value), (.slice a2 s.ticks.length c2 : Value) ]).toArray] w (fun e w' => ∃ x : Option Addr × Nat, e = .returned (.slice x.1 (cartsS s).length x.2) ∧ Own w no w' [row (.slice x.1 (cartsS s).length x.2) ((cartsS s).map (ic .u16)) 70 1] ∧ True) := by
  refine calls_of_Wn (n := 26) Try.func38 rfl Try.ntmps38 rfl ?_
  have hs := Own.start w
  refine W_seq ?_
  refine W_region ?_
  refine RW_op (L_box (V := .agg ((vc s.known) ++ [(.slice a1 s.ents.length c1 : Value), (.slice a2 s.ticks.length c2 : Value) ]).toArray) (cs := (vc s.known) ++ [(.slice a1 s.ents.length c1 : Value), (.slice a2 s.ticks.length c2 : Value) ]) rfl rfl hs fun b1 w2 hs => ?_)
  refine RW_op (L_assign (V := .slice none 0 0) rfl ?_)
  refine RW_nil ?_
  refine W_seq ?_
  refine W_region ?_
  refine RW_op (L_assign (V := .slice none 0 0) rfl ?_)
  refine RW_nil ?_
  refine W_seq ?_
  refine W_seq ?_
  refine W_region ?_
  refine RW_op (L_ldW (cs := (vc s.known) ++ [(.slice a1 s.ents.length c1 : Value), (.slice a2 s.ticks.length c2 : Value) ]) SA_57 hs 0 rfl rfl rfl ?_)
  refine RW_op (L_callP (vs := [.agg ((vc s.known) ++ [(.slice a1 s.ents.length c1 : Value), (.slice a2 s.ticks.length c2 : Value) ]).toArray]) (V := .bool (rightS s)) EN_46 rfl rfl ?hc hs fun w3 hs => ?_)
  case hc => exact (rRight8_ok _ s a1 c1 a2 c2 hok (Rd.own' hr1 hs) (Rd.own' hr2 hs))
  refine RW_op (L_not rfl ?_)
  refine RW_nil ?_
  refine W_cond (t := !(rightS s)) rfl (fun c4 => ?_) (fun c4 => ?_)
  ·
    replace c4 := not_t c4
    refine W_seq ?_
    refine W_region ?_
    refine RW_op (L_move (V := .slice none 0 0) rfl ?_)
    refine RW_op (L_assign (V := .slice none 0 0) rfl ?_)
    refine RW_nil ?_
    refine W_ret ?_
    refine ⟨_, res_one (V := .slice none 0 0) Try.results38 rfl, ?_⟩
    have hX : cartsS s = [] := by unfold cartsS; rw [if_neg (by rw [c4]; decide)]
    rw [hX]
    exact ⟨(none, 0), rfl, (hs.take 0).more _ (row_nil _ _ _ _), trivial⟩
  ·
    replace c4 := not_f c4
    refine W_skip ?_
    refine W_seq ?_
    refine W_seq ?_
    refine W_region ?_
    refine RW_op (L_assign (V := .int .i64 0) rfl ?_)
    refine RW_nil ?_
    refine W_block ?_
    replace hs := hs.more (row (.slice none 0 0) (List.map (ic .u16) []) 70 1) (row_nil _ _ _ _)
    refine W_loopI (fun ρ μ ρ' w' => ∃ (ρo : Env) (k : Nat) (an9 : Option Addr) (cn9 : Nat) (L9 : List Int), ρ' = upd (upd (mix [3, 4, 9, 10, 11, 12, 13, 14, 15, 16, 17, 18, 19, 20, 21, 22, 23, 24] ρo ρ) 4 (.int .i64 ((k : Nat) : Int))) 3 (.slice an9 L9.length cn9) ∧ (k ≤ s.ticks.length) ∧ (L9 = (s.ticks.take k).map (·.cart)) ∧ (L9.length ≤ k) ∧ μ = s.ticks.length - k ∧ Own w no w' [blk b1 ((vc s.known) ++ [(.slice a1 s.ents.length c1 : Value), (.slice a2 s.ticks.length c2 : Value) ]) 57, row (.slice an9 L9.length cn9) (L9.map (ic .u16)) 70 1]) ?_ ?_
    · exact ⟨_, _, 0, none, 0, [], upd_of (upd_of (mix_of (ds := [3, 4, 9, 10, 11, 12, 13, 14, 15, 16, 17, 18, 19, 20, 21, 22, 23, 24]) (Agr.refl _ _)) rfl) rfl, (by omega), rfl, (Nat.le_refl _), rfl, hs⟩
    · rintro μ ρ' w5 ⟨ρo, k, an9, cn9, L9, rfl, hk, hL9, hl9, rfl, hs⟩
      have hbd := hl9
      refine W_seq ?_
      refine W_seq ?_
      refine W_region ?_
      refine RW_op (L_move (V := .int .i64 ((k : Nat) : Int)) rfl ?_)
      refine RW_op (L_fieldAddr FA_57_2 rfl ?_)
      refine RW_op (L_ld (V := .slice a2 s.ticks.length c2) S1_55 hs 0 rfl rfl rfl ?_)
      refine RW_op (L_lenR (n := s.ticks.length) UD_55 (Rd.own' hr2 hs) (by simp) rfl ?_)
      refine RW_op (L_lss rfl rfl ?_)
      refine RW_nil ?_
      refine W_cond (t := decide (((k : Nat) : Int) < ((s.ticks.length : Nat) : Int))) rfl (fun c6 => ?_) (fun c6 => ?_)
      ·
        replace c6 := of_decide_eq_true c6
        refine W_skip ?_
        refine W_seq ?_
        refine W_block ?_
        refine W_region ?_
        refine RW_op (L_move (V := .slice an9 L9.length cn9) rfl ?_)
        refine RW_op (L_fieldAddr FA_57_2 rfl ?_)
        refine RW_op (L_ld (V := .slice a2 s.ticks.length c2) S1_55 hs 0 rfl rfl rfl ?_)
        refine RW_op (L_move (V := .int .i64 ((k : Nat) : Int)) rfl ?_)
        refine RW_op (L_ixR UD_55 SA_135.1 (Rd.own' hr2 hs) rfl rfl (by omega) (by rw [List.length_map]; omega) ?_)
        refine RW_op (L_fieldAddr FA_135_0 rfl ?_)
        refine RW_op (L_ldR (j := 0) (V := .int .u16 ((gd s.ticks k).cart)) k S1_70 (Rd.own' hr2 hs) (gd_at (by omega)) rfl rfl (by omega) ?_)
        refine RW_op (L_bs (vals := [.int .u16 ((gd s.ticks k).cart)]) (ls := List.map (ic .u16) ([(gd s.ticks k).cart] : List Int)) EL_78 rfl rfl rfl (len_map (enc := (ic .u16)) (fun _ => rfl) _) (one_map (ic_one .u16) _) (Nat.le_of_ble_eq_true rfl) hs fun b7 w8 hs => ?_)
        refine RW_op (L_appN (ls' := (L9 ++ [(gd s.ticks k).cart]).map (ic .u16)) (n := (L9 ++ [(gd s.ticks k).cart]).length) EL_78 hs 1 rfl rfl rfl (hs.rd 2 rfl) (one_map (ic_one .u16) _) (by simp only [List.length_map, List.length_append, List.length_cons, List.length_nil]; omega) (by simp) (by simp) fun a9 c9 w10 hs => ?_)
        refine RW_op (L_assign (V := .slice a9 ((L9 ++ [(gd s.ticks k).cart]).length) c9) rfl ?_)
        refine RW_nil ?_
        refine W_region ?_
        refine RW_op (L_move (V := .int .i64 ((k : Nat) : Int)) rfl ?_)
        refine RW_op (L_add (a := ((k : Nat) : Int)) (b := 1) (c := ((k + 1 : Nat) : Int)) rfl rfl (nat_i64 (by omega) (by omega)) ?_)
        refine RW_op (L_assign (V := .int .i64 ((k + 1 : Nat) : Int)) rfl ?_)
        refine RW_nil ?_
        refine ⟨_, ?_, _, k + 1, a9, c9, L9 ++ [(gd s.ticks k).cart], upd_of (upd_of (mix_of (ds := [3, 4, 9, 10, 11, 12, 13, 14, 15, 16, 17, 18, 19, 20, 21, 22, 23, 24]) (by repeat (first | exact Agr.refl _ _ | refine Agr.upd ?_ rfl | refine Agr.mix ?_ rfl))) rfl) rfl, (by omega), (map_next (f := fun x : Lst => x.cart) hL9 (by omega)), (by rw [List.length_append, List.length_singleton]; omega), rfl, hs.take 2⟩
        omega
      ·
        replace c6 := of_decide_eq_false c6
        refine W_exit ?_
        refine W_seq ?_
        refine W_region ?_
        refine RW_op (L_move (V := .slice an9 L9.length cn9) rfl ?_)
        refine RW_op (L_assign (V := .slice an9 L9.length cn9) rfl ?_)
        refine RW_nil ?_
        refine W_ret ?_
        refine ⟨_, res_one (V := .slice an9 L9.length cn9) Try.results38 rfl, ?_⟩
        have hX : L9 = cartsS s := by unfold cartsS; rw [if_pos c4, hL9, take_all (by omega)]
        rw [hX] at hs ⊢
        exact ⟨(an9, cn9), rfl, hs.only 1 rfl, trivial⟩
end Tt
end Go.Proofs
namespace Go.Proofs
open Go Go.Vx Go.RowKit
namespace Tt
set_option maxRecDepth 20000 in
set_option maxHeartbeats 4000000 in
theorem cartViews_ok (w : World) (s : Sta) (a1 : Option Addr) (c1 : Nat) (a2 : Option Addr) (c2 : Nat) (n : Int) (hsortE : SortC Try.prog 63 64 cec 128 7 srtE) (hok : StaOk s) (hn : 0 ≤ n ∧ n < 65536) (hr1 : Rd w (.slice a1 s.ents.length c1) 7 (s.ents.map cec)) (hr2 : Rd w (.slice a2 s.ticks.length c2) 2 (s.ticks.map lsc)) : Calls Try.prog 7 #[.agg ((vc s.known) ++ [(.slice a1 s.ents.length c1 : Value), (.slice a2 s.ticks.length c2 : Value) ]).toArray, .int .u16 n] w (fun e w' => e = .returned (.bool true) ∧ Own w no w' []) := by
  refine calls_of_Wn (n := 26) Try.func7 rfl Try.ntmps7 rfl ?_
  have hs := Own.start w
  refine W_seq ?_
  refine W_region ?_
  refine RW_op (L_box (V := .agg ((vc s.known) ++ [(.slice a1 s.ents.length c1 : Value), (.slice a2 s.ticks.length c2 : Value) ]).toArray) (cs := (vc s.known) ++ [(.slice a1 s.ents.length c1 : Value), (.slice a2 s.ticks.length c2 : Value) ]) rfl rfl hs fun b1 w2 hs => ?_)
  refine RW_op (L_assign (V := .bool false) rfl ?_)
  refine RW_nil ?_
  refine W_seq ?_
  refine W_seq ?_
  refine W_region ?_
  refine RW_op (L_callP (vs := []) (V := .bool true) EN_26 rfl rfl ?hc hs fun w3 hs => ?_)
  case hc => exact (alive8_ok _ hsortE)
  refine RW_op (L_not rfl ?_)
  refine RW_nil ?_
  refine W_condF rfl ?_
  refine W_skip ?_
  refine W_seq ?_
  refine W_seq ?_
  refine W_region ?_
  refine RW_op (L_ldW (cs := (vc s.known) ++ [(.slice a1 s.ents.length c1 : Value), (.slice a2 s.ticks.length c2 : Value) ]) SA_57 hs 0 rfl rfl rfl ?_)
  refine RW_op (L_callP (vs := [.agg ((vc s.known) ++ [(.slice a1 s.ents.length c1 : Value), (.slice a2 s.ticks.length c2 : Value) ]).toArray]) (V := .bool (fewB s)) EN_27 rfl rfl ?hc hs fun w4 hs => ?_)
  case hc => exact (few_ok _ s a1 c1 a2 c2 (Rd.own' hr1 hs) (Rd.own' hr2 hs))
  refine RW_op (L_not rfl ?_)
  refine RW_nil ?_
  refine W_cond (t := !(fewB s)) rfl (fun c5 => ?_) (fun c5 => ?_)
  ·
    replace c5 := not_t c5
    refine W_seq ?_
    refine W_region ?_
    refine RW_op (L_assign (V := .bool true) rfl ?_)
    refine RW_nil ?_
    refine W_ret ?_
    refine ⟨_, res_one (V := .bool true) Try.results7 rfl, ?_⟩
    refine ⟨congrArg Ending.returned ?_, hs.take 0⟩
    rfl
  ·
    replace c5 := not_f c5
    refine W_skip ?_
    refine W_seq ?_
    have ⟨hf1, hf2⟩ := few_le c5
    replace hs := hs.more emp trivial
    replace hs := hs.more emp trivial
    replace hs := hs.more emp trivial
    replace hs := hs.more emp trivial
    replace hs := hs.more emp trivial
    replace hs := hs.more emp trivial
    replace hs := hs.more emp trivial
    replace hs := hs.more emp trivial
    refine W_regD HM [some 10, some 11, some 12, some 13, some 14, some 15, some 16, some 17, some 18, some 19, some 20, some 21, some 22, some 23, some 24, some 25, some 4] [[], [11], [], [13], [], [], [16], [], [], [], [20], [21], [], [23]] [0, 1, 0, 7, 0, 0, 63, 127, 255, 511, 1023, 2047, 511, 8191, 16383, 32767, 65535] [pv (.agg ((vc s.known) ++ [(.slice a1 s.ents.length c1 : Value), (.slice a2 s.ticks.length c2 : Value) ]).toArray), (true, fun ρ => .agg ((vc s.known) ++ [(.slice (aOf (aggS (ρ 11) 16)) ((s.ents).length) (cOf (aggS (ρ 11) 16)) : Value), (.slice (aOf (aggS (ρ 11) 17)) ((s.ticks).length) (cOf (aggS (ρ 11) 17)) : Value) ]).toArray), pv (.int .u16 n), (true, fun ρ => .agg #[.int .u16 ((viewC s n (rightS s)).cart), .slice (aOf (aggS (ρ 13) 1)) (((viewC s n (rightS s)).lines).length) (cOf (aggS (ρ 13) 1)), .bool ((viewC s n (rightS s)).out), .int .u32 ((viewC s n (rightS s)).tick)]), pv (.agg ((vc s.known) ++ [(.slice a1 s.ents.length c1 : Value), (.slice a2 s.ticks.length c2 : Value) ]).toArray), pv (.int .u16 n), (true, fun ρ => .agg #[.int .u16 ((viewC s n (rightS s)).cart), .slice (aOf (aggS (ρ 16) 1)) (((viewC s n (rightS s)).lines).length) (cOf (aggS (ρ 16) 1)), .bool ((viewC s n (rightS s)).out), .int .u32 ((viewC s n (rightS s)).tick)]), pv (.bool true), pv (.bool true), pv (.agg ((vc s.known) ++ [(.slice a1 s.ents.length c1 : Value), (.slice a2 s.ticks.length c2 : Value) ]).toArray), (true, fun ρ => .agg ((vc s.known) ++ [(.slice (aOf (aggS (ρ 20) 16)) ((s.ents).length) (cOf (aggS (ρ 20) 16)) : Value), (.slice (aOf (aggS (ρ 20) 17)) ((s.ticks).length) (cOf (aggS (ρ 20) 17)) : Value) ]).toArray), (true, fun ρ => .slice (aOf (ρ 21)) ((cartsS s).length) (cOf (ρ 21))), pv (.agg ((vc s.known) ++ [(.slice a1 s.ents.length c1 : Value), (.slice a2 s.ticks.length c2 : Value) ]).toArray), (true, fun ρ => .slice (aOf (ρ 23)) ((cartsS s).length) (cOf (ρ 23))), pv (.bool true), pv (.bool true), pv (.bool true)] (fun D ρ => [blk b1 ((vc s.known) ++ [(.slice a1 s.ents.length c1 : Value), (.slice a2 s.ticks.length c2 : Value) ]) 57, cond (D 1) (row (.slice (aOf (aggS (ρ 11) 16)) ((s.ents).length) (cOf (aggS (ρ 11) 16))) (s.ents.map cec) 128 7) (emp), cond (D 1) (row (.slice (aOf (aggS (ρ 11) 17)) ((s.ticks).length) (cOf (aggS (ρ 11) 17))) (s.ticks.map lsc) 126 2) (emp), cond (D 3) (row (.slice (aOf (aggS (ρ 13) 1)) (((viewC s n (rightS s)).lines).length) (cOf (aggS (ρ 13) 1))) (((viewC s n (rightS s)).lines).map lc) 102 2) (emp), cond (D 6) (row (.slice (aOf (aggS (ρ 16) 1)) (((viewC s n (rightS s)).lines).length) (cOf (aggS (ρ 16) 1))) (((viewC s n (rightS s)).lines).map lc) 102 2) (emp), cond (D 10) (row (.slice (aOf (aggS (ρ 20) 16)) ((s.ents).length) (cOf (aggS (ρ 20) 16))) (s.ents.map cec) 128 7) (emp), cond (D 10) (row (.slice (aOf (aggS (ρ 20) 17)) ((s.ticks).length) (cOf (aggS (ρ 20) 17))) (s.ticks.map lsc) 126 2) (emp), cond (D 11) (row (.slice (aOf (ρ 21)) ((cartsS s).length) (cOf (ρ 21))) ((cartsS s).map (ic .u16)) 70 1) (emp), cond (D 13) (row (.slice (aOf (ρ 23)) ((cartsS s).length) (cOf (ρ 23))) ((cartsS s).map (ic .u16)) 70 1) (emp)]) [16] (by kernel_rfl) hs ⟨?_, ?_, ?_, ?_, ?_, ?_, ?_, ?_, ?_, ?_, ?_, ?_, ?_, ?_, ?_, ?_, ?_, trivial⟩ ?_
    · exact ob [] [] rfl rfl fun D ρ w hs => L_ldW (cs := (vc s.known) ++ [(.slice a1 s.ents.length c1 : Value), (.slice a2 s.ticks.length c2 : Value) ]) SA_57 hs 0 rfl rfl rfl ⟨rfl, hs⟩
    · exact ob [0] [] rfl rfl fun D ρ w hs => L_callX (α := (Option Addr × Nat) × (Option Addr × Nat)) (vs := [.agg ((vc s.known) ++ [(.slice a1 s.ents.length c1 : Value), (.slice a2 s.ticks.length c2 : Value) ]).toArray]) (V := fun x : (Option Addr × Nat) × (Option Addr × Nat) => .agg (vc s.known ++ [(.slice x.1.1 (s.ents).length x.1.2 : Value), (.slice x.2.1 (s.ticks).length x.2.2 : Value)]).toArray) (Lo := fun x => [row (.slice x.1.1 (s.ents).length x.1.2) ((s.ents).map cec) 128 7, row (.slice x.2.1 (s.ticks).length x.2.2) ((s.ticks).map lsc) 126 2]) (F := fun _ _ => True) EN_29 rfl rfl (theirs_ok _ s a1 c1 a2 c2 (by omega) (by omega) (Rd.own' hr1 hs) (Rd.own' hr2 hs)) hs fun _ _ hs _ => ⟨rfl, hs.put2 1 2 (Nat.le_of_ble_eq_true rfl) (Nat.le_of_ble_eq_true rfl)⟩
    · exact ob [] [] rfl rfl fun D ρ w hs => L_move (V := .int .u16 n) rfl ⟨rfl, hs⟩
    · exact ob [1, 2] [] rfl rfl fun D ρ w hs => L_callX (α := Option Addr × Nat) (vs := [.agg ((vc s.known) ++ [(.slice (aOf (aggS (ρ 11) 16)) ((s.ents).length) (cOf (aggS (ρ 11) 16)) : Value), (.slice (aOf (aggS (ρ 11) 17)) ((s.ticks).length) (cOf (aggS (ρ 11) 17)) : Value) ]).toArray, .int .u16 n]) (V := fun x => .agg #[.int .u16 ((viewC s n (rightS s)).cart), .slice x.1 (((viewC s n (rightS s)).lines).length) x.2, .bool ((viewC s n (rightS s)).out), .int .u32 ((viewC s n (rightS s)).tick)]) (Lo := fun x => [row (.slice x.1 ((viewC s n (rightS s)).lines).length x.2) (((viewC s n (rightS s)).lines).map lc) 102 2]) (F := fun _ _ => True) EN_34 rfl rfl (cViewE_ok _ s (aOf (aggS (ρ 11) 16)) (cOf (aggS (ρ 11) 16)) (aOf (aggS (ρ 11) 17)) (cOf (aggS (ρ 11) 17)) n (viewC s n (rightS s) : Vw) (rfl) hok (by omega) (by omega) (hs.rd 1 rfl) (hs.rd 2 rfl)) hs fun _ _ hs _ => ⟨rfl, hs.put 3 (Nat.le_of_ble_eq_true rfl)⟩
    · exact ob [] [] rfl rfl fun D ρ w hs => L_ldW (cs := (vc s.known) ++ [(.slice a1 s.ents.length c1 : Value), (.slice a2 s.ticks.length c2 : Value) ]) SA_57 hs 0 rfl rfl rfl ⟨rfl, hs⟩
    · exact ob [] [] rfl rfl fun D ρ w hs => L_move (V := .int .u16 n) rfl ⟨rfl, hs⟩
    · exact ob [4, 5] [] rfl rfl fun D ρ w hs => L_callX (α := Option Addr × Nat) (vs := [.agg ((vc s.known) ++ [(.slice a1 s.ents.length c1 : Value), (.slice a2 s.ticks.length c2 : Value) ]).toArray, .int .u16 n]) (V := fun x => .agg #[.int .u16 ((viewC s n (rightS s)).cart), .slice x.1 (((viewC s n (rightS s)).lines).length) x.2, .bool ((viewC s n (rightS s)).out), .int .u32 ((viewC s n (rightS s)).tick)]) (Lo := fun x => [row (.slice x.1 ((viewC s n (rightS s)).lines).length x.2) (((viewC s n (rightS s)).lines).map lc) 102 2]) (F := fun _ _ => True) EN_35 rfl rfl (rView8_ok _ s a1 c1 a2 c2 n hok (Rd.own' hr1 hs) (Rd.own' hr2 hs)) hs fun _ _ hs _ => ⟨rfl, hs.put 4 (Nat.le_of_ble_eq_true rfl)⟩
    · exact ob [3, 6] [] rfl rfl fun D ρ w hs => L_callPV (V' := .bool true) (congrArg Value.bool (same_self _)) (vs := [.agg #[.int .u16 ((viewC s n (rightS s)).cart), .slice (aOf (aggS (ρ 13) 1)) (((viewC s n (rightS s)).lines).length) (cOf (aggS (ρ 13) 1)), .bool ((viewC s n (rightS s)).out), .int .u32 ((viewC s n (rightS s)).tick)], .agg #[.int .u16 ((viewC s n (rightS s)).cart), .slice (aOf (aggS (ρ 16) 1)) (((viewC s n (rightS s)).lines).length) (cOf (aggS (ρ 16) 1)), .bool ((viewC s n (rightS s)).out), .int .u32 ((viewC s n (rightS s)).tick)]]) (V := .bool (decide ((viewC s n (rightS s)).cart = (viewC s n (rightS s)).cart) && (((viewC s n (rightS s)).out) == ((viewC s n (rightS s)).out)) && decide ((viewC s n (rightS s)).tick = (viewC s n (rightS s)).tick) && decide ((viewC s n (rightS s)).lines = (viewC s n (rightS s)).lines))) EN_33 rfl rfl (same7_ok _ ((viewC s n (rightS s)).cart) ((viewC s n (rightS s)).cart) ((viewC s n (rightS s)).tick) ((viewC s n (rightS s)).tick) ((viewC s n (rightS s)).out) ((viewC s n (rightS s)).out) (aOf (aggS (ρ 13) 1)) (aOf (aggS (ρ 16) 1)) (cOf (aggS (ρ 13) 1)) (cOf (aggS (ρ 16) 1)) ((viewC s n (rightS s)).lines) ((viewC s n (rightS s)).lines) (hs.rd 3 rfl) (hs.rd 4 rfl)) hs fun _ hs => ⟨rfl, hs⟩
    · exact ob [7] [] rfl rfl fun D ρ w hs => L_move (V := .bool true) rfl ⟨rfl, hs⟩
    · exact obg [8] [] true rfl (fun _ => rfl) rfl (fun _ _ _ h => nomatch h) fun D ρ w _ hs => L_ldW (cs := (vc s.known) ++ [(.slice a1 s.ents.length c1 : Value), (.slice a2 s.ticks.length c2 : Value) ]) SA_57 hs 0 rfl rfl rfl ⟨rfl, hs⟩
    · exact obg [8, 9] [] true rfl (fun _ => rfl) rfl (fun _ _ _ h => nomatch h) fun D ρ w _ hs => L_callX (α := (Option Addr × Nat) × (Option Addr × Nat)) (vs := [.agg ((vc s.known) ++ [(.slice a1 s.ents.length c1 : Value), (.slice a2 s.ticks.length c2 : Value) ]).toArray]) (V := fun x : (Option Addr × Nat) × (Option Addr × Nat) => .agg (vc s.known ++ [(.slice x.1.1 (s.ents).length x.1.2 : Value), (.slice x.2.1 (s.ticks).length x.2.2 : Value)]).toArray) (Lo := fun x => [row (.slice x.1.1 (s.ents).length x.1.2) ((s.ents).map cec) 128 7, row (.slice x.2.1 (s.ticks).length x.2.2) ((s.ticks).map lsc) 126 2]) (F := fun _ _ => True) EN_29 rfl rfl (theirs_ok _ s a1 c1 a2 c2 (by omega) (by omega) (Rd.own' hr1 hs) (Rd.own' hr2 hs)) hs fun _ _ hs _ => ⟨rfl, hs.put2 5 6 (Nat.le_of_ble_eq_true rfl) (Nat.le_of_ble_eq_true rfl)⟩
    · exact obg [8, 10] [] true rfl (fun _ => rfl) rfl (fun _ _ _ h => nomatch h) fun D ρ w _ hs => L_callX (vs := [.agg ((vc s.known) ++ [(.slice (aOf (aggS (ρ 20) 16)) ((s.ents).length) (cOf (aggS (ρ 20) 16)) : Value), (.slice (aOf (aggS (ρ 20) 17)) ((s.ticks).length) (cOf (aggS (ρ 20) 17)) : Value) ]).toArray]) (V := fun x : Option Addr × Nat => .slice x.1 (cartsS s).length x.2) EN_37 rfl rfl (cCarts_ok _ s (aOf (aggS (ρ 20) 16)) (cOf (aggS (ρ 20) 16)) (aOf (aggS (ρ 20) 17)) (cOf (aggS (ρ 20) 17)) hok (by omega) (by omega) (hs.rd 5 rfl) (hs.rd 6 rfl)) hs fun _ _ hs _ => ⟨rfl, hs.put 7 (Nat.le_of_ble_eq_true rfl)⟩
    · exact obg [8] [] true rfl (fun _ => rfl) rfl (fun _ _ _ h => nomatch h) fun D ρ w _ hs => L_ldW (cs := (vc s.known) ++ [(.slice a1 s.ents.length c1 : Value), (.slice a2 s.ticks.length c2 : Value) ]) SA_57 hs 0 rfl rfl rfl ⟨rfl, hs⟩
    · exact obg [8, 12] [] true rfl (fun _ => rfl) rfl (fun _ _ _ h => nomatch h) fun D ρ w _ hs => L_callX (vs := [.agg ((vc s.known) ++ [(.slice a1 s.ents.length c1 : Value), (.slice a2 s.ticks.length c2 : Value) ]).toArray]) (V := fun x : Option Addr × Nat => .slice x.1 (cartsS s).length x.2) EN_38 rfl rfl (rCarts8_ok _ s a1 c1 a2 c2 hok (by omega) (Rd.own' hr1 hs) (Rd.own' hr2 hs)) hs fun _ _ hs _ => ⟨rfl, hs.put 8 (Nat.le_of_ble_eq_true rfl)⟩
    · exact obg [8, 11, 13] [] true rfl (fun _ => rfl) rfl (fun _ _ _ h => nomatch h) fun D ρ w _ hs => L_callPV (V' := .bool true) (congrArg Value.bool (by simp)) (vs := [.slice (aOf (ρ 21)) ((cartsS s).length) (cOf (ρ 21)), .slice (aOf (ρ 23)) ((cartsS s).length) (cOf (ρ 23))]) (V := .bool (decide (cartsS s = cartsS s))) EN_36 rfl rfl (eqU_ok _ (aOf (ρ 21)) (aOf (ρ 23)) (cOf (ρ 21)) (cOf (ρ 23)) (cartsS s) (cartsS s) (hs.rd 7 rfl) (hs.rd 8 rfl)) hs fun _ hs => ⟨rfl, hs⟩
    · exact ob [8, 14] [] rfl rfl fun D ρ w hs => L_pick (V := .bool true) rfl rfl ⟨rfl, hs⟩
    · exact ob [15] [] rfl rfl fun D ρ w hs => L_assign (V := .bool true) rfl ⟨rfl, hs⟩
    rintro ρ1 w14 ρ2 hρ hs
    replace hρ : ρ2 = upd (mix [10, 11, 12, 13, 14, 15, 16, 17, 18, 19, 20, 21, 22, 23, 24, 25, 4] ρ1 _) 4 (.bool true) := hρ
    replace hs : Own w no w14 [blk b1 ((vc s.known) ++ [(.slice a1 s.ents.length c1 : Value), (.slice a2 s.ticks.length c2 : Value) ]) 57, row (.slice (aOf (aggS (ρ1 11) 16)) ((s.ents).length) (cOf (aggS (ρ1 11) 16))) (s.ents.map cec) 128 7, row (.slice (aOf (aggS (ρ1 11) 17)) ((s.ticks).length) (cOf (aggS (ρ1 11) 17))) (s.ticks.map lsc) 126 2, row (.slice (aOf (aggS (ρ1 13) 1)) (((viewC s n (rightS s)).lines).length) (cOf (aggS (ρ1 13) 1))) (((viewC s n (rightS s)).lines).map lc) 102 2, row (.slice (aOf (aggS (ρ1 16) 1)) (((viewC s n (rightS s)).lines).length) (cOf (aggS (ρ1 16) 1))) (((viewC s n (rightS s)).lines).map lc) 102 2, row (.slice (aOf (aggS (ρ1 20) 16)) ((s.ents).length) (cOf (aggS (ρ1 20) 16))) (s.ents.map cec) 128 7, row (.slice (aOf (aggS (ρ1 20) 17)) ((s.ticks).length) (cOf (aggS (ρ1 20) 17))) (s.ticks.map lsc) 126 2, row (.slice (aOf (ρ1 21)) ((cartsS s).length) (cOf (ρ1 21))) ((cartsS s).map (ic .u16)) 70 1, row (.slice (aOf (ρ1 23)) ((cartsS s).length) (cOf (ρ1 23))) ((cartsS s).map (ic .u16)) 70 1] := hs
    generalize (aOf (aggS (ρ1 11) 16)) = na15 at hs
    generalize (cOf (aggS (ρ1 11) 16)) = nc16 at hs
    generalize (aOf (aggS (ρ1 11) 17)) = na17 at hs
    generalize (cOf (aggS (ρ1 11) 17)) = nc18 at hs
    generalize (aOf (aggS (ρ1 13) 1)) = na19 at hs
    generalize (cOf (aggS (ρ1 13) 1)) = nc20 at hs
    generalize (aOf (aggS (ρ1 16) 1)) = na21 at hs
    generalize (cOf (aggS (ρ1 16) 1)) = nc22 at hs
    generalize (aOf (aggS (ρ1 20) 16)) = na23 at hs
    generalize (cOf (aggS (ρ1 20) 16)) = nc24 at hs
    generalize (aOf (aggS (ρ1 20) 17)) = na25 at hs
    generalize (cOf (aggS (ρ1 20) 17)) = nc26 at hs
    generalize (aOf (ρ1 21)) = a27 at hs
    generalize (cOf (ρ1 21)) = c28 at hs
    generalize (aOf (ρ1 23)) = a29 at hs
    generalize (cOf (ρ1 23)) = c30 at hs
    subst hρ
    refine W_ret ?_
    refine ⟨_, res_one (V := .bool true) Try.results7 rfl, ?_⟩
    refine ⟨congrArg Ending.returned ?_, hs.take 0⟩
    rfl
end Tt
end Go.Proofs
namespace Go.Proofs.Ythbbcjimiemdgaa
open Go.RowKit Go.Vx
theorem Try.own : ownKnob Try.prog.godebug = none := by kernel_rfl
theorem Try.laidOut : laidOutB Try.prog = true := by kernel_rfl
theorem O53 : OpenT Try.prog 53 vc VecOk := O_vec Try.underlying53 Try.underlying51 (by kernel_rfl) (by kernel_rfl)
theorem O96 : OpenT Try.prog 96 dc DotOk := O_dot Try.underlying96 rfl rfl Try.underlying5 Try.underlying51 (by kernel_rfl) (by kernel_rfl) (by kernel_rfl)
theorem O134 : OpenT Try.prog 134 cec CenOk := O_cen Try.underlying134 rfl rfl O96 Try.underlying70 Try.underlying70 Try.underlying70 Try.underlying5 Try.underlying92 (by kernel_rfl) (by kernel_rfl)
theorem O135 : OpenT Try.prog 135 lsc LstOk := O_lst Try.underlying135 rfl Try.underlying70 Try.underlying51 (by kernel_rfl) (by kernel_rfl)
end Go.Proofs.Ythbbcjimiemdgaa
namespace Go.Vx
open Go.RowKit Go.Shelf Go.Sort Go.Proofs
theorem own_grow {w w' : World} {L : List Res} (h : Own w no w' L) : ∃ q os, w' = grow (w.drewN q) os := by
  refine ⟨w'.drawn - w.drawn, w'.heap.extract w.heap.size w'.heap.size, ?_⟩
  have hd : w.drawn + (w'.drawn - w.drawn) = w'.drawn := by have := h.tape.2; omega
  have hh : w.heap ++ w'.heap.extract w.heap.size w'.heap.size = w'.heap := by
    apply Array.ext_getElem?
    intro i
    by_cases hi : i < w.heap.size
    · rw [Array.getElem?_append_left hi, h.old i hi (fun h => h)]
    · rw [Array.getElem?_append_right (by omega)]
      have := h.size
      simp only [Array.getElem?_extract]
      split
      · congr 1; omega
      · rw [Array.getElem?_eq_none (by omega)]
  have h1 := h.os
  have h2 := h.tape.1
  have h3 := h.output
  cases w' with
  | mk heap tape drawn os output =>
    cases w with
    | mk heap0 tape0 drawn0 os0 output0 =>
      simp only at h1 h2 h3 hd hh
      subst h1; subst h2; subst h3
      simp [grow, World.drewN, hh, hd]
section
variable {P : Program} {ρ : Ren} {α : Type} [Inhabited α]
theorem flatK_at {enc : α → List Value} {k : Nat} {l : List α} (hk : ∀ x, (enc x).length = k) {j : Nat} (hj : j < l.length * k) : (l.map enc).flatten[j]? = some (flatK enc k l.toArray)[j]! := by
  have hk0 : 0 < k := by
    rcases Nat.eq_zero_or_pos k with h | h
    · subst h; simp at hj
    · exact h
  have hi : j / k < l.length := Nat.div_lt_of_lt_mul (by rw [Nat.mul_comm]; exact hj)
  have hm : j % k < k := Nat.mod_lt _ hk0
  have e1 : (l.map enc)[j / k]? = some (enc l[j / k]) := by simp [hi]
  have e2 : (enc l[j / k])[j % k]? = some (enc l[j / k])[j % k]! := by
    rw [List.getElem?_eq_getElem (by rw [hk]; exact hm), List.getElem!_eq_getElem?_getD, List.getElem?_eq_getElem (by rw [hk]; exact hm)]
    rfl
  have h := flat_at (l.map enc) k (len_map hk l) (j / k) (j % k) _ _ e1 e2
  rw [Nat.mul_comm, Nat.div_add_mod] at h
  rw [h, get_flatK enc k l.toArray j (by simpa using hj)]
  simp [hi]
theorem own_sorted {enc : α → List Value} {k : Nat} {w : World} {S : Nat → Prop} {g cap T n : Nat} {l m : List α} {os : Array Obj} (hk : ∀ x, (enc x).length = k) (h1 : ∀ x, ∀ v ∈ enc x, v.oneCell' = true)
    (hR : (row (.slice (some ⟨g, 0, none⟩) l.length cap) (l.map enc) T k).holds w S) (hlt : ∀ b, S b → b < w.heap.size) (hlen : m.length = l.length) :
    Own w S (sortWorldK enc k w g 0 n m.toArray os) [row (.slice (some ⟨g, 0, none⟩) l.length cap) (m.map enc) T k] := by
  obtain ⟨_, hown, hS⟩ := hR
  have hSg := hS g rfl
  have hgl := hlt g hSg
  rcases hown.2 with ⟨hv, _⟩ | ⟨g', cap', cur, hv, _, hg, hnc, hcm, hcs, htake⟩
  · cases hv
  · simp only [Value.slice.injEq, Option.some.injEq, Addr.mk.injEq, and_true] at hv
    obtain ⟨rfl, hn, rfl⟩ := hv
    simp only [List.length_map] at hnc htake hn
    have hX : ∀ c, c < w.heap.size → (sortWorldK enc k w g 0 n m.toArray os).heap[c]? = (w.heap.modify g (onCells (putCells id 0 (flatK enc k m.toArray))))[c]? := by
      intro c hc
      show ((w.heap.modify g (onCells (putCells id 0 (flatK enc k m.toArray)))) ++ os)[c]? = _
      rw [Array.getElem?_append_left (by simpa using hc)]
    have hXg : (sortWorldK enc k w g 0 n m.toArray os).heap[g]? = some (.cells (putCells id 0 (flatK enc k m.toArray) cur) T (0, 0)) := by
      rw [hX g hgl, Array.getElem?_modify, if_pos rfl, hg]; rfl
    have hXo : ∀ c, c < w.heap.size → c ≠ g → (sortWorldK enc k w g 0 n m.toArray os).heap[c]? = w.heap[c]? := by
      intro c hc hne
      rw [hX c hc, Array.getElem?_modify, if_neg (fun e => hne e.symm)]
    have hsz : (sortWorldK enc k w g 0 n m.toArray os).heap.size = w.heap.size + os.size := by
      show ((w.heap.modify g (onCells (putCells id 0 (flatK enc k m.toArray)))) ++ os).size = _
      simp
    refine ⟨rfl, ⟨rfl, Nat.le_add_right _ _⟩, rfl, by omega, fun b hb hm => hXo b hb (fun e => hm (e ▸ hSg)), fun j b => j = 0 ∧ b = g, fun j R hj => ?_, fun j b hb => by rw [hb.2]; omega, fun j j' b hb hb' => hb.1.trans hb'.1.symm, fun j b hb _ => by rw [hb.2]; exact hSg⟩
    cases j with
    | succ j => simp at hj
    | zero =>
      simp only [List.getElem?_cons_zero, Option.some.injEq] at hj
      subst hj
      refine ⟨⟨len_map hk m, one_map h1 m⟩, ⟨?_, .inr ⟨g, cap, _, by rw [List.length_map, hlen], Nat.zero_le _, hXg, by rw [List.length_map]; omega, hcm, by unfold putCells; simpa using hcs, ?_⟩⟩, fun g' hg' => by cases hg'; exact ⟨rfl, rfl⟩⟩
      · rw [flat_len _ (len_map hk m)]
      · apply List.ext_getElem?
        intro j
        rw [List.getElem?_take, List.length_map]
        by_cases hj : j < m.length * k
        · have hjc : j < cur.size := by
            rw [hcs]
            exact Nat.lt_of_lt_of_le hj (Nat.mul_le_mul_right _ (by omega))
          rw [if_pos hj, flatK_at hk hj, Array.getElem?_toList]
          unfold putCells
          rw [Array.getElem?_mapIdx, Array.getElem?_eq_getElem hjc]
          simp [hj]
        · rw [if_neg hj, List.getElem?_eq_none (by rw [flat_len _ (len_map hk m), List.length_map]; omega)]
theorem sortC_of (L : SlLaysF0.n6 P ρ) {k T g : Nat} {enc : α → List Value} {cf : α → α → Int} (aE : ∀ w, (isAgg (ρ.t 24)).run P w = .ok true w) (zE : ∀ w, (Go.sizeOf (ρ.t 24)).run P w = .ok k w) (hk : ∀ x, (enc x).length = k) (h1 : ∀ x, ∀ v ∈ enc x, v.oneCell' = true)
    (hO : SWO (ltOf cf)) (hg : En P g) (hc : ∀ w x y, Calls P g #[.agg (enc x).toArray, .agg (enc y).toArray] w fun e w' => e = .returned (.int .i64 (cf x y)) ∧ Own w no w' [])
    (hnil : ∀ w, Calls P (ρ.f 6) #[.slice none 0 0, .func (.func g) #[] #[]] w fun e w' => e = .returned (.tuple #[]) ∧ w' = w) :
    SortC P (ρ.f 6) g enc T k (fun l m => m.Perm l ∧ m.Pairwise fun x y => ¬ cf y x < 0) := by
  intro w S a c l hR hlt hsz
  have hR' := hR
  obtain ⟨_, hown, hS⟩ := hR
  rcases hown.2 with ⟨hv, hn⟩ | ⟨b, cap, cur, hv, _, hb, hnc, hcm, hcs, htake⟩
  · have hl : l = [] := by simpa using hn
    subst hl
    simp only [List.length_nil, Value.slice.injEq] at hv
    obtain ⟨rfl, _, rfl⟩ := hv
    exact (hnil w).mono fun e w' ⟨he, hw⟩ => ⟨⟨[], List.Perm.refl _, List.Pairwise.nil⟩, he, by subst hw; exact Own.lent hR' hlt, trivial⟩
  · simp only [Value.slice.injEq, List.length_map] at hv
    obtain ⟨rfl, _, rfl⟩ := hv
    have hbl := hlt b (hS b rfl)
    have hH : HoldsK enc k w b 0 l.toArray := by
      intro j hj
      have hj' : j < l.length * k := by simpa using hj
      rw [Nat.zero_add]
      refine ⟨?_, frozen_of_row w b _ _ _ hb⟩
      rw [cell_of_row w b j _ _ _ hb]
      have h2 := flatK_at (l := l) hk hj'
      rw [← htake, List.getElem?_take, List.length_map, if_pos hj'] at h2
      simpa using h2
    have hcmp : CmpLays P g #[] enc k cf b 0 l.toArray.size w := fun m os dk _ x y =>
      (hc _ x y).mono fun e w' ⟨he, ho⟩ => ⟨he, own_grow ho⟩
    refine (AnyQ.slices_SortFunc L k aE zE enc hk h1 cf hO g #[] b 0 c l.toArray w hg hcmp hH hbl (by simpa using hsz)).mono ?_
    rintro e w' ⟨he, d', n, os, hp, hs, rfl⟩
    obtain ⟨hp1, _, hp2⟩ := hp
    have hsz' : d'.toList.length = l.length := by simpa using hp1
    refine ⟨⟨d'.toList, ?_, ?_⟩, he, ?_, trivial⟩
    · have e1 : d'.extract 0 l.toArray.size = d' := by rw [← hp1]; simp
      have e2 : l.toArray.extract 0 l.toArray.size = l.toArray := by simp
      rw [e1, e2] at hp2
      simpa using hp2
    · rw [List.pairwise_iff_getElem]
      intro i j hi hj hij
      have h3 := hs i j (Nat.zero_le _) hij (by rw [← hp1]; simpa using hj)
      unfold ltOf at h3
      have e1 : d'[i]! = d'.toList[i] := by simp at hi; simp [hi]
      have e2 : d'[j]! = d'.toList[j] := by simp at hj; simp [hj]
      rw [e1, e2] at h3
      simpa using h3
    · have := own_sorted (n := n) (os := os) hk h1 hR' hlt hsz'
      simpa using this
end
end Go.Vx
namespace Go.Proofs
open Go.Shelf
def Try.sortE_ren : Go.Shelf.Ren := ⟨fun | 6 => 63 | 15 => 102 | 14 => 101 | 28 => 133 | 29 => 134 | 20 => 125 | 21 => 126 | 22 => 127 | 23 => 128 | 24 => 129 | 25 => 130 | 26 => 131 | 27 => 132 | 46 => 153 | 47 => 154 | 48 => 155 | 49 => 156 | 50 => 157 | 57 => 166 | n => n, fun | 22 => 59 | 24 => 128 | 25 => 132 | 3 => 3 | 39 => 170 | 0 => 0 | 53 => 51 | 55 => 92 | 4 => 4 | 46 => 191 | 45 => 190 | 50 => 139 | 5 => 5 | 9 => 9 | 66 => 210 | 70 => 214 | 76 => 220 | 77 => 221 | n => n, fun | n => n⟩
theorem Try.sortE : Go.Proofs.SlLaysF0.n6 Try.prog Try.sortE_ren := {
  mixed := by kernel_rfl
  f6 := ⟨Try.f63.name, by decide, Try.func63.trans (congrArg some (by kernel_rfl))⟩
  f14 := ⟨Try.f101.name, by decide, Try.func101.trans (congrArg some (by kernel_rfl))⟩
  f15 := Try.func102.trans (congrArg some (by kernel_rfl))
  f20 := ⟨Try.f125.name, by decide, Try.func125.trans (congrArg some (by kernel_rfl))⟩
  f21 := ⟨Try.f126.name, by decide, Try.func126.trans (congrArg some (by kernel_rfl))⟩
  f22 := ⟨Try.f127.name, by decide, Try.func127.trans (congrArg some (by kernel_rfl))⟩
  f23 := ⟨Try.f128.name, by decide, Try.func128.trans (congrArg some (by kernel_rfl))⟩
  f24 := ⟨Try.f129.name, by decide, Try.func129.trans (congrArg some (by kernel_rfl))⟩
  f25 := ⟨Try.f130.name, by decide, Try.func130.trans (congrArg some (by kernel_rfl))⟩
  f26 := ⟨Try.f131.name, by decide, Try.func131.trans (congrArg some (by kernel_rfl))⟩
  f27 := ⟨Try.f132.name, by decide, Try.func132.trans (congrArg some (by kernel_rfl))⟩
  f28 := Try.func133.trans (congrArg some (by kernel_rfl))
  f29 := Try.func134.trans (congrArg some (by kernel_rfl))
  f46 := ⟨Try.f153.name, by decide, Try.func153.trans (congrArg some (by kernel_rfl))⟩
  f47 := Try.func154.trans (congrArg some (by kernel_rfl))
  f48 := Try.func155.trans (congrArg some (by kernel_rfl))
  f49 := ⟨Try.f156.name, by decide, Try.func156.trans (congrArg some (by kernel_rfl))⟩
  f50 := ⟨Try.f157.name, by decide, Try.func157.trans (congrArg some (by kernel_rfl))⟩
  f57 := ⟨Try.f166.name, by decide, Try.func166.trans (congrArg some (by kernel_rfl))⟩
  t0 := Try.underlying0
  a0 := Try.isAgg0
  z0 := Try.sizeOf0
  v0 := Try.zeroValue0
  t3 := Try.underlying3
  a3 := Try.isAgg3
  z3 := Try.sizeOf3
  v3 := Try.zeroValue3
  t4 := Try.underlying4
  a4 := Try.isAgg4
  z4 := Try.sizeOf4
  v4 := Try.zeroValue4
  t5 := Try.underlying5
  a5 := Try.isAgg5
  z5 := Try.sizeOf5
  v5 := Try.zeroValue5
  t9 := Try.underlying9
  a9 := Try.isAgg9
  z9 := Try.sizeOf9
  v9 := Try.zeroValue9
  t22 := Try.underlying59
  a22 := Try.isAgg59
  z22 := Try.sizeOf59
  v22 := Try.zeroValue59
  t25 := Try.underlying132
  a25 := Try.isAgg132
  z25 := Try.sizeOf132
  v25 := Try.zeroValue132
  t39 := Try.underlying170
  a39 := Try.isAgg170
  z39 := Try.sizeOf170
  v39 := Try.zeroValue170
  t45 := Try.underlying190
  a45 := Try.isAgg190
  z45 := Try.sizeOf190
  v45 := Try.zeroValue190
  t46 := Try.underlying191
  a46 := Try.isAgg191
  z46 := Try.sizeOf191
  v46 := Try.zeroValue191
  t50 := Try.underlying139
  a50 := Try.isAgg139
  z50 := Try.sizeOf139
  v50 := Try.zeroValue139
  t53 := Try.underlying51
  a53 := Try.isAgg51
  z53 := Try.sizeOf51
  v53 := Try.zeroValue51
  t55 := Try.underlying92
  a55 := Try.isAgg92
  z55 := Try.sizeOf92
  v55 := Try.zeroValue92
  t66 := Try.underlying210
  a66 := Try.isAgg210
  z66 := Try.sizeOf210
  v66 := Try.zeroValue210
  t70 := Try.underlying214
  a70 := Try.isAgg214
  z70 := Try.sizeOf214
  v70 := Try.zeroValue214
  t76 := Try.underlying220
  a76 := Try.isAgg220
  z76 := Try.sizeOf220
  v76 := Try.zeroValue220
  t77 := Try.underlying221
  a77 := Try.isAgg221
  z77 := Try.sizeOf221
  v77 := Try.zeroValue221 }
end Go.Proofs
namespace Go.Proofs.Ythbbcjimiemdgaa
open Go.Vx Go.Sort Go.Proofs
theorem swoE : SWO (ltOf placeI) where
  irrefl x := by unfold ltOf; rw [decide_eq_false_iff_not, place_lt, ahead_irrefl]; decide
  trans x y z h1 h2 := by unfold ltOf at *; rw [decide_eq_true_iff, place_lt] at *; exact ahead_trans h1 h2
  ntrans x y z h1 h2 := by unfold ltOf at *; rw [decide_eq_false_iff_not, place_lt, ahead_iff] at *; omega
theorem sortsE : SortC Try.prog 63 64 cec 128 7 srtE :=
  sortC_of (ρ := Try.sortE_ren) (k := 7) (T := 128) Try.sortE Try.isAgg128 Try.sizeOf128 (fun _ => rfl) cec_one swoE Try.call64 (fun w x y => Tt.place_ok w x y) (fun w => AnyF.slices_SortFunc_none Try.sortE none 0 _ w)
end Go.Proofs.Ythbbcjimiemdgaa
