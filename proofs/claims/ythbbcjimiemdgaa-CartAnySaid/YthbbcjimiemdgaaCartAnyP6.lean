/- A part of a proof: what functions of the program compute, and plain facts on that. -/
import Derived.Test.YthbbcjimiemdgaaCartAnyP5
import Derived.KernelRfl
import Derived.Test.YthbbcjimiemdgaaProg
import Derived.Shelf.SlSortCmp.WholeK
import Derived.Shelf.SlLaysF0
import Derived.Ground.SlsfProg
import Derived.Shelf.SlSortCmp.NoneTotal
set_option linter.unusedVariables false
set_option linter.unusedSimpArgs false
namespace Go.Proofs
open Go Go.Vx Go.RowKit
namespace Tt
set_option maxRecDepth 20000 in
set_option maxHeartbeats 4000000 in
theorem cView_ok (w : World) (s : Sta) (a1 : Option Addr) (c1 : Nat) (a2 : Option Addr) (c2 : Nat) (n : Int) (hok : StaOk s) (hle : s.ents.length ≤ 1000) (hlt : s.ticks.length ≤ 1000) (hr1 : Rd w (.slice a1 s.ents.length c1) 7 (s.ents.map cec)) (hr2 : Rd w (.slice a2 s.ticks.length c2) 2 (s.ticks.map lsc)) : Calls Try.prog 34 #[.agg ((vc s.known) ++ [(.slice a1 s.ents.length c1 : Value), (.slice a2 s.ticks.length c2 : Value) ]).toArray, .int .u16 n] w (fun e w' => ∃ x : Option Addr × Nat, e = .returned (.agg [.int .u16 (viewC s n (rightS s)).cart, .slice x.1 (viewC s n (rightS s)).lines.length x.2, .bool (viewC s n (rightS s)).out, .int .u32 (viewC s n (rightS s)).tick].toArray) ∧ Own w no w' [row (.slice x.1 (viewC s n (rightS s)).lines.length x.2) ((viewC s n (rightS s)).lines.map lc) 102 2] ∧ True) := by
  refine calls_of_Wn (n := 94) Try.func34 rfl Try.ntmps34 rfl ?_
  have hs := Own.start w
  have ⟨hv0, hE0, hT0⟩ := hok
  refine W_seq ?_
  refine W_region ?_
  refine RW_op (L_box (V := .agg ((vc s.known) ++ [(.slice a1 s.ents.length c1 : Value), (.slice a2 s.ticks.length c2 : Value) ]).toArray) (cs := (vc s.known) ++ [(.slice a1 s.ents.length c1 : Value), (.slice a2 s.ticks.length c2 : Value) ]) rfl rfl hs fun b1 w2 hs => ?_)
  refine RW_op (L_alloc (cs := [.int .u16 0, .slice none 0 0, .bool false, .int .u32 0]) ZV_74 rfl hs fun b3 w4 hs => ?_)
  refine RW_nil ?_
  refine W_seq ?_
  refine W_region ?_
  refine RW_op (L_move (V := .int .u16 n) rfl ?_)
  refine RW_op (L_build (vs := [(0, .int .u16 n)]) (cs := [.int .u16 n, .slice none 0 0, .bool false, .int .u32 0]) BT_74 (rfl) rfl ?_)
  refine RW_op (L_alloc (cs := [.int .u16 0, .slice none 0 0, .bool false, .int .u32 0]) ZV_74 rfl hs fun b5 w6 hs => ?_)
  refine RW_op (L_st (V := .agg #[.int .u16 n, .slice none 0 0, .bool false, .int .u32 0]) (vs := [.int .u16 n, .slice none 0 0, .bool false, .int .u32 0]) (cs' := [.int .u16 n, .slice none 0 0, .bool false, .int .u32 0]) SA_74.1 hs 2 rfl rfl rfl rfl rfl (Nat.le_of_ble_eq_true rfl) (one_cons rfl (one_cons rfl (one_cons rfl (one_cons rfl one_nil)))) (spl_whole rfl) fun w7 hs => ?_)
  replace hs : Own w no w7 [blk b1 ((vc s.known) ++ [(.slice a1 s.ents.length c1 : Value), (.slice a2 s.ticks.length c2 : Value) ]) 62, blk b3 [.int .u16 0, .slice none 0 0, .bool false, .int .u32 0] 74, blk b5 [.int .u16 n, .slice none 0 0, .bool false, .int .u32 0] 74] := hs
  refine RW_nil ?_
  refine W_seq ?_
  refine W_seq ?_
  refine W_region ?_
  refine RW_op (L_ldW (cs := (vc s.known) ++ [(.slice a1 s.ents.length c1 : Value), (.slice a2 s.ticks.length c2 : Value) ]) SA_62 hs 0 rfl rfl rfl ?_)
  refine RW_op (L_callP (vs := [.agg ((vc s.known) ++ [(.slice a1 s.ents.length c1 : Value), (.slice a2 s.ticks.length c2 : Value) ]).toArray]) (V := .bool (rightS s)) EN_58 rfl rfl ?hc hs fun w8 hs => ?_)
  case hc => exact (cRight_ok _ s a1 c1 a2 c2 hok (by omega) (by omega) (Rd.own' hr1 hs) (Rd.own' hr2 hs))
  refine RW_op (L_not rfl ?_)
  refine RW_nil ?_
  refine W_cond (t := !(rightS s)) rfl (fun c9 => ?_) (fun c9 => ?_)
  ·
    replace c9 := not_t c9
    refine W_seq ?_
    refine W_region ?_
    refine RW_op (L_ldW (cs := [.int .u16 n, .slice none 0 0, .bool false, .int .u32 0]) SA_74 hs 2 rfl rfl rfl ?_)
    refine RW_op (L_st (V := .agg #[.int .u16 n, .slice none 0 0, .bool false, .int .u32 0]) (vs := [.int .u16 n, .slice none 0 0, .bool false, .int .u32 0]) (cs' := [.int .u16 n, .slice none 0 0, .bool false, .int .u32 0]) SA_74.1 hs 1 rfl rfl rfl rfl rfl (Nat.le_of_ble_eq_true rfl) (one_cons rfl (one_cons rfl (one_cons rfl (one_cons rfl one_nil)))) (spl_whole rfl) fun w10 hs => ?_)
    refine RW_nil ?_
    refine W_ret ?_
    refine ⟨_, res_cell (cs := [.int .u16 n, .slice none 0 0, .bool false, .int .u32 0]) Try.results34 SA_74 hs 1 rfl rfl rfl, ?_⟩
    rw [c9]
    exact ⟨(none, 0), rfl, (hs.take 0).more _ (row_nil _ _ 102 2), trivial⟩
  ·
    replace c9 := not_f c9
    refine W_skip ?_
    refine W_seq ?_
    refine W_seq ?_
    have hrc := rightS_iff.1 c9
    refine W_region ?_
    refine RW_op (L_ldW (cs := (vc s.known) ++ [(.slice a1 s.ents.length c1 : Value), (.slice a2 s.ticks.length c2 : Value) ]) SA_62 hs 0 rfl rfl rfl ?_)
    refine RW_op (L_move (V := .int .u16 n) rfl ?_)
    refine RW_op (L_callP (vs := [.agg ((vc s.known) ++ [(.slice a1 s.ents.length c1 : Value), (.slice a2 s.ticks.length c2 : Value) ]).toArray, .int .u16 n]) (V := .tuple #[.int .i64 ((posT s.ticks n : Nat) : Int), .bool ((tickP s.ticks n).isSome)]) EN_70 rfl rfl ?hc hs fun w11 hs => ?_)
    case hc => exact (sFind_ok _ s.known (.slice a1 s.ents.length c1) a2 c2 s.ticks n (by omega) hrc.rt (Rd.own' hr2 hs))
    refine RW_op (L_move (V := .tuple #[.int .i64 ((posT s.ticks n : Nat) : Int), .bool ((tickP s.ticks n).isSome)]) rfl ?_)
    refine RW_op (L_extract (V := .int .i64 ((posT s.ticks n : Nat) : Int)) rfl rfl ?_)
    refine RW_op (L_extract (V := .bool ((tickP s.ticks n).isSome)) rfl rfl ?_)
    refine RW_op (L_assign (V := .int .i64 ((posT s.ticks n : Nat) : Int)) rfl ?_)
    refine RW_op (L_assign (V := .bool ((tickP s.ticks n).isSome)) rfl ?_)
    refine RW_nil ?_
    refine W_seq ?_
    refine W_region ?_
    refine RW_op (L_move (V := .bool ((tickP s.ticks n).isSome)) rfl ?_)
    refine RW_nil ?_
    refine W_mid (fun ρ ρ' w' => ∃ (ρo : Env) (tk : Int), ρ' = mix [25, 26, 27, 28, 29, 30, 31] ρo ρ ∧ (tk = (tickP s.ticks n).getD 0) ∧ Own w no w' [blk b1 ((vc s.known) ++ [(.slice a1 s.ents.length c1 : Value), (.slice a2 s.ticks.length c2 : Value) ]) 62, blk b3 [.int .u16 0, .slice none 0 0, .bool false, .int .u32 0] 74, blk b5 [.int .u16 n, .slice none 0 0, .bool false, .int .u32 tk] 74]) ?_ ?_
    ·
      refine W_cond (t := (tickP s.ticks n).isSome) rfl (fun c12 => ?_) (fun c12 => ?_)
      ·
        have hfa := (find_at hrc.rt c12).1
        refine W_region ?_
        refine RW_op (L_fieldAddr FA_62_2 rfl ?_)
        refine RW_op (L_ld (V := .slice a2 s.ticks.length c2) S1_60 hs 0 rfl rfl rfl ?_)
        refine RW_op (L_move (V := .int .i64 ((posT s.ticks n : Nat) : Int)) rfl ?_)
        refine RW_op (L_ixR UD_60 SA_126.1 (Rd.own' hr2 hs) rfl rfl (by omega) (by rw [List.length_map]; omega) ?_)
        refine RW_op (L_fieldAddr FA_126_1 rfl ?_)
        refine RW_op (L_ldR (j := 1) (V := .int .u32 ((gd s.ticks (posT s.ticks n)).tick)) (posT s.ticks n) S1_51 (Rd.own' hr2 hs) (gd_at (by omega)) rfl rfl (by omega) ?_)
        refine RW_op (L_fieldAddr FA_74_3 rfl ?_)
        refine RW_op (L_st1 (V := .int .u32 ((gd s.ticks (posT s.ticks n)).tick)) (cs' := [.int .u16 n, .slice none 0 0, .bool false, .int .u32 ((gd s.ticks (posT s.ticks n)).tick)]) S1_51 hs 2 rfl rfl rfl rfl (Nat.le_of_ble_eq_true rfl) rfl fun w13 hs => ?_)
        refine RW_nil ?_
        exact ⟨_, (gd s.ticks (posT s.ticks n)).tick, mix_of (ds := [25, 26, 27, 28, 29, 30, 31]) (by repeat (first | exact Agr.refl _ _ | refine Agr.upd ?_ rfl | refine Agr.mix ?_ rfl)), (by rw [(find_at hrc.rt c12).2.2]; rfl), hs.take 3⟩
      ·
        refine W_skip ?_
        exact ⟨_, 0, mix_of (ds := [25, 26, 27, 28, 29, 30, 31]) (by repeat (first | exact Agr.refl _ _ | refine Agr.upd ?_ rfl | refine Agr.mix ?_ rfl)), (tick_no c12), hs.take 3⟩
    · rintro ρ' w14 ⟨ρo, tk, rfl, htk, hs⟩
      refine W_seq ?_
      refine W_region ?_
      refine RW_op (L_assign (V := .slice none 0 0) rfl ?_)
      refine RW_nil ?_
      refine W_seq ?_
      refine W_seq ?_
      refine W_region ?_
      refine RW_op (L_fieldAddr FA_62_1 rfl ?_)
      refine RW_op (L_ld (V := .slice a1 s.ents.length c1) S1_59 hs 0 rfl rfl rfl ?_)
      refine RW_op (L_lenR (n := s.ents.length) UD_59 (Rd.own' hr1 hs) (by simp) rfl ?_)
      refine RW_op (L_move (V := .int .i64 0) rfl ?_)
      refine RW_nil ?_
      refine W_block ?_
      replace hs := hs.more (row (.slice none 0 0) (List.map cec []) 128 7) (row_nil _ _ _ _)
      refine W_loopI (fun ρ μ ρ' w' => ∃ (ρo : Env) (k : Nat) (an9 : Option Addr) (cn9 : Nat) (L9 : List Cen) (ou : Bool), ρ' = upd (upd (mix [8, 10, 35, 36, 37, 38, 39, 40, 41, 42, 43, 44, 45, 46, 47, 48, 49, 50, 51, 52, 53] ρo ρ) 35 (.int .i64 ((k : Nat) : Int))) 8 (.slice an9 L9.length cn9) ∧ (k ≤ s.ents.length) ∧ (L9 = (s.ents.take k).filter (fun e : Cen => decide (e.cart = n) && !decide (e.kind = 4))) ∧ (ou = (s.ents.take k).any (fun e : Cen => decide (e.cart = n) && decide (e.kind = 4))) ∧ (L9.length ≤ k) ∧ μ = s.ents.length - k ∧ Own w no w' [blk b1 ((vc s.known) ++ [(.slice a1 s.ents.length c1 : Value), (.slice a2 s.ticks.length c2 : Value) ]) 62, blk b3 [.int .u16 0, .slice none 0 0, .bool false, .int .u32 0] 74, blk b5 [.int .u16 n, .slice none 0 0, .bool ou, .int .u32 tk] 74, row (.slice an9 L9.length cn9) (L9.map cec) 128 7]) ?_ ?_
      · exact ⟨_, _, 0, none, 0, [], false, upd_of (upd_of (mix_of (ds := [8, 10, 35, 36, 37, 38, 39, 40, 41, 42, 43, 44, 45, 46, 47, 48, 49, 50, 51, 52, 53]) (Agr.refl _ _)) rfl) rfl, (by omega), rfl, rfl, (Nat.le_refl _), rfl, hs⟩
      · rintro μ ρ' w15 ⟨ρo, k, an9, cn9, L9, ou, rfl, hk, hL9, hob, hl9, rfl, hs⟩
        refine W_seq ?_
        refine W_region ?_
        refine RW_op (L_lss rfl rfl ?_)
        refine RW_nil ?_
        refine W_seq ?_
        refine W_cond (t := decide (((k : Nat) : Int) < ((s.ents.length : Nat) : Int))) rfl (fun c16 => ?_) (fun c16 => ?_)
        ·
          replace c16 := of_decide_eq_true c16
          refine W_skip ?_
          refine W_seq ?_
          refine W_block ?_
          refine W_seq ?_
          refine W_region ?_
          refine RW_op (L_ixR UD_59 SA_128.1 (Rd.own' hr1 hs) rfl rfl (by omega) (by rw [List.length_map]; omega) ?_)
          refine RW_op (L_ldRA (j := 0) (vs := cec (gd s.ents k)) k SA_128 (Rd.own' hr1 hs) (gd_at (by omega)) rfl rfl rfl (by omega) ?_)
          refine RW_op (L_alloc (cs := cec (⟨0, 0, 0, 0, (⟨0, 0⟩ : Dot), 0⟩ : Cen)) ZV_128 rfl hs fun b17 w18 hs => ?_)
          refine RW_op (L_st (V := .agg (cec (gd s.ents k)).toArray) (vs := cec (gd s.ents k)) (cs' := cec (gd s.ents k)) SA_128.1 hs 4 rfl rfl rfl rfl rfl (Nat.le_of_ble_eq_true rfl) (cec_one _) (spl_whole rfl) fun w19 hs => ?_)
          refine RW_nil ?_
          refine W_block ?_
          refine W_seq ?_
          refine W_region ?_
          refine RW_op (L_fieldAddr FA_128_0 rfl ?_)
          refine RW_op (L_ld (V := .int .u16 ((gd s.ents k).cart)) S1_70 hs 4 rfl rfl rfl ?_)
          refine RW_op (L_move (V := .int .u16 n) rfl ?_)
          refine RW_op (L_neq rfl rfl ?_)
          refine RW_op (L_assign (V := .bool (!decide ((gd s.ents k).cart = n))) rfl ?_)
          refine RW_nil ?_
          refine W_cond (t := !decide ((gd s.ents k).cart = n)) rfl (fun c20 => ?_) (fun c20 => ?_)
          ·
            replace c20 := not_t c20
            replace c20 := of_decide_eq_false c20
            refine W_skip ?_
            refine W_region ?_
            refine RW_op (L_add (a := ((k : Nat) : Int)) (b := 1) (c := ((k + 1 : Nat) : Int)) rfl rfl (nat_i64 (by omega) (by omega)) ?_)
            refine RW_op (L_move (V := .int .i64 ((k + 1 : Nat) : Int)) rfl ?_)
            refine RW_nil ?_
            refine ⟨_, ?_, _, k + 1, an9, cn9, L9, ou, upd_of (upd_of (mix_of (ds := [8, 10, 35, 36, 37, 38, 39, 40, 41, 42, 43, 44, 45, 46, 47, 48, 49, 50, 51, 52, 53]) (by repeat (first | exact Agr.refl _ _ | refine Agr.upd ?_ rfl | refine Agr.mix ?_ rfl))) rfl) rfl, (by omega), (filt_next_no (p := (fun e : Cen => decide (e.cart = n) && !decide (e.kind = 4))) hL9 (by omega) (by simp [c20])), (by rw [← anyT_next (p := (fun e : Cen => decide (e.cart = n) && decide (e.kind = 4))) hob (by omega)]; simp [c20]), (by omega), rfl, hs.take 4⟩
            omega
          ·
            replace c20 := not_f c20
            replace c20 := of_decide_eq_true c20
            refine W_seq ?_
            refine W_region ?_
            refine RW_op (L_fieldAddr FA_128_3 rfl ?_)
            refine RW_op (L_ld (V := .int .u8 ((gd s.ents k).kind)) S1_5 hs 4 rfl rfl rfl ?_)
            refine RW_op (L_eql rfl rfl ?_)
            refine RW_op (L_assign (V := .bool (decide ((gd s.ents k).kind = 4))) rfl ?_)
            refine RW_nil ?_
            refine W_cond (t := decide ((gd s.ents k).kind = 4)) rfl (fun c21 => ?_) (fun c21 => ?_)
            ·
              replace c21 := of_decide_eq_true c21
              refine W_region ?_
              refine RW_op (L_fieldAddr FA_74_2 rfl ?_)
              refine RW_op (L_st1 (V := .bool true) (cs' := [.int .u16 n, .slice none 0 0, .bool true, .int .u32 tk]) S1_4 hs 2 rfl rfl rfl rfl (Nat.le_of_ble_eq_true rfl) rfl fun w22 hs => ?_)
              refine RW_nil ?_
              refine W_region ?_
              refine RW_op (L_add (a := ((k : Nat) : Int)) (b := 1) (c := ((k + 1 : Nat) : Int)) rfl rfl (nat_i64 (by omega) (by omega)) ?_)
              refine RW_op (L_move (V := .int .i64 ((k + 1 : Nat) : Int)) rfl ?_)
              refine RW_nil ?_
              refine ⟨_, ?_, _, k + 1, an9, cn9, L9, true, upd_of (upd_of (mix_of (ds := [8, 10, 35, 36, 37, 38, 39, 40, 41, 42, 43, 44, 45, 46, 47, 48, 49, 50, 51, 52, 53]) (by repeat (first | exact Agr.refl _ _ | refine Agr.upd ?_ rfl | refine Agr.mix ?_ rfl))) rfl) rfl, (by omega), (filt_next_no (p := (fun e : Cen => decide (e.cart = n) && !decide (e.kind = 4))) hL9 (by omega) (by simp [c20, c21])), (by rw [← anyT_next (p := (fun e : Cen => decide (e.cart = n) && decide (e.kind = 4))) hob (by omega)]; simp [c20, c21]), (by omega), rfl, hs.take 4⟩
              omega
            ·
              replace c21 := of_decide_eq_false c21
              refine W_region ?_
              refine RW_op (L_move (V := .slice an9 L9.length cn9) rfl ?_)
              refine RW_op (L_ldW (cs := cec (gd s.ents k)) SA_128 hs 4 rfl rfl rfl ?_)
              refine RW_op (L_bs (vals := [.agg (cec (gd s.ents k)).toArray]) (ls := List.map cec ([gd s.ents k] : List Cen)) EL_59 rfl rfl rfl (len_map (enc := cec) (fun _ => rfl) _) (one_map cec_one _) (Nat.le_of_ble_eq_true rfl) hs fun b23 w24 hs => ?_)
              refine RW_op (L_appN (ls' := (L9 ++ [gd s.ents k]).map cec) (n := (L9 ++ [gd s.ents k]).length) EL_59 hs 3 rfl rfl rfl (hs.rd 5 rfl) (one_map cec_one _) (by simp only [List.length_map, List.length_append, List.length_cons, List.length_nil]; omega) (by simp) (by simp) fun a25 c25 w26 hs => ?_)
              replace hs : Own w no w26 [blk b1 ((vc s.known) ++ [(.slice a1 s.ents.length c1 : Value), (.slice a2 s.ticks.length c2 : Value) ]) 62, blk b3 [.int .u16 0, .slice none 0 0, .bool false, .int .u32 0] 74, blk b5 [.int .u16 n, .slice none 0 0, .bool ou, .int .u32 tk] 74, row (.slice a25 ((L9 ++ [gd s.ents k]).length) c25) ((L9 ++ [gd s.ents k]).map cec) 128 7, blk b17 (cec (gd s.ents k)) 128, row (.slice (some ⟨b23, 0, none⟩) 1 1) ([gd s.ents k].map cec) 128 7] := hs
              refine RW_op (L_assign (V := .slice a25 ((L9 ++ [gd s.ents k]).length) c25) rfl ?_)
              refine RW_nil ?_
              refine W_region ?_
              refine RW_op (L_add (a := ((k : Nat) : Int)) (b := 1) (c := ((k + 1 : Nat) : Int)) rfl rfl (nat_i64 (by omega) (by omega)) ?_)
              refine RW_op (L_move (V := .int .i64 ((k + 1 : Nat) : Int)) rfl ?_)
              refine RW_nil ?_
              refine ⟨_, ?_, _, k + 1, a25, c25, L9 ++ [gd s.ents k], ou, upd_of (upd_of (mix_of (ds := [8, 10, 35, 36, 37, 38, 39, 40, 41, 42, 43, 44, 45, 46, 47, 48, 49, 50, 51, 52, 53]) (by repeat (first | exact Agr.refl _ _ | refine Agr.upd ?_ rfl | refine Agr.mix ?_ rfl))) rfl) rfl, (by omega), (filt_next_yes (p := (fun e : Cen => decide (e.cart = n) && !decide (e.kind = 4))) hL9 (by omega) (by simp [c20, c21])), (by rw [← anyT_next (p := (fun e : Cen => decide (e.cart = n) && decide (e.kind = 4))) hob (by omega)]; simp [c20, c21]), (by rw [List.length_append, List.length_singleton]; omega), rfl, hs.take 4⟩
              omega
        ·
          replace c16 := of_decide_eq_false c16
          refine W_exit ?_
          refine W_seq ?_
          refine W_region ?_
          refine RW_op (L_move (V := .slice an9 L9.length cn9) rfl ?_)
          refine RW_op (L_callB (α := List Cen) (vs := [.slice an9 L9.length cn9, .func (.func 72) #[] #[]]) (V := fun _ => .tuple #[]) (R := row (.slice an9 L9.length cn9) (L9.map cec) 128 7) (R' := fun x => row (.slice an9 L9.length cn9) (x.map cec) 128 7) (Lo := fun _ => []) (F := fun x _ => x.length = L9.length ∧ x.Perm L9 ∧ SrtL (fun x y : Cen => cmpI x.item y.item) x) EN_71 rfl rfl hs 3 rfl (fun S hS hlt => ssS_ok _ S an9 L9.length cn9 L9 rfl (by omega) 72 EN_72 (fun x y : Cen => cmpI x.item y.item) (cmpO_key (fun x : Cen => x.item)) (fun w x y => view1_ok w x y) hS hlt) fun sx28 w27 hs hF29 => ?_)
          refine RW_nil ?_
          refine W_seq ?_
          refine W_block ?_
          replace hs := hs.more (row (.slice none 0 0) (List.map lc []) 102 2) (row_nil _ _ _ _)
          obtain ⟨hQl, hQp, hQs⟩ := hF29
          have hLE : L9 = mineE s n := by rw [hL9, take_all (by omega)]; rfl
          rw [hLE] at hQp
          have hobE := hob
          rw [take_all (by omega)] at hobE
          have hQok : ∀ e ∈ sx28, CenOk e ∧ 1 ≤ e.count := fun e he => by
            have hq := mine_ent hrc (hQp.mem_iff.1 he)
            exact ⟨hE0 e hq.1, hq.2⟩
          refine W_loopI (fun ρ μ ρ' w' => ∃ (ρo : Env) (R : List Cen) (I : List Int) (an3 : Option Addr) (cn3 : Nat) (an6 : Option Addr) (cn6 : Nat) (ol : List Line), ρ' = upd (mix [8, 11, 56, 57, 58, 59, 60, 61, 62, 63, 64, 65, 66, 67, 68, 69, 70, 71, 72, 73, 74, 75, 76, 77, 78, 79, 80, 81, 82, 83, 84, 85, 86, 87, 88, 89, 90, 91, 92] ρo ρ) 8 (.slice an3 R.length cn3) ∧ (Grps sx28 R I) ∧ (ol = I.map (lineS s n)) ∧ (ol.length + R.length ≤ sx28.length) ∧ (∀ w' : World, Rd w' (.slice an9 L9.length cn9) 7 (sx28.map cec) → Rd w' (.slice an3 R.length cn3) 7 (R.map cec)) ∧ μ = R.length + 0 ∧ Own w no w' [blk b1 ((vc s.known) ++ [(.slice a1 s.ents.length c1 : Value), (.slice a2 s.ticks.length c2 : Value) ]) 62, blk b3 [.int .u16 0, .slice none 0 0, .bool false, .int .u32 0] 74, blk b5 [.int .u16 n, .slice an6 ol.length cn6, .bool ou, .int .u32 tk] 74, row (.slice an9 L9.length cn9) (sx28.map cec) 128 7, row (.slice an6 ol.length cn6) (ol.map lc) 102 2]) ?_ ?_
          · exact ⟨_, _, sx28, [], an9, cn9, none, 0, [], upd_of (mix_of (ds := [8, 11, 56, 57, 58, 59, 60, 61, 62, 63, 64, 65, 66, 67, 68, 69, 70, 71, 72, 73, 74, 75, 76, 77, 78, 79, 80, 81, 82, 83, 84, 85, 86, 87, 88, 89, 90, 91, 92]) (Agr.refl _ _)) (congrArg (fun n => Value.slice an9 n cn9) hQl.symm), (grps_start _), rfl, (by simp), (fun w' h => by rw [hQl]; exact h), rfl, hs⟩
          · rintro μ ρ' w30 ⟨ρo, R, I, an3, cn3, an6, cn6, ol, rfl, hgr, hol, hll, hvia, rfl, hs⟩
            refine W_seq ?_
            refine W_seq ?_
            refine W_region ?_
            refine RW_op (L_move (V := .slice an3 R.length cn3) rfl ?_)
            refine RW_op (L_lenR (n := R.length) UD_59 (hvia _ (hs.rd 3 rfl)) (by simp) rfl ?_)
            refine RW_op (L_gtr rfl rfl ?_)
            refine RW_nil ?_
            refine W_cond (t := decide (0 < ((R.length : Nat) : Int))) rfl (fun c31 => ?_) (fun c31 => ?_)
            ·
              replace c31 := of_decide_eq_true c31
              refine W_skip ?_
              refine W_block ?_
              refine W_seq ?_
              refine W_region ?_
              refine RW_op (L_assign (V := .int .i64 1) rfl ?_)
              refine RW_nil ?_
              refine W_seq ?_
              refine W_block ?_
              refine W_loopI (fun ρ μ ρ' w' => ∃ (ρo : Env) (j : Nat), ρ' = upd (mix [11, 59, 60, 61, 62, 63, 64, 65, 66, 67, 68, 69, 70, 71, 72, 73, 74, 75, 76] ρo ρ) 11 (.int .i64 ((j : Nat) : Int)) ∧ (1 ≤ j) ∧ (j ≤ R.length) ∧ (∀ i, i < j → (gd R i).item = (gd R 0).item) ∧ μ = R.length - j ∧ Own w no w' [blk b1 ((vc s.known) ++ [(.slice a1 s.ents.length c1 : Value), (.slice a2 s.ticks.length c2 : Value) ]) 62, blk b3 [.int .u16 0, .slice none 0 0, .bool false, .int .u32 0] 74, blk b5 [.int .u16 n, .slice an6 ol.length cn6, .bool ou, .int .u32 tk] 74, row (.slice an9 L9.length cn9) (sx28.map cec) 128 7, row (.slice an6 ol.length cn6) (ol.map lc) 102 2]) ?_ ?_
              · exact ⟨_, _, 1, upd_of (mix_of (ds := [11, 59, 60, 61, 62, 63, 64, 65, 66, 67, 68, 69, 70, 71, 72, 73, 74, 75, 76]) (Agr.refl _ _)) rfl, (Nat.le_refl _), (by omega), (fun i hi => by rw [show i = 0 by omega]), rfl, hs⟩
              · rintro μ ρ' w32 ⟨ρo, j, rfl, hj1, hj2, hji, rfl, hs⟩
                refine W_seq ?_
                refine W_seq ?_
                refine W_regD HM [some 59, some 60, some 61, some 62, some 63, some 64, some 65, some 66, some 67, some 68, some 69, some 70, some 71, some 72, some 73, some 74] [] [0, 0, 2, 7, 15, 31, 31, 127, 255, 511, 31, 1055, 3103, 7199, 16383, 32767] [pv (.int .i64 ((j : Nat) : Int)), pv (.slice an3 R.length cn3), pv (.int .i64 ((R.length : Nat) : Int)), pv (.bool (decide (((j : Nat) : Int) < ((R.length : Nat) : Int)))), pv (.bool (decide (((j : Nat) : Int) < ((R.length : Nat) : Int)))), pg ((decide (((j : Nat) : Int) < ((R.length : Nat) : Int))) == true) (.slice an3 R.length cn3), pg ((decide (((j : Nat) : Int) < ((R.length : Nat) : Int))) == true) (.int .i64 ((j : Nat) : Int)), pg ((decide (((j : Nat) : Int) < ((R.length : Nat) : Int))) == true) (.pointer (some ⟨bkS (.slice an3 R.length cn3), ofS (.slice an3 R.length cn3) + ((j : Nat) : Int).toNat * 7, none⟩)), pg ((decide (((j : Nat) : Int) < ((R.length : Nat) : Int))) == true) (.pointer (some ⟨bkS (.slice an3 R.length cn3), ofS (.slice an3 R.length cn3) + ((j : Nat) : Int).toNat * 7 + 1, none⟩)), pg ((decide (((j : Nat) : Int) < ((R.length : Nat) : Int))) == true) (.int .u16 ((gd R j).item)), pg ((decide (((j : Nat) : Int) < ((R.length : Nat) : Int))) == true) (.slice an3 R.length cn3), pg ((decide (((j : Nat) : Int) < ((R.length : Nat) : Int))) == true) (.pointer (some ⟨bkS (.slice an3 R.length cn3), ofS (.slice an3 R.length cn3) + (0 : Int).toNat * 7, none⟩)), pg ((decide (((j : Nat) : Int) < ((R.length : Nat) : Int))) == true) (.pointer (some ⟨bkS (.slice an3 R.length cn3), ofS (.slice an3 R.length cn3) + (0 : Int).toNat * 7 + 1, none⟩)), pg ((decide (((j : Nat) : Int) < ((R.length : Nat) : Int))) == true) (.int .u16 ((gd R 0).item)), pg ((decide (((j : Nat) : Int) < ((R.length : Nat) : Int))) == true) (.bool (decide ((gd R j).item = (gd R 0).item))), pv (.bool ((decide (((j : Nat) : Int) < ((R.length : Nat) : Int))) && (decide ((gd R j).item = (gd R 0).item))))] (fun _ _ => _) [15] (by kernel_rfl) hs ⟨?_, ?_, ?_, ?_, ?_, ?_, ?_, ?_, ?_, ?_, ?_, ?_, ?_, ?_, ?_, ?_, trivial⟩ ?_
                · exact ob [] [] rfl rfl fun D ρ w hs => L_move (V := .int .i64 ((j : Nat) : Int)) rfl ⟨rfl, hs⟩
                · exact ob [] [] rfl rfl fun D ρ w hs => L_move (V := .slice an3 R.length cn3) rfl ⟨rfl, hs⟩
                · exact ob [1] [] rfl rfl fun D ρ w hs => L_lenR (n := R.length) UD_59 (hvia _ (hs.rd 3 rfl)) (by simp) rfl ⟨rfl, hs⟩
                · exact ob [0, 2] [] rfl rfl fun D ρ w hs => L_lss rfl rfl ⟨rfl, hs⟩
                · exact ob [3] [] rfl rfl fun D ρ w hs => L_move (V := .bool (decide (((j : Nat) : Int) < ((R.length : Nat) : Int)))) rfl ⟨rfl, hs⟩
                · exact obg [4] [] (decide (((j : Nat) : Int) < ((R.length : Nat) : Int))) rfl (fun _ => rfl) rfl (fun _ _ _ _ h => h) fun D ρ w hG hs => L_move (V := .slice an3 R.length cn3) rfl ⟨rfl, hs⟩
                · exact obg [4] [] (decide (((j : Nat) : Int) < ((R.length : Nat) : Int))) rfl (fun _ => rfl) rfl (fun _ _ _ _ h => h) fun D ρ w hG hs => L_move (V := .int .i64 ((j : Nat) : Int)) rfl ⟨rfl, hs⟩
                · refine obgy [4, 5, 6] [] [5, 6] (decide (((j : Nat) : Int) < ((R.length : Nat) : Int))) rfl (fun _ => rfl) rfl (fun _ _ _ _ h => h) (fun hG => ⟨hG, hG, trivial⟩) fun D ρ w hG hs => ?_
                  have hgd := of_decide_eq_true (eq_of_beq (hG))
                  exact L_ixR UD_59 SA_128.1 (hvia _ (hs.rd 3 rfl)) rfl rfl (by omega) (by rw [List.length_map]; omega) ⟨rfl, hs⟩
                · exact obgy [4, 7] [] [7] (decide (((j : Nat) : Int) < ((R.length : Nat) : Int))) rfl (fun _ => rfl) rfl (fun _ _ _ _ h => h) (fun hG => ⟨hG, trivial⟩) fun D ρ w hG hs => L_fieldAddr FA_128_1 rfl ⟨rfl, hs⟩
                · refine obgy [4, 8] [] [8] (decide (((j : Nat) : Int) < ((R.length : Nat) : Int))) rfl (fun _ => rfl) rfl (fun _ _ _ _ h => h) (fun hG => ⟨hG, trivial⟩) fun D ρ w hG hs => ?_
                  have hgd := of_decide_eq_true (eq_of_beq (hG))
                  exact L_ldR (j := 1) (V := .int .u16 ((gd R j).item)) j S1_70 (hvia _ (hs.rd 3 rfl)) (gd_at (by omega)) rfl rfl (by omega) ⟨rfl, hs⟩
                · exact obg [4] [] (decide (((j : Nat) : Int) < ((R.length : Nat) : Int))) rfl (fun _ => rfl) rfl (fun _ _ _ _ h => h) fun D ρ w hG hs => L_move (V := .slice an3 R.length cn3) rfl ⟨rfl, hs⟩
                · refine obgy [4, 10] [] [10] (decide (((j : Nat) : Int) < ((R.length : Nat) : Int))) rfl (fun _ => rfl) rfl (fun _ _ _ _ h => h) (fun hG => ⟨hG, trivial⟩) fun D ρ w hG hs => ?_
                  have hgd := of_decide_eq_true (eq_of_beq (hG))
                  exact L_ixR UD_59 SA_128.1 (hvia _ (hs.rd 3 rfl)) rfl rfl (by decide) (by rw [List.length_map]; omega) ⟨rfl, hs⟩
                · exact obgy [4, 11] [] [11] (decide (((j : Nat) : Int) < ((R.length : Nat) : Int))) rfl (fun _ => rfl) rfl (fun _ _ _ _ h => h) (fun hG => ⟨hG, trivial⟩) fun D ρ w hG hs => L_fieldAddr FA_128_1 rfl ⟨rfl, hs⟩
                · refine obgy [4, 12] [] [12] (decide (((j : Nat) : Int) < ((R.length : Nat) : Int))) rfl (fun _ => rfl) rfl (fun _ _ _ _ h => h) (fun hG => ⟨hG, trivial⟩) fun D ρ w hG hs => ?_
                  have hgd := of_decide_eq_true (eq_of_beq (hG))
                  exact L_ldR (j := 1) (V := .int .u16 ((gd R 0).item)) 0 S1_70 (hvia _ (hs.rd 3 rfl)) (gd_at (by omega)) rfl rfl (by omega) ⟨rfl, hs⟩
                · exact obgy [4, 9, 13] [] [9, 13] (decide (((j : Nat) : Int) < ((R.length : Nat) : Int))) rfl (fun _ => rfl) rfl (fun _ _ _ _ h => h) (fun hG => ⟨hG, hG, trivial⟩) fun D ρ w hG hs => L_eql rfl rfl ⟨rfl, hs⟩
                · exact ob [4, 14] [] rfl rfl fun D ρ w hs => L_andC (h' := decide ((gd R j).item = (gd R 0).item)) rfl rfl rfl ⟨rfl, hs⟩
                rintro ρ1 w33 ρ2 hρ hs
                replace hρ : ρ2 = upd (mix [59, 60, 61, 62, 63, 64, 65, 66, 67, 68, 69, 70, 71, 72, 73, 74] ρ1 _) 74 (.bool ((decide (((j : Nat) : Int) < ((R.length : Nat) : Int))) && (decide ((gd R j).item = (gd R 0).item)))) := hρ
                subst hρ
                refine W_cond (t := (decide (((j : Nat) : Int) < ((R.length : Nat) : Int))) && (decide ((gd R j).item = (gd R 0).item))) rfl (fun c34 => ?_) (fun c34 => ?_)
                ·
                  have c34r := and_r c34
                  replace c34 := and_l c34
                  replace c34 := of_decide_eq_true c34
                  replace c34r := of_decide_eq_true c34r
                  refine W_skip ?_
                  refine W_block ?_
                  refine W_region ?_
                  refine RW_op (L_move (V := .int .i64 ((j : Nat) : Int)) rfl ?_)
                  refine RW_op (L_add (a := ((j : Nat) : Int)) (b := 1) (c := ((j + 1 : Nat) : Int)) rfl rfl (nat_i64 (by omega) (by omega)) ?_)
                  refine RW_op (L_assign (V := .int .i64 ((j + 1 : Nat) : Int)) rfl ?_)
                  refine RW_nil ?_
                  refine ⟨_, ?_, _, j + 1, upd_of (mix_of (ds := [11, 59, 60, 61, 62, 63, 64, 65, 66, 67, 68, 69, 70, 71, 72, 73, 74, 75, 76]) (by repeat (first | exact Agr.refl _ _ | refine Agr.upd ?_ rfl | refine Agr.mix ?_ rfl))) rfl, (by omega), (by omega), (fun i hi => by
  rcases Nat.lt_or_eq_of_le (Nat.le_of_lt_succ hi) with q | q
  · exact hji i q
  · subst q; exact c34r), rfl, hs.take 5⟩
                  omega
                ·
                  refine W_exit ?_
                  refine W_seq ?_
                  have hga := grp_all hrc hQp hgr hQs hj1 hj2 hji (by
                    have ht := c34
                    rcases Nat.lt_or_ge j R.length with q | q
                    · right; intro h; simp [q, h] at ht
                    · left; omega)
                  have hGok : ∀ e ∈ R.take j, CenOk e ∧ 1 ≤ e.count := fun e he => hQok e (grps_sub hgr e (List.mem_of_mem_take he))
                  replace hs := hs.more emp trivial
                  refine W_regD HM [some 77, some 78, some 79, some 80, some 81, some 82, some 83, some 84, some 85, some 86, some 87, some 88, some 89, none] [[], [], [], [], [], [], [], [], [], [], [87], [88]] [0, 1, 0, 4, 12, 28, 0, 0, 192, 508, 1020, 2047, 4095, 8191] [pv (.pointer (some ⟨b5, 0 + 1, none⟩)), pv (.slice an6 ol.length cn6), pv (.slice an3 R.length cn3), pv (.pointer (some ⟨bkS (.slice an3 R.length cn3), ofS (.slice an3 R.length cn3) + (0 : Int).toNat * 7, none⟩)), pv (.pointer (some ⟨bkS (.slice an3 R.length cn3), ofS (.slice an3 R.length cn3) + (0 : Int).toNat * 7 + 1, none⟩)), pv (.int .u16 ((gd R 0).item)), pv (.slice an3 R.length cn3), pv (.int .i64 ((j : Nat) : Int)), pv (.slice (sla an3 0 cn3 7) ((R.take j).length) (cn3 - 0)), pv (.agg (lc (⟨(gd R 0).item, qtyL (R.take j)⟩ : Line)).toArray), (true, fun ρ => .slice (some ⟨(bOf (ρ 87)), 0, none⟩) 1 1), (true, fun ρ => .slice (aOf (ρ 88)) ((ol ++ [(⟨(gd R 0).item, qtyL (R.take j)⟩ : Line)]).length) (cOf (ρ 88))), pv (.pointer (some ⟨b5, 0 + 1, none⟩)), pn] (fun D ρ => [blk b1 ((vc s.known) ++ [(.slice a1 s.ents.length c1 : Value), (.slice a2 s.ticks.length c2 : Value) ]) 62, blk b3 [.int .u16 0, .slice none 0 0, .bool false, .int .u32 0] 74, cond (D 13) (blk b5 [.int .u16 n, .slice (aOf (ρ 88)) ((ol ++ [(⟨(gd R 0).item, qtyL (R.take j)⟩ : Line)]).length) (cOf (ρ 88)), .bool ou, .int .u32 tk] 74) (blk b5 [.int .u16 n, .slice an6 ol.length cn6, .bool ou, .int .u32 tk] 74), row (.slice an9 L9.length cn9) (sx28.map cec) 128 7, cond (D 11) (row (.slice (aOf (ρ 88)) ((ol ++ [(⟨(gd R 0).item, qtyL (R.take j)⟩ : Line)]).length) (cOf (ρ 88))) ((ol ++ [(⟨(gd R 0).item, qtyL (R.take j)⟩ : Line)]).map lc) 102 2) (row (.slice an6 ol.length cn6) (ol.map lc) 102 2), cond (D 10) (row (.slice (some ⟨(bOf (ρ 87)), 0, none⟩) 1 1) ([(⟨(gd R 0).item, qtyL (R.take j)⟩ : Line)].map lc) 102 2) (emp)]) [] (by kernel_rfl) hs ⟨?_, ?_, ?_, ?_, ?_, ?_, ?_, ?_, ?_, ?_, ?_, ?_, ?_, ?_, trivial⟩ ?_
                  · exact ob [] [] rfl rfl fun D ρ w hs => L_fieldAddr FA_74_1 rfl ⟨rfl, hs⟩
                  · exact ob [0] [13] rfl rfl fun D ρ w hs => L_ld (V := .slice an6 ol.length cn6) S1_72 hs 2 rfl rfl rfl ⟨rfl, hs⟩
                  · exact ob [] [] rfl rfl fun D ρ w hs => L_move (V := .slice an3 R.length cn3) rfl ⟨rfl, hs⟩
                  · exact ob [2] [] rfl rfl fun D ρ w hs => L_ixR UD_59 SA_128.1 (hvia _ (hs.rd 3 rfl)) rfl rfl (by decide) (by rw [List.length_map]; omega) ⟨rfl, hs⟩
                  · exact ob [3] [] rfl rfl fun D ρ w hs => L_fieldAddr FA_128_1 rfl ⟨rfl, hs⟩
                  · exact ob [4] [] rfl rfl fun D ρ w hs => L_ldR (j := 1) (V := .int .u16 ((gd R 0).item)) 0 S1_70 (hvia _ (hs.rd 3 rfl)) (gd_at (by omega)) rfl rfl (by omega) ⟨rfl, hs⟩
                  · exact ob [] [] rfl rfl fun D ρ w hs => L_move (V := .slice an3 R.length cn3) rfl ⟨rfl, hs⟩
                  · exact ob [] [] rfl rfl fun D ρ w hs => L_move (V := .int .i64 ((j : Nat) : Int)) rfl ⟨rfl, hs⟩
                  · exact ob [6, 7] [] rfl rfl fun D ρ w hs => L_sl (l := 0) (h := j) (m := cn3) (n' := (R.take j).length) UDR_59 SA_128.1 (hvia _ (hs.rd 3 rfl)) rfl (.inl ⟨rfl, rfl⟩) (.inr ⟨_, _, rfl, rfl⟩) (.inl ⟨rfl, rfl⟩) (by omega) (by omega) (Nat.le_trans (show j ≤ R.length by omega) (Rd.roomM (hvia _ (hs.rd 3 rfl)))) (Nat.le_refl _) (by simp only [List.length_take, List.length_drop] <;> omega) ⟨rfl, hs⟩
                  · exact ob [5, 8] [] rfl rfl fun D ρ w hs => L_callP (vs := [.int .u16 ((gd R 0).item), .slice (sla an3 0 cn3 7) ((R.take j).length) (cn3 - 0)]) (V := .agg (lc (⟨(gd R 0).item, qtyL (R.take j)⟩ : Line)).toArray) EN_74 rfl rfl (line_ok _ ((gd R 0).item) (sla an3 0 cn3 7) (cn3 - 0) (R.take j) hGok (Rd.subM (hvia _ (hs.rd 3 rfl)) 0 j cn3 (by omega) (by omega) (Nat.le_trans (show j ≤ R.length by omega) (Rd.roomM (hvia _ (hs.rd 3 rfl)))) (Nat.le_refl _) _ (by simp only [List.length_take, List.length_drop] <;> omega))) hs fun _ hs => ⟨rfl, hs⟩
                  · exact ob [9] [] rfl rfl fun D ρ w hs => L_bs (vals := [.agg (lc (⟨(gd R 0).item, qtyL (R.take j)⟩ : Line)).toArray]) (ls := List.map lc ([(⟨(gd R 0).item, qtyL (R.take j)⟩ : Line)] : List Line)) EL_72 rfl rfl rfl (len_map (enc := lc) (fun _ => rfl) _) (one_map lc_one _) (Nat.le_of_ble_eq_true rfl) hs fun _ _ hs => ⟨rfl, hs.put 5 (Nat.le_of_ble_eq_true rfl)⟩
                  · exact ob [1, 10] [13] rfl rfl fun D ρ w hs => L_appN (ls' := (ol ++ [(⟨(gd R 0).item, qtyL (R.take j)⟩ : Line)]).map lc) (n := (ol ++ [(⟨(gd R 0).item, qtyL (R.take j)⟩ : Line)]).length) EL_72 hs 4 rfl rfl rfl (hs.rd 5 rfl) (one_map lc_one _) (by simp only [List.length_map, List.length_append, List.length_cons, List.length_nil]; omega) (by simp) (by simp) fun _ _ _ hs => ⟨rfl, hs⟩
                  · exact ob [] [] rfl rfl fun D ρ w hs => L_fieldAddr FA_74_1 rfl ⟨rfl, hs⟩
                  · exact ob [11, 12] [] rfl rfl fun D ρ w hs => L_st1 (V := .slice (aOf (ρ 88)) ((ol ++ [(⟨(gd R 0).item, qtyL (R.take j)⟩ : Line)]).length) (cOf (ρ 88))) (cs' := [.int .u16 n, .slice (aOf (ρ 88)) ((ol ++ [(⟨(gd R 0).item, qtyL (R.take j)⟩ : Line)]).length) (cOf (ρ 88)), .bool ou, .int .u32 tk]) S1_72 hs 2 rfl rfl rfl rfl (Nat.le_of_ble_eq_true rfl) rfl fun _ hs => ⟨trivial, hs⟩
                  rintro ρ1 w39 ρ2 hρ hs
                  replace hρ : ρ2 = mix [77, 78, 79, 80, 81, 82, 83, 84, 85, 86, 87, 88, 89] ρ1 _ := hρ
                  replace hs : Own w no w39 [blk b1 ((vc s.known) ++ [(.slice a1 s.ents.length c1 : Value), (.slice a2 s.ticks.length c2 : Value) ]) 62, blk b3 [.int .u16 0, .slice none 0 0, .bool false, .int .u32 0] 74, blk b5 [.int .u16 n, .slice (aOf (ρ1 88)) ((ol ++ [(⟨(gd R 0).item, qtyL (R.take j)⟩ : Line)]).length) (cOf (ρ1 88)), .bool ou, .int .u32 tk] 74, row (.slice an9 L9.length cn9) (sx28.map cec) 128 7, row (.slice (aOf (ρ1 88)) ((ol ++ [(⟨(gd R 0).item, qtyL (R.take j)⟩ : Line)]).length) (cOf (ρ1 88))) ((ol ++ [(⟨(gd R 0).item, qtyL (R.take j)⟩ : Line)]).map lc) 102 2, row (.slice (some ⟨(bOf (ρ1 87)), 0, none⟩) 1 1) ([(⟨(gd R 0).item, qtyL (R.take j)⟩ : Line)].map lc) 102 2] := hs
                  generalize (bOf (ρ1 87)) = b40 at hs
                  generalize (aOf (ρ1 88)) = a41 at hs
                  generalize (cOf (ρ1 88)) = c42 at hs
                  subst hρ
                  refine W_region ?_
                  refine RW_op (L_move (V := .slice an3 R.length cn3) rfl ?_)
                  refine RW_op (L_move (V := .int .i64 ((j : Nat) : Int)) rfl ?_)
                  refine RW_op (L_sl (l := j) (h := R.length) (m := cn3) (n' := (R.drop j).length) UDR_59 SA_128.1 (hvia _ (hs.rd 3 rfl)) rfl (.inr ⟨_, _, rfl, rfl⟩) (.inl ⟨rfl, rfl⟩) (.inl ⟨rfl, rfl⟩) (by omega) (by omega) (Nat.le_trans (show R.length ≤ R.length by omega) (Rd.roomM (hvia _ (hs.rd 3 rfl)))) (Nat.le_refl _) (by simp only [List.length_take, List.length_drop] <;> omega) ?_)
                  refine RW_op (L_assign (V := .slice (sla an3 j cn3 7) ((R.drop j).length) (cn3 - j)) rfl ?_)
                  refine RW_nil ?_
                  refine ⟨_, ?_, _, R.drop j, I ++ [(gd R 0).item], (sla an3 j cn3 7), cn3 - j, a41, c42, ol ++ [(⟨(gd R 0).item, qtyL (R.take j)⟩ : Line)], upd_of (mix_of (ds := [8, 11, 56, 57, 58, 59, 60, 61, 62, 63, 64, 65, 66, 67, 68, 69, 70, 71, 72, 73, 74, 75, 76, 77, 78, 79, 80, 81, 82, 83, 84, 85, 86, 87, 88, 89, 90, 91, 92]) (by repeat (first | exact Agr.refl _ _ | refine Agr.upd ?_ rfl | refine Agr.mix ?_ rfl))) rfl, hga.1, (line_step hol hga.2), (by simp only [List.length_append, List.length_singleton, List.length_drop]; omega), (fun w' h => Rd.dropM (hvia w' h) j (by omega) _ (by rw [List.length_drop])), rfl, hs.take 5⟩
                  (rw [List.length_drop]; omega)
            ·
              replace c31 := of_decide_eq_false c31
              refine W_exit ?_
              refine W_seq ?_
              refine W_region ?_
              refine RW_op (L_ldW (cs := [.int .u16 n, .slice an6 ol.length cn6, .bool ou, .int .u32 tk]) SA_74 hs 2 rfl rfl rfl ?_)
              refine RW_op (L_st (V := .agg #[.int .u16 n, .slice an6 ol.length cn6, .bool ou, .int .u32 tk]) (vs := [.int .u16 n, .slice an6 ol.length cn6, .bool ou, .int .u32 tk]) (cs' := [.int .u16 n, .slice an6 ol.length cn6, .bool ou, .int .u32 tk]) SA_74.1 hs 1 rfl rfl rfl rfl rfl (Nat.le_of_ble_eq_true rfl) (one_cons rfl (one_cons rfl (one_cons rfl (one_cons rfl one_nil)))) (spl_whole rfl) fun w43 hs => ?_)
              refine RW_nil ?_
              refine W_ret ?_
              refine ⟨_, res_cell (cs := [.int .u16 n, .slice an6 ol.length cn6, .bool ou, .int .u32 tk]) Try.results34 SA_74 hs 1 rfl rfl rfl, ?_⟩
              have hV := view_of c9 htk hobE hQp hgr (by omega) hol
              rw [hV]
              exact ⟨(an6, cn6), rfl, hs.only 4 rfl, trivial⟩
end Tt
end Go.Proofs
namespace Go.Proofs
open Go Go.Vx Go.RowKit
namespace Tt
set_option maxRecDepth 20000 in
set_option maxHeartbeats 4000000 in
theorem cCarts_ok (w : World) (s : Sta) (a1 : Option Addr) (c1 : Nat) (a2 : Option Addr) (c2 : Nat) (hok : StaOk s) (hle : s.ents.length ≤ 1000) (hlt : s.ticks.length ≤ 1000) (hr1 : Rd w (.slice a1 s.ents.length c1) 7 (s.ents.map cec)) (hr2 : Rd w (.slice a2 s.ticks.length c2) 2 (s.ticks.map lsc)) : Calls Try.prog 37 #[.agg ((vc s.known) ++ [(.slice a1 s.ents.length c1 : Value), (.slice a2 s.ticks.length c2 : Value) ]).toArray] w (fun e w' => ∃ x : Option Addr × Nat, e = .returned (.slice x.1 (cartsS s).length x.2) ∧ Own w no w' [row (.slice x.1 (cartsS s).length x.2) ((cartsS s).map (ic .u16)) 70 1] ∧ True) := by
  refine calls_of_Wn (n := 23) Try.func37 rfl Try.ntmps37 rfl ?_
  have hs := Own.start w
  have ⟨hv0, hE0, hT0⟩ := hok
  refine W_seq ?_
  refine W_region ?_
  refine RW_op (L_box (V := .agg ((vc s.known) ++ [(.slice a1 s.ents.length c1 : Value), (.slice a2 s.ticks.length c2 : Value) ]).toArray) (cs := (vc s.known) ++ [(.slice a1 s.ents.length c1 : Value), (.slice a2 s.ticks.length c2 : Value) ]) rfl rfl hs fun b1 w2 hs => ?_)
  refine RW_op (L_assign (V := .slice none 0 0) rfl ?_)
  refine RW_nil ?_
  refine W_seq ?_
  refine W_seq ?_
  refine W_region ?_
  refine RW_op (L_ldW (cs := (vc s.known) ++ [(.slice a1 s.ents.length c1 : Value), (.slice a2 s.ticks.length c2 : Value) ]) SA_62 hs 0 rfl rfl rfl ?_)
  refine RW_op (L_callP (vs := [.agg ((vc s.known) ++ [(.slice a1 s.ents.length c1 : Value), (.slice a2 s.ticks.length c2 : Value) ]).toArray]) (V := .bool (rightS s)) EN_58 rfl rfl ?hc hs fun w3 hs => ?_)
  case hc => exact (cRight_ok _ s a1 c1 a2 c2 hok (by omega) (by omega) (Rd.own' hr1 hs) (Rd.own' hr2 hs))
  refine RW_op (L_not rfl ?_)
  refine RW_nil ?_
  refine W_cond (t := !(rightS s)) rfl (fun c4 => ?_) (fun c4 => ?_)
  ·
    replace c4 := not_t c4
    refine W_seq ?_
    refine W_region ?_
    refine RW_op (L_assign (V := .slice none 0 0) rfl ?_)
    refine RW_nil ?_
    refine W_ret ?_
    refine ⟨_, res_one (V := .slice none 0 0) Try.results37 rfl, ?_⟩
    have hX : cartsS s = [] := by unfold cartsS; rw [if_neg (by rw [c4]; decide)]
    rw [hX]
    exact ⟨(none, 0), rfl, (hs.take 0).more _ (row_nil _ _ _ _), trivial⟩
  ·
    replace c4 := not_f c4
    refine W_skip ?_
    refine W_seq ?_
    refine W_region ?_
    refine RW_op (L_assign (V := .slice none 0 0) rfl ?_)
    refine RW_nil ?_
    refine W_seq ?_
    refine W_seq ?_
    refine W_region ?_
    refine RW_op (L_fieldAddr FA_62_2 rfl ?_)
    refine RW_op (L_ld (V := .slice a2 s.ticks.length c2) S1_60 hs 0 rfl rfl rfl ?_)
    refine RW_op (L_lenR (n := s.ticks.length) UD_60 (Rd.own' hr2 hs) (by simp) rfl ?_)
    refine RW_op (L_move (V := .int .i64 0) rfl ?_)
    refine RW_nil ?_
    refine W_block ?_
    replace hs := hs.more (row (.slice none 0 0) (List.map (ic .u16) []) 70 1) (row_nil _ _ _ _)
    refine W_loopI (fun ρ μ ρ' w' => ∃ (ρo : Env) (k : Nat) (a9 : Option Addr) (c9 : Nat) (L9 : List Int), ρ' = upd (upd (mix [3, 5, 12, 13, 14, 15, 16, 17, 18, 19, 20, 21] ρo ρ) 12 (.int .i64 ((k : Nat) : Int))) 3 (.slice a9 L9.length c9) ∧ (k ≤ s.ticks.length) ∧ (L9 = (s.ticks.take k).map (·.cart)) ∧ (L9.length ≤ k) ∧ μ = s.ticks.length - k ∧ Own w no w' [blk b1 ((vc s.known) ++ [(.slice a1 s.ents.length c1 : Value), (.slice a2 s.ticks.length c2 : Value) ]) 62, row (.slice a9 L9.length c9) (L9.map (ic .u16)) 70 1]) ?_ ?_
    · exact ⟨_, _, 0, none, 0, [], upd_of (upd_of (mix_of (ds := [3, 5, 12, 13, 14, 15, 16, 17, 18, 19, 20, 21]) (Agr.refl _ _)) rfl) rfl, (by omega), rfl, (Nat.le_refl _), rfl, hs⟩
    · rintro μ ρ' w5 ⟨ρo, k, a9, c9, L9, rfl, hk, hL9, hl9, rfl, hs⟩
      refine W_seq ?_
      refine W_region ?_
      refine RW_op (L_lss rfl rfl ?_)
      refine RW_nil ?_
      refine W_seq ?_
      refine W_cond (t := decide (((k : Nat) : Int) < ((s.ticks.length : Nat) : Int))) rfl (fun c6 => ?_) (fun c6 => ?_)
      ·
        replace c6 := of_decide_eq_true c6
        refine W_skip ?_
        refine W_seq ?_
        refine W_block ?_
        refine W_seq ?_
        refine W_region ?_
        refine RW_op (L_ixR UD_60 SA_126.1 (Rd.own' hr2 hs) rfl rfl (by omega) (by rw [List.length_map]; omega) ?_)
        refine RW_op (L_ldRA (j := 0) (vs := lsc (gd s.ticks k)) k SA_126 (Rd.own' hr2 hs) (gd_at (by omega)) rfl rfl rfl (by omega) ?_)
        refine RW_op (L_alloc (cs := lsc (⟨0, 0⟩ : Lst)) ZV_126 rfl hs fun b7 w8 hs => ?_)
        refine RW_op (L_st (V := .agg (lsc (gd s.ticks k)).toArray) (vs := lsc (gd s.ticks k)) (cs' := lsc (gd s.ticks k)) SA_126.1 hs 2 rfl rfl rfl rfl rfl (Nat.le_of_ble_eq_true rfl) (lsc_one _) (spl_whole rfl) fun w9 hs => ?_)
        refine RW_nil ?_
        refine W_region ?_
        refine RW_op (L_move (V := .slice a9 L9.length c9) rfl ?_)
        refine RW_op (L_fieldAddr FA_126_0 rfl ?_)
        refine RW_op (L_ld (V := .int .u16 ((gd s.ticks k).cart)) S1_70 hs 2 rfl rfl rfl ?_)
        refine RW_op (L_bs (vals := [.int .u16 ((gd s.ticks k).cart)]) (ls := List.map (ic .u16) ([(gd s.ticks k).cart] : List Int)) EL_78 rfl rfl rfl (len_map (enc := (ic .u16)) (fun _ => rfl) _) (one_map (ic_one .u16) _) (Nat.le_of_ble_eq_true rfl) hs fun b10 w11 hs => ?_)
        replace hs : Own w no w11 [blk b1 ((vc s.known) ++ [(.slice a1 s.ents.length c1 : Value), (.slice a2 s.ticks.length c2 : Value) ]) 62, row (.slice a9 L9.length c9) (L9.map (ic .u16)) 70 1, blk b7 (lsc (gd s.ticks k)) 126, row (.slice (some ⟨b10, 0, none⟩) 1 1) ([(gd s.ticks k).cart].map (ic .u16)) 70 1] := hs
        refine RW_op (L_appN (ls' := (L9 ++ [(gd s.ticks k).cart]).map (ic .u16)) (n := (L9 ++ [(gd s.ticks k).cart]).length) EL_78 hs 1 rfl rfl rfl (hs.rd 3 rfl) (one_map (ic_one .u16) _) (by simp only [List.length_map, List.length_append, List.length_cons, List.length_nil]; omega) (by simp) (by simp) fun a12 c12 w13 hs => ?_)
        refine RW_op (L_assign (V := .slice a12 ((L9 ++ [(gd s.ticks k).cart]).length) c12) rfl ?_)
        refine RW_nil ?_
        refine W_region ?_
        refine RW_op (L_add (a := ((k : Nat) : Int)) (b := 1) (c := ((k + 1 : Nat) : Int)) rfl rfl (nat_i64 (by omega) (by omega)) ?_)
        refine RW_op (L_move (V := .int .i64 ((k + 1 : Nat) : Int)) rfl ?_)
        refine RW_nil ?_
        refine ⟨_, ?_, _, k + 1, a12, c12, L9 ++ [(gd s.ticks k).cart], upd_of (upd_of (mix_of (ds := [3, 5, 12, 13, 14, 15, 16, 17, 18, 19, 20, 21]) (by repeat (first | exact Agr.refl _ _ | refine Agr.upd ?_ rfl | refine Agr.mix ?_ rfl))) rfl) rfl, (by omega), (map_next (f := fun x : Lst => x.cart) hL9 (by omega)), (by rw [List.length_append, List.length_singleton]; omega), rfl, hs.take 2⟩
        omega
      ·
        replace c6 := of_decide_eq_false c6
        refine W_exit ?_
        refine W_seq ?_
        refine W_region ?_
        refine RW_op (L_move (V := .slice a9 L9.length c9) rfl ?_)
        refine RW_op (L_assign (V := .slice a9 L9.length c9) rfl ?_)
        refine RW_nil ?_
        refine W_ret ?_
        refine ⟨_, res_one (V := .slice a9 L9.length c9) Try.results37 rfl, ?_⟩
        have hX : L9 = cartsS s := by unfold cartsS; rw [if_pos c4, hL9, take_all (by omega)]
        rw [hX] at hs ⊢
        exact ⟨(a9, c9), rfl, hs.only 1 rfl, trivial⟩
end Tt
end Go.Proofs
namespace Go.Proofs
open Go Go.Vx Go.RowKit
namespace Tt
theorem cViewE_ok (w : World) (s : Sta) (a1 : Option Addr) (c1 : Nat) (a2 : Option Addr) (c2 : Nat) (n : Int) (V : Vw) (hV : viewC s n (rightS s) = V) (hok : StaOk s) (hle : s.ents.length ≤ 1000) (hlt : s.ticks.length ≤ 1000) (hr1 : Rd w (.slice a1 s.ents.length c1) 7 (s.ents.map cec)) (hr2 : Rd w (.slice a2 s.ticks.length c2) 2 (s.ticks.map lsc)) : Calls Try.prog 34 #[.agg ((vc s.known) ++ [(.slice a1 s.ents.length c1 : Value), (.slice a2 s.ticks.length c2 : Value) ]).toArray, .int .u16 n] w (fun e w' => ∃ x : Option Addr × Nat, e = .returned (.agg [.int .u16 (V).cart, .slice x.1 (V).lines.length x.2, .bool (V).out, .int .u32 (V).tick].toArray) ∧ Own w no w' [row (.slice x.1 (V).lines.length x.2) ((V).lines.map lc) 102 2] ∧ True) := by
  subst hV; exact cView_ok w s a1 c1 a2 c2 n hok hle hlt hr1 hr2
set_option maxRecDepth 20000 in
set_option maxHeartbeats 4000000 in
theorem alive8_ok (w : World) (hsortE : SortC Try.prog 63 64 cec 128 7 srtE) : Calls Try.prog 26 #[] w (fun e w' => e = .returned (.bool true) ∧ Own w no w' []) := by
  refine calls_of_Wn (n := 95) Try.func26 rfl Try.ntmps26 rfl ?_
  have hs := Own.start w
  have haE := al3E
  refine W_seq ?_
  refine W_region ?_
  refine RW_op (L_assign (V := .bool false) rfl ?_)
  refine RW_nil ?_
  refine W_seq ?_
  refine W_region ?_
  refine RW_op (L_buildP (vs := []) (cs := (vc vzero) ++ [(.slice none 0 0 : Value), (.slice none 0 0 : Value) ]) [vc vzero, [(.slice none 0 0 : Value)], [(.slice none 0 0 : Value)]] [vc vzero, [(.slice none 0 0 : Value)], [(.slice none 0 0 : Value)]] BT_62 rfl (rfl) rfl rfl ?_)
  refine RW_op (L_build (vs := [(1, .int .u32 1)]) (cs := dc (⟨0, 1⟩ : Dot)) BT_96 (rfl) rfl ?_)
  refine RW_op (opW_to (V := .agg (oc (⟨(⟨0, 1⟩ : Dot), 1, 3, 4, 2, 5, vzero⟩ : Opn)).toArray) (V' := .agg (oc alO1).toArray) (L_buildP (vs := [(0, .agg (dc (⟨0, 1⟩ : Dot)).toArray), (1, .int .u8 1), (2, .int .u16 3), (3, .int .u16 4), (4, .int .u16 2), (5, .int .u32 5)]) (cs := oc (⟨(⟨0, 1⟩ : Dot), 1, 3, 4, 2, 5, vzero⟩ : Opn)) [dc (⟨0, 0⟩ : Dot), [(.int .u8 0 : Value)], [(.int .u16 0 : Value)], [(.int .u16 0 : Value)], [(.int .u16 0 : Value)], [(.int .u32 0 : Value)], vc vzero] [dc (⟨0, 1⟩ : Dot), [(.int .u8 1 : Value)], [(.int .u16 3 : Value)], [(.int .u16 4 : Value)], [(.int .u16 2 : Value)], [(.int .u32 5 : Value)], vc vzero] BT_98 rfl (rfl) rfl rfl ⟨rfl, rfl⟩) rfl ?_)
  refine RW_op (L_callX (α := (Option Addr × Nat) × (Option Addr × Nat)) (vs := [.agg ((vc vzero) ++ [(.slice none 0 0 : Value), (.slice none 0 0 : Value) ]).toArray, .agg (oc alO1).toArray]) (V := fun x : (Option Addr × Nat) × (Option Addr × Nat) => .tuple #[.agg (vc alS1.known ++ [(.slice x.1.1 (alS1.ents).length x.1.2 : Value), (.slice x.2.1 (alS1.ticks).length x.2.2 : Value)]).toArray, .int .i64 0]) (Lo := fun x => [row (.slice x.1.1 (alS1.ents).length x.1.2) ((alS1.ents).map cec) 128 7, row (.slice x.2.1 (alS1.ticks).length x.2.2) ((alS1.ticks).map lsc) 126 2]) (F := fun _ _ => True) EN_45 rfl rfl ?hc hs fun x2 w1 hs _ => ?_)
  case hc => exact (cApply_okE alS1 0 _ (⟨vzero, [], []⟩ : Sta) none 0 none 0 alO1 alO1_ok szero_ok (by decide +kernel) (by decide +kernel) (Rd.nil _ 7) (Rd.nil _ 2) al1R al1I)
  refine RW_op (L_move (V := .tuple #[.agg ((vc alS1.known) ++ [(.slice x2.1.1 ((alS1.ents).length) x2.1.2 : Value), (.slice x2.2.1 ((alS1.ticks).length) x2.2.2 : Value) ]).toArray, .int .i64 0]) rfl ?_)
  refine RW_op (L_extract (V := .agg ((vc alS1.known) ++ [(.slice x2.1.1 ((alS1.ents).length) x2.1.2 : Value), (.slice x2.2.1 ((alS1.ticks).length) x2.2.2 : Value) ]).toArray) rfl rfl ?_)
  refine RW_op (L_extract (V := .int .i64 0) rfl rfl ?_)
  refine RW_op (L_alloc (cs := (vc vzero) ++ [(.slice none 0 0 : Value), (.slice none 0 0 : Value) ]) ZV_62 rfl hs fun b3 w4 hs => ?_)
  refine RW_op (L_st (V := .agg ((vc alS1.known) ++ [(.slice x2.1.1 ((alS1.ents).length) x2.1.2 : Value), (.slice x2.2.1 ((alS1.ticks).length) x2.2.2 : Value) ]).toArray) (vs := (vc alS1.known) ++ [(.slice x2.1.1 ((alS1.ents).length) x2.1.2 : Value), (.slice x2.2.1 ((alS1.ticks).length) x2.2.2 : Value) ]) (cs' := (vc alS1.known) ++ [(.slice x2.1.1 ((alS1.ents).length) x2.1.2 : Value), (.slice x2.2.1 ((alS1.ticks).length) x2.2.2 : Value) ]) SA_62.1 hs 2 rfl rfl rfl rfl rfl (Nat.le_of_ble_eq_true rfl) (one_app (vc_one _) (one_cons rfl (one_cons rfl one_nil))) (spl_whole rfl) fun w5 hs => ?_)
  replace hs : Own w no w5 [row (.slice x2.1.1 ((alS1.ents).length) x2.1.2) (alS1.ents.map cec) 128 7, row (.slice x2.2.1 ((alS1.ticks).length) x2.2.2) (alS1.ticks.map lsc) 126 2, blk b3 ((vc alS1.known) ++ [(.slice x2.1.1 ((alS1.ents).length) x2.1.2 : Value), (.slice x2.2.1 ((alS1.ticks).length) x2.2.2 : Value) ]) 62] := hs
  refine RW_op (L_assign (V := .int .i64 0) rfl ?_)
  refine RW_nil ?_
  refine W_seq ?_
  refine W_region ?_
  refine RW_op (L_ldW (cs := (vc alS1.known) ++ [(.slice x2.1.1 ((alS1.ents).length) x2.1.2 : Value), (.slice x2.2.1 ((alS1.ticks).length) x2.2.2 : Value) ]) SA_62 hs 2 rfl rfl rfl ?_)
  refine RW_op (L_build (vs := [(1, .int .u32 2)]) (cs := dc (⟨0, 2⟩ : Dot)) BT_96 (rfl) rfl ?_)
  refine RW_op (L_build (vs := [(0, .int .u32 1)]) (cs := vc (vset vzero 0 1)) BT_53 (rfl) rfl ?_)
  refine RW_op (opW_to (V := .agg (oc (⟨(⟨0, 2⟩ : Dot), 3, 3, 4, 0, 6, vset vzero 0 1⟩ : Opn)).toArray) (V' := .agg (oc alO2).toArray) (L_buildP (vs := [(0, .agg (dc (⟨0, 2⟩ : Dot)).toArray), (1, .int .u8 3), (2, .int .u16 3), (3, .int .u16 4), (5, .int .u32 6), (6, .agg (vc (vset vzero 0 1)).toArray)]) (cs := oc (⟨(⟨0, 2⟩ : Dot), 3, 3, 4, 0, 6, vset vzero 0 1⟩ : Opn)) [dc (⟨0, 0⟩ : Dot), [(.int .u8 0 : Value)], [(.int .u16 0 : Value)], [(.int .u16 0 : Value)], [(.int .u16 0 : Value)], [(.int .u32 0 : Value)], vc vzero] [dc (⟨0, 2⟩ : Dot), [(.int .u8 3 : Value)], [(.int .u16 3 : Value)], [(.int .u16 4 : Value)], [(.int .u16 0 : Value)], [(.int .u32 6 : Value)], vc (vset vzero 0 1)] BT_98 rfl (rfl) rfl rfl ⟨rfl, rfl⟩) rfl ?_)
  refine RW_op (L_callX (α := (Option Addr × Nat) × (Option Addr × Nat)) (vs := [.agg ((vc alS1.known) ++ [(.slice x2.1.1 ((alS1.ents).length) x2.1.2 : Value), (.slice x2.2.1 ((alS1.ticks).length) x2.2.2 : Value) ]).toArray, .agg (oc alO2).toArray]) (V := fun x : (Option Addr × Nat) × (Option Addr × Nat) => .tuple #[.agg (vc alS2.known ++ [(.slice x.1.1 (alS2.ents).length x.1.2 : Value), (.slice x.2.1 (alS2.ticks).length x.2.2 : Value)]).toArray, .int .i64 0]) (Lo := fun x => [row (.slice x.1.1 (alS2.ents).length x.1.2) ((alS2.ents).map cec) 128 7, row (.slice x.2.1 (alS2.ticks).length x.2.2) ((alS2.ticks).map lsc) 126 2]) (F := fun _ _ => True) EN_45 rfl rfl ?hc hs fun x7 w6 hs _ => ?_)
  case hc => exact (cApply_okE alS2 0 _ alS1 x2.1.1 x2.1.2 x2.2.1 x2.2.2 alO2 alO2_ok alS1_ok (by decide +kernel) (by decide +kernel) (hs.rd 0 rfl) (hs.rd 1 rfl) al2R al2I)
  refine RW_op (L_move (V := .tuple #[.agg ((vc alS2.known) ++ [(.slice x7.1.1 ((alS2.ents).length) x7.1.2 : Value), (.slice x7.2.1 ((alS2.ticks).length) x7.2.2 : Value) ]).toArray, .int .i64 0]) rfl ?_)
  refine RW_op (L_extract (V := .agg ((vc alS2.known) ++ [(.slice x7.1.1 ((alS2.ents).length) x7.1.2 : Value), (.slice x7.2.1 ((alS2.ticks).length) x7.2.2 : Value) ]).toArray) rfl rfl ?_)
  refine RW_op (L_extract (V := .int .i64 0) rfl rfl ?_)
  refine RW_op (L_alloc (cs := (vc vzero) ++ [(.slice none 0 0 : Value), (.slice none 0 0 : Value) ]) ZV_62 rfl hs fun b8 w9 hs => ?_)
  refine RW_op (L_st (V := .agg ((vc alS2.known) ++ [(.slice x7.1.1 ((alS2.ents).length) x7.1.2 : Value), (.slice x7.2.1 ((alS2.ticks).length) x7.2.2 : Value) ]).toArray) (vs := (vc alS2.known) ++ [(.slice x7.1.1 ((alS2.ents).length) x7.1.2 : Value), (.slice x7.2.1 ((alS2.ticks).length) x7.2.2 : Value) ]) (cs' := (vc alS2.known) ++ [(.slice x7.1.1 ((alS2.ents).length) x7.1.2 : Value), (.slice x7.2.1 ((alS2.ticks).length) x7.2.2 : Value) ]) SA_62.1 hs 5 rfl rfl rfl rfl rfl (Nat.le_of_ble_eq_true rfl) (one_app (vc_one _) (one_cons rfl (one_cons rfl one_nil))) (spl_whole rfl) fun w10 hs => ?_)
  replace hs : Own w no w10 [row (.slice x2.1.1 ((alS1.ents).length) x2.1.2) (alS1.ents.map cec) 128 7, row (.slice x2.2.1 ((alS1.ticks).length) x2.2.2) (alS1.ticks.map lsc) 126 2, blk b3 ((vc alS1.known) ++ [(.slice x2.1.1 ((alS1.ents).length) x2.1.2 : Value), (.slice x2.2.1 ((alS1.ticks).length) x2.2.2 : Value) ]) 62, row (.slice x7.1.1 ((alS2.ents).length) x7.1.2) (alS2.ents.map cec) 128 7, row (.slice x7.2.1 ((alS2.ticks).length) x7.2.2) (alS2.ticks.map lsc) 126 2, blk b8 ((vc alS2.known) ++ [(.slice x7.1.1 ((alS2.ents).length) x7.1.2 : Value), (.slice x7.2.1 ((alS2.ticks).length) x7.2.2 : Value) ]) 62] := hs
  refine RW_op (L_assign (V := .int .i64 0) rfl ?_)
  refine RW_nil ?_
  refine W_seq ?_
  refine W_region ?_
  refine RW_op (L_ldW (cs := (vc alS1.known) ++ [(.slice x2.1.1 ((alS1.ents).length) x2.1.2 : Value), (.slice x2.2.1 ((alS1.ticks).length) x2.2.2 : Value) ]) SA_62 hs 2 rfl rfl rfl ?_)
  refine RW_op (L_ldW (cs := (vc alS2.known) ++ [(.slice x7.1.1 ((alS2.ents).length) x7.1.2 : Value), (.slice x7.2.1 ((alS2.ticks).length) x7.2.2 : Value) ]) SA_62 hs 5 rfl rfl rfl ?_)
  refine RW_op (L_callX (α := (Option Addr × Nat) × (Option Addr × Nat)) (vs := [.agg ((vc alS1.known) ++ [(.slice x2.1.1 ((alS1.ents).length) x2.1.2 : Value), (.slice x2.2.1 ((alS1.ticks).length) x2.2.2 : Value) ]).toArray, .agg ((vc alS2.known) ++ [(.slice x7.1.1 ((alS2.ents).length) x7.1.2 : Value), (.slice x7.2.1 ((alS2.ticks).length) x7.2.2 : Value) ]).toArray]) (V := fun x : (Option Addr × Nat) × (Option Addr × Nat) => .tuple #[.agg (vc (mergeR alS1 alS2).known ++ [(.slice x.1.1 ((mergeR alS1 alS2).ents).length x.1.2 : Value), (.slice x.2.1 ((mergeR alS1 alS2).ticks).length x.2.2 : Value)]).toArray, .int .i64 0]) (Lo := fun x => [row (.slice x.1.1 ((mergeR alS1 alS2).ents).length x.1.2) (((mergeR alS1 alS2).ents).map cec) 128 7, row (.slice x.2.1 ((mergeR alS1 alS2).ticks).length x.2.2) (((mergeR alS1 alS2).ticks).map lsc) 126 2]) (F := fun _ _ => True) EN_28 rfl rfl ?hc hs fun x12 w11 hs _ => ?_)
  case hc => exact (cMerge_okE (mergeR alS1 alS2) 0 _ alS1 x2.1.1 x2.1.2 x2.2.1 x2.2.2 alS2 x7.1.1 x7.1.2 x7.2.1 x7.2.2 hsortE alS1_ok (by decide +kernel) (by decide +kernel) alS2_ok (by decide +kernel) (by decide +kernel) (hs.rd 0 rfl) (hs.rd 1 rfl) (hs.rd 3 rfl) (hs.rd 4 rfl) rfl al3I)
  refine RW_op (L_move (V := .tuple #[.agg ((vc ((mergeR alS1 alS2).known)) ++ [(.slice x12.1.1 (((mergeR alS1 alS2).ents).length) x12.1.2 : Value), (.slice x12.2.1 (((mergeR alS1 alS2).ticks).length) x12.2.2 : Value) ]).toArray, .int .i64 0]) rfl ?_)
  refine RW_op (L_extract (V := .agg ((vc ((mergeR alS1 alS2).known)) ++ [(.slice x12.1.1 (((mergeR alS1 alS2).ents).length) x12.1.2 : Value), (.slice x12.2.1 (((mergeR alS1 alS2).ticks).length) x12.2.2 : Value) ]).toArray) rfl rfl ?_)
  refine RW_op (L_extract (V := .int .i64 0) rfl rfl ?_)
  refine RW_op (L_alloc (cs := (vc vzero) ++ [(.slice none 0 0 : Value), (.slice none 0 0 : Value) ]) ZV_62 rfl hs fun b13 w14 hs => ?_)
  refine RW_op (L_st (V := .agg ((vc ((mergeR alS1 alS2).known)) ++ [(.slice x12.1.1 (((mergeR alS1 alS2).ents).length) x12.1.2 : Value), (.slice x12.2.1 (((mergeR alS1 alS2).ticks).length) x12.2.2 : Value) ]).toArray) (vs := (vc ((mergeR alS1 alS2).known)) ++ [(.slice x12.1.1 (((mergeR alS1 alS2).ents).length) x12.1.2 : Value), (.slice x12.2.1 (((mergeR alS1 alS2).ticks).length) x12.2.2 : Value) ]) (cs' := (vc ((mergeR alS1 alS2).known)) ++ [(.slice x12.1.1 (((mergeR alS1 alS2).ents).length) x12.1.2 : Value), (.slice x12.2.1 (((mergeR alS1 alS2).ticks).length) x12.2.2 : Value) ]) SA_62.1 hs 8 rfl rfl rfl rfl rfl (Nat.le_of_ble_eq_true rfl) (one_app (vc_one _) (one_cons rfl (one_cons rfl one_nil))) (spl_whole rfl) fun w15 hs => ?_)
  replace hs : Own w no w15 [row (.slice x2.1.1 ((alS1.ents).length) x2.1.2) (alS1.ents.map cec) 128 7, row (.slice x2.2.1 ((alS1.ticks).length) x2.2.2) (alS1.ticks.map lsc) 126 2, blk b3 ((vc alS1.known) ++ [(.slice x2.1.1 ((alS1.ents).length) x2.1.2 : Value), (.slice x2.2.1 ((alS1.ticks).length) x2.2.2 : Value) ]) 62, row (.slice x7.1.1 ((alS2.ents).length) x7.1.2) (alS2.ents.map cec) 128 7, row (.slice x7.2.1 ((alS2.ticks).length) x7.2.2) (alS2.ticks.map lsc) 126 2, blk b8 ((vc alS2.known) ++ [(.slice x7.1.1 ((alS2.ents).length) x7.1.2 : Value), (.slice x7.2.1 ((alS2.ticks).length) x7.2.2 : Value) ]) 62, row (.slice x12.1.1 (((mergeR alS1 alS2).ents).length) x12.1.2) (((mergeR alS1 alS2).ents).map cec) 128 7, row (.slice x12.2.1 (((mergeR alS1 alS2).ticks).length) x12.2.2) (((mergeR alS1 alS2).ticks).map lsc) 126 2, blk b13 ((vc ((mergeR alS1 alS2).known)) ++ [(.slice x12.1.1 (((mergeR alS1 alS2).ents).length) x12.1.2 : Value), (.slice x12.2.1 (((mergeR alS1 alS2).ticks).length) x12.2.2 : Value) ]) 62] := hs
  refine RW_op (L_assign (V := .int .i64 0) rfl ?_)
  refine RW_nil ?_
  refine W_seq ?_
  refine W_region ?_
  refine RW_op (L_ldW (cs := (vc alS1.known) ++ [(.slice x2.1.1 ((alS1.ents).length) x2.1.2 : Value), (.slice x2.2.1 ((alS1.ticks).length) x2.2.2 : Value) ]) SA_62 hs 2 rfl rfl rfl ?_)
  refine RW_op (L_callX (α := Option Addr × Nat) (vs := [.agg ((vc alS1.known) ++ [(.slice x2.1.1 ((alS1.ents).length) x2.1.2 : Value), (.slice x2.2.1 ((alS1.ticks).length) x2.2.2 : Value) ]).toArray, .int .u16 3]) (V := fun x => .agg #[.int .u16 3, .slice x.1 ([(⟨4, 2⟩ : Line)].length) x.2, .bool false, .int .u32 5]) (Lo := fun x => [row (.slice x.1 [(⟨4, 2⟩ : Line)].length x.2) ([(⟨4, 2⟩ : Line)].map lc) 102 2]) (F := fun _ _ => True) EN_34 rfl rfl ?hc hs fun x17 w16 hs _ => ?_)
  case hc => exact (cViewE_ok _ alS1 x2.1.1 x2.1.2 x2.2.1 x2.2.2 3 (⟨3, [(⟨4, 2⟩ : Line)], false, 5⟩ : Vw) (alV1) alS1_ok (by decide +kernel) (by decide +kernel) (hs.rd 0 rfl) (hs.rd 1 rfl))
  refine RW_op (L_alloc (cs := [.int .u16 0, .slice none 0 0, .bool false, .int .u32 0]) ZV_74 rfl hs fun b18 w19 hs => ?_)
  refine RW_op (L_st (V := .agg #[.int .u16 3, .slice x17.1 ([(⟨4, 2⟩ : Line)].length) x17.2, .bool false, .int .u32 5]) (vs := [.int .u16 3, .slice x17.1 ([(⟨4, 2⟩ : Line)].length) x17.2, .bool false, .int .u32 5]) (cs' := [.int .u16 3, .slice x17.1 ([(⟨4, 2⟩ : Line)].length) x17.2, .bool false, .int .u32 5]) SA_74.1 hs 10 rfl rfl rfl rfl rfl (Nat.le_of_ble_eq_true rfl) (one_cons rfl (one_cons rfl (one_cons rfl (one_cons rfl one_nil)))) (spl_whole rfl) fun w20 hs => ?_)
  replace hs : Own w no w20 [row (.slice x2.1.1 ((alS1.ents).length) x2.1.2) (alS1.ents.map cec) 128 7, row (.slice x2.2.1 ((alS1.ticks).length) x2.2.2) (alS1.ticks.map lsc) 126 2, blk b3 ((vc alS1.known) ++ [(.slice x2.1.1 ((alS1.ents).length) x2.1.2 : Value), (.slice x2.2.1 ((alS1.ticks).length) x2.2.2 : Value) ]) 62, row (.slice x7.1.1 ((alS2.ents).length) x7.1.2) (alS2.ents.map cec) 128 7, row (.slice x7.2.1 ((alS2.ticks).length) x7.2.2) (alS2.ticks.map lsc) 126 2, blk b8 ((vc alS2.known) ++ [(.slice x7.1.1 ((alS2.ents).length) x7.1.2 : Value), (.slice x7.2.1 ((alS2.ticks).length) x7.2.2 : Value) ]) 62, row (.slice x12.1.1 (((mergeR alS1 alS2).ents).length) x12.1.2) (((mergeR alS1 alS2).ents).map cec) 128 7, row (.slice x12.2.1 (((mergeR alS1 alS2).ticks).length) x12.2.2) (((mergeR alS1 alS2).ticks).map lsc) 126 2, blk b13 ((vc ((mergeR alS1 alS2).known)) ++ [(.slice x12.1.1 (((mergeR alS1 alS2).ents).length) x12.1.2 : Value), (.slice x12.2.1 (((mergeR alS1 alS2).ticks).length) x12.2.2 : Value) ]) 62, row (.slice x17.1 ([(⟨4, 2⟩ : Line)].length) x17.2) ([(⟨4, 2⟩ : Line)].map lc) 102 2, blk b18 [.int .u16 3, .slice x17.1 ([(⟨4, 2⟩ : Line)].length) x17.2, .bool false, .int .u32 5] 74] := hs
  refine RW_nil ?_
  refine W_seq ?_
  refine W_region ?_
  refine RW_op (L_move (V := .int .i64 0) rfl ?_)
  refine RW_op (opW_to (V := .bool (decide ((0 : Int) = 0))) (V' := .bool true) (L_eql rfl rfl ⟨rfl, rfl⟩) (congrArg Value.bool (by decide)) ?_)
  refine RW_op (L_move (V := .bool true) rfl ?_)
  refine RW_gy rfl (L_move (V := .int .i64 0) rfl ?_)
  refine RW_gy rfl (opW_to (V := .bool (decide ((0 : Int) = 0))) (V' := .bool true) (L_eql rfl rfl ⟨rfl, rfl⟩) (congrArg Value.bool (by decide)) ?_)
  refine RW_op (L_pick (V := .bool true) rfl rfl ?_)
  refine RW_op (L_move (V := .bool true) rfl ?_)
  refine RW_gy rfl (L_move (V := .int .i64 0) rfl ?_)
  refine RW_gy rfl (opW_to (V := .bool (decide ((0 : Int) = 0))) (V' := .bool true) (L_eql rfl rfl ⟨rfl, rfl⟩) (congrArg Value.bool (by decide)) ?_)
  refine RW_op (L_pick (V := .bool true) rfl rfl ?_)
  refine RW_op (L_move (V := .bool true) rfl ?_)
  refine RW_gy rfl (L_fieldAddr FA_62_1 rfl ?_)
  refine RW_gy rfl (L_ld (V := .slice x2.1.1 ((alS1.ents).length) x2.1.2) S1_59 hs 2 rfl rfl rfl ?_)
  refine RW_gy rfl (L_lenR (n := (alS1.ents).length) UD_59 (hs.rd 0 rfl) (by simp) rfl ?_)
  refine RW_gy rfl (opW_to (V := .bool (decide ((((alS1.ents).length : Nat) : Int) = 1))) (V' := .bool true) (L_eql rfl rfl ⟨rfl, rfl⟩) (congrArg Value.bool (by decide +kernel)) ?_)
  refine RW_op (L_pick (V := .bool true) rfl rfl ?_)
  refine RW_op (L_move (V := .bool true) rfl ?_)
  refine RW_gy rfl (L_fieldAddr FA_62_1 rfl ?_)
  refine RW_gy rfl (L_ld (V := .slice x7.1.1 ((alS2.ents).length) x7.1.2) S1_59 hs 5 rfl rfl rfl ?_)
  refine RW_gy rfl (L_lenR (n := (alS2.ents).length) UD_59 (hs.rd 3 rfl) (by simp) rfl ?_)
  refine RW_gy rfl (opW_to (V := .bool (decide ((((alS2.ents).length : Nat) : Int) = 0))) (V' := .bool true) (L_eql rfl rfl ⟨rfl, rfl⟩) (congrArg Value.bool (by decide +kernel)) ?_)
  refine RW_op (L_pick (V := .bool true) rfl rfl ?_)
  refine RW_op (L_move (V := .bool true) rfl ?_)
  refine RW_gy rfl (L_fieldAddr FA_62_0 rfl ?_)
  refine RW_gy rfl (L_ldA (vs := vc alS2.known) SA_53 hs 5 rfl rfl rfl rfl ?_)
  refine RW_gy rfl (L_build (vs := [(0, .int .u32 2)]) (cs := vc (vset vzero 0 2)) BT_53 (rfl) rfl ?_)
  refine RW_gy rfl (opW_to (V := .bool (decide (alS2.known = vset vzero 0 2))) (V' := .bool true) (L_eqA (xs := vc alS2.known) (ys := vc (vset vzero 0 2)) Try.eqGuardType53 (EQ_53 alS2.known (vset vzero 0 2)) rfl rfl rfl ⟨rfl, rfl⟩) (congrArg Value.bool (by decide +kernel)) ?_)
  refine RW_op (L_pick (V := .bool true) rfl rfl ?_)
  refine RW_op (L_move (V := .bool true) rfl ?_)
  refine RW_gy rfl (L_fieldAddr FA_62_1 rfl ?_)
  refine RW_gy rfl (L_ld (V := .slice x12.1.1 (((mergeR alS1 alS2).ents).length) x12.1.2) S1_59 hs 8 rfl rfl rfl ?_)
  refine RW_gy rfl (L_lenR (n := ((mergeR alS1 alS2).ents).length) UD_59 (hs.rd 6 rfl) (by simp) rfl ?_)
  refine RW_gy rfl (opW_to (V := .bool (decide (((((mergeR alS1 alS2).ents).length : Nat) : Int) = 0))) (V' := .bool true) (L_eql rfl rfl ⟨rfl, rfl⟩) (congrArg Value.bool (by rw [haE]; decide)) ?_)
  refine RW_op (L_pick (V := .bool true) rfl rfl ?_)
  refine RW_op (L_move (V := .bool true) rfl ?_)
  refine RW_gy rfl (L_fieldAddr FA_74_1 rfl ?_)
  refine RW_gy rfl (L_ld (V := .slice x17.1 ([(⟨4, 2⟩ : Line)].length) x17.2) S1_72 hs 10 rfl rfl rfl ?_)
  refine RW_gy rfl (L_lenR (n := [(⟨4, 2⟩ : Line)].length) UD_72 (hs.rd 9 rfl) (by simp) rfl ?_)
  refine RW_gy rfl (opW_to (V := .bool (decide ((([(⟨4, 2⟩ : Line)].length : Nat) : Int) = 1))) (V' := .bool true) (L_eql rfl rfl ⟨rfl, rfl⟩) (congrArg Value.bool (by decide +kernel)) ?_)
  refine RW_op (L_pick (V := .bool true) rfl rfl ?_)
  refine RW_op (L_move (V := .bool true) rfl ?_)
  refine RW_gy rfl (L_fieldAddr FA_74_1 rfl ?_)
  refine RW_gy rfl (L_ld (V := .slice x17.1 ([(⟨4, 2⟩ : Line)].length) x17.2) S1_72 hs 10 rfl rfl rfl ?_)
  refine RW_gy rfl (L_ixR UD_72 SA_102.1 (hs.rd 9 rfl) rfl rfl (by decide) (by simp only [List.length_map, List.length_cons, List.length_nil]; omega) ?_)
  refine RW_gy rfl (L_fieldAddr FA_102_1 rfl ?_)
  refine RW_gy rfl (L_ldR (j := 1) (V := .int .u32 ((gd [(⟨4, 2⟩ : Line)] 0).qty)) 0 S1_51 (hs.rd 9 rfl) (gd_at (by simp only [List.length_cons, List.length_nil]; omega)) rfl rfl (by omega) ?_)
  refine RW_gy rfl (opW_to (V := .bool (decide ((gd [(⟨4, 2⟩ : Line)] 0).qty = 2))) (V' := .bool true) (L_eql rfl rfl ⟨rfl, rfl⟩) (congrArg Value.bool (by decide +kernel)) ?_)
  refine RW_op (L_pick (V := .bool true) rfl rfl ?_)
  refine RW_op (L_move (V := .bool true) rfl ?_)
  refine RW_gy rfl (L_ldW (cs := (vc alS2.known) ++ [(.slice x7.1.1 ((alS2.ents).length) x7.1.2 : Value), (.slice x7.2.1 ((alS2.ticks).length) x7.2.2 : Value) ]) SA_62 hs 5 rfl rfl rfl ?_)
  refine RW_gy rfl (L_callX (α := Option Addr × Nat) (vs := [.agg ((vc alS2.known) ++ [(.slice x7.1.1 ((alS2.ents).length) x7.1.2 : Value), (.slice x7.2.1 ((alS2.ticks).length) x7.2.2 : Value) ]).toArray, .int .u16 3]) (V := fun x => .agg #[.int .u16 3, .slice x.1 (([] : List Line).length) x.2, .bool false, .int .u32 6]) (Lo := fun x => [row (.slice x.1 ([] : List Line).length x.2) (([] : List Line).map lc) 102 2]) (F := fun _ _ => True) EN_34 rfl rfl ?hc hs fun x22 w21 hs _ => ?_)
  case hc => exact (cViewE_ok _ alS2 x7.1.1 x7.1.2 x7.2.1 x7.2.2 3 (⟨3, ([] : List Line), false, 6⟩ : Vw) (alV2) alS2_ok (by decide +kernel) (by decide +kernel) (hs.rd 3 rfl) (hs.rd 4 rfl))
  refine RW_gy rfl (L_fieldV (V := .int .u32 6) (fun w => by simp [Instr.field, part, asAgg]) rfl ?_)
  refine RW_gy rfl (opW_to (V := .bool (decide ((6 : Int) = 6))) (V' := .bool true) (L_eql rfl rfl ⟨rfl, rfl⟩) (congrArg Value.bool (by decide)) ?_)
  refine RW_op (L_pick (V := .bool true) rfl rfl ?_)
  refine RW_op (L_move (V := .bool true) rfl ?_)
  refine RW_gy rfl (L_ldW (cs := (vc alS1.known) ++ [(.slice x2.1.1 ((alS1.ents).length) x2.1.2 : Value), (.slice x2.2.1 ((alS1.ticks).length) x2.2.2 : Value) ]) SA_62 hs 2 rfl rfl rfl ?_)
  refine RW_gy rfl (L_callPV (V' := .bool true) (congrArg Value.bool (by decide +kernel)) (vs := [.agg ((vc alS1.known) ++ [(.slice x2.1.1 ((alS1.ents).length) x2.1.2 : Value), (.slice x2.2.1 ((alS1.ticks).length) x2.2.2 : Value) ]).toArray]) (V := .bool (rightS alS1)) EN_58 rfl rfl ?hc hs fun w23 hs => ?_)
  case hc => exact (cRight_ok _ alS1 x2.1.1 x2.1.2 x2.2.1 x2.2.2 alS1_ok (by decide +kernel) (by decide +kernel) (hs.rd 0 rfl) (hs.rd 1 rfl))
  refine RW_op (L_pick (V := .bool true) rfl rfl ?_)
  refine RW_op (L_move (V := .bool true) rfl ?_)
  refine RW_gy rfl (L_ldW (cs := (vc alS2.known) ++ [(.slice x7.1.1 ((alS2.ents).length) x7.1.2 : Value), (.slice x7.2.1 ((alS2.ticks).length) x7.2.2 : Value) ]) SA_62 hs 5 rfl rfl rfl ?_)
  refine RW_gy rfl (L_callX (vs := [.agg ((vc alS2.known) ++ [(.slice x7.1.1 ((alS2.ents).length) x7.1.2 : Value), (.slice x7.2.1 ((alS2.ticks).length) x7.2.2 : Value) ]).toArray]) (V := fun x : Option Addr × Nat => .slice x.1 (cartsS alS2).length x.2) EN_37 rfl rfl (cCarts_ok _ alS2 x7.1.1 x7.1.2 x7.2.1 x7.2.2 alS2_ok (by decide +kernel) (by decide +kernel) (hs.rd 3 rfl) (hs.rd 4 rfl)) hs fun x24 w25 hs _ => ?_)
  refine RW_gy rfl (L_lenR (n := (cartsS alS2).length) UD_78 (hs.rd 12 rfl) (by simp) rfl ?_)
  refine RW_gy rfl (opW_to (V := .bool (decide ((((cartsS alS2).length : Nat) : Int) = 1))) (V' := .bool true) (L_eql rfl rfl ⟨rfl, rfl⟩) (congrArg Value.bool (by decide +kernel)) ?_)
  refine RW_op (L_pick (V := .bool true) rfl rfl ?_)
  refine RW_op (L_assign (V := .bool true) rfl ?_)
  refine RW_nil ?_
  refine W_ret ?_
  refine ⟨_, res_one (V := .bool true) Try.results26 rfl, ?_⟩
  refine ⟨congrArg Ending.returned ?_, hs.take 0⟩
  rfl
end Tt
end Go.Proofs
namespace Go.Proofs
open Go Go.Vx Go.RowKit
namespace Tt
set_option maxRecDepth 20000 in
set_option maxHeartbeats 4000000 in
theorem ours_ok (w : World) (s : Sta) (a1 : Option Addr) (c1 : Nat) (a2 : Option Addr) (c2 : Nat) (hle : s.ents.length ≤ 100000) (hlt : s.ticks.length ≤ 100000) (hr1 : Rd w (.slice a1 s.ents.length c1) 7 (s.ents.map cec)) (hr2 : Rd w (.slice a2 s.ticks.length c2) 2 (s.ticks.map lsc)) : Calls Try.prog 32 #[.agg ((vc s.known) ++ [(.slice a1 s.ents.length c1 : Value), (.slice a2 s.ticks.length c2 : Value) ]).toArray] w (fun e w' => ∃ x : (Option Addr × Nat) × (Option Addr × Nat), e = .returned (.agg (vc (s).known ++ [(.slice x.1.1 (s).ents.length x.1.2 : Value), (.slice x.2.1 (s).ticks.length x.2.2 : Value)]).toArray) ∧ Own w no w' [row (.slice x.1.1 (s).ents.length x.1.2) ((s).ents.map cec) 134 7, row (.slice x.2.1 (s).ticks.length x.2.2) ((s).ticks.map lsc) 135 2] ∧ True) := by
  refine calls_of_Wn (n := 40) Try.func32 rfl Try.ntmps32 rfl ?_
  have hs := Own.start w
  refine W_seq ?_
  refine W_region ?_
  refine RW_op (L_box (V := .agg ((vc s.known) ++ [(.slice a1 s.ents.length c1 : Value), (.slice a2 s.ticks.length c2 : Value) ]).toArray) (cs := (vc s.known) ++ [(.slice a1 s.ents.length c1 : Value), (.slice a2 s.ticks.length c2 : Value) ]) rfl rfl hs fun b1 w2 hs => ?_)
  refine RW_op (L_alloc (cs := (vc vzero) ++ [(.slice none 0 0 : Value), (.slice none 0 0 : Value) ]) ZV_57 rfl hs fun b3 w4 hs => ?_)
  refine RW_nil ?_
  refine W_seq ?_
  refine W_region ?_
  refine RW_op (L_fieldAddr FA_62_0 rfl ?_)
  refine RW_op (L_ldA (vs := vc s.known) SA_53 hs 0 rfl rfl rfl rfl ?_)
  refine RW_op (L_buildP (vs := [(0, .agg (vc s.known).toArray)]) (cs := (vc s.known) ++ [(.slice none 0 0 : Value), (.slice none 0 0 : Value) ]) [vc vzero, [(.slice none 0 0 : Value)], [(.slice none 0 0 : Value)]] [vc s.known, [(.slice none 0 0 : Value)], [(.slice none 0 0 : Value)]] BT_57 rfl (rfl) rfl rfl ?_)
  refine RW_op (L_alloc (cs := (vc vzero) ++ [(.slice none 0 0 : Value), (.slice none 0 0 : Value) ]) ZV_57 rfl hs fun b5 w6 hs => ?_)
  refine RW_op (L_st (V := .agg ((vc s.known) ++ [(.slice none 0 0 : Value), (.slice none 0 0 : Value) ]).toArray) (vs := (vc s.known) ++ [(.slice none 0 0 : Value), (.slice none 0 0 : Value) ]) (cs' := (vc s.known) ++ [(.slice none 0 0 : Value), (.slice none 0 0 : Value) ]) SA_57.1 hs 2 rfl rfl rfl rfl rfl (Nat.le_of_ble_eq_true rfl) (one_app (vc_one _) (one_cons rfl (one_cons rfl one_nil))) (spl_whole rfl) fun w7 hs => ?_)
  replace hs : Own w no w7 [blk b1 ((vc s.known) ++ [(.slice a1 s.ents.length c1 : Value), (.slice a2 s.ticks.length c2 : Value) ]) 62, blk b3 ((vc vzero) ++ [(.slice none 0 0 : Value), (.slice none 0 0 : Value) ]) 57, blk b5 ((vc s.known) ++ [(.slice none 0 0 : Value), (.slice none 0 0 : Value) ]) 57] := hs
  refine RW_nil ?_
  refine W_seq ?_
  refine W_seq ?_
  refine W_region ?_
  refine RW_op (L_fieldAddr FA_62_1 rfl ?_)
  refine RW_op (L_ld (V := .slice a1 s.ents.length c1) S1_59 hs 0 rfl rfl rfl ?_)
  refine RW_op (L_lenR (n := s.ents.length) UD_59 (Rd.own' hr1 hs) (by simp) rfl ?_)
  refine RW_op (L_move (V := .int .i64 0) rfl ?_)
  refine RW_nil ?_
  refine W_block ?_
  replace hs := hs.more (row (.slice none 0 0) (List.map cec []) 134 7) (row_nil _ _ _ _)
  refine W_loopI (fun ρ μ ρ' w' => ∃ (ρo : Env) (k1 : Nat) (an1 : Option Addr) (cn1 : Nat) (L1 : List Cen), ρ' = upd (mix [5, 14, 15, 16, 17, 18, 19, 20, 21, 22, 23, 24] ρo ρ) 14 (.int .i64 ((k1 : Nat) : Int)) ∧ (k1 ≤ s.ents.length) ∧ (L1 = s.ents.take k1) ∧ (L1.length ≤ k1) ∧ μ = s.ents.length - k1 ∧ Own w no w' [blk b1 ((vc s.known) ++ [(.slice a1 s.ents.length c1 : Value), (.slice a2 s.ticks.length c2 : Value) ]) 62, blk b3 ((vc vzero) ++ [(.slice none 0 0 : Value), (.slice none 0 0 : Value) ]) 57, blk b5 ((vc s.known) ++ [(.slice an1 L1.length cn1 : Value), (.slice none 0 0 : Value) ]) 57, row (.slice an1 L1.length cn1) (L1.map cec) 134 7]) ?_ ?_
  · exact ⟨_, _, 0, none, 0, [], upd_of (mix_of (ds := [5, 14, 15, 16, 17, 18, 19, 20, 21, 22, 23, 24]) (Agr.refl _ _)) rfl, (by omega), rfl, (Nat.le_refl _), rfl, hs⟩
  · rintro μ ρ' w8 ⟨ρo, k1, an1, cn1, L1, rfl, hk1, hL1, hl1, rfl, hs⟩
    have hb1 := hl1
    refine W_seq ?_
    refine W_region ?_
    refine RW_op (L_lss rfl rfl ?_)
    refine RW_nil ?_
    refine W_seq ?_
    refine W_cond (t := decide (((k1 : Nat) : Int) < ((s.ents.length : Nat) : Int))) rfl (fun c9 => ?_) (fun c9 => ?_)
    ·
      replace c9 := of_decide_eq_true c9
      refine W_skip ?_
      refine W_seq ?_
      refine W_block ?_
      refine W_seq ?_
      refine W_region ?_
      refine RW_op (L_ixR UD_59 SA_128.1 (Rd.own' hr1 hs) rfl rfl (by omega) (by rw [List.length_map]; omega) ?_)
      refine RW_op (L_ldRA (j := 0) (vs := cec (gd s.ents k1)) k1 SA_128 (Rd.own' hr1 hs) (gd_at (by omega)) rfl rfl rfl (by omega) ?_)
      refine RW_op (L_alloc (cs := cec (⟨0, 0, 0, 0, (⟨0, 0⟩ : Dot), 0⟩ : Cen)) ZV_128 rfl hs fun b10 w11 hs => ?_)
      refine RW_op (L_st (V := .agg (cec (gd s.ents k1)).toArray) (vs := cec (gd s.ents k1)) (cs' := cec (gd s.ents k1)) SA_128.1 hs 4 rfl rfl rfl rfl rfl (Nat.le_of_ble_eq_true rfl) (cec_one _) (spl_whole rfl) fun w12 hs => ?_)
      refine RW_nil ?_
      refine W_region ?_
      refine RW_op (L_fieldAddr FA_57_1 rfl ?_)
      refine RW_op (L_ld (V := .slice an1 L1.length cn1) S1_54 hs 2 rfl rfl rfl ?_)
      refine RW_op (L_ldW (cs := cec (gd s.ents k1)) SA_128 hs 4 rfl rfl rfl ?_)
      refine RW_op (L_bs (vals := [.agg (cec (gd s.ents k1)).toArray]) (ls := List.map cec ([gd s.ents k1] : List Cen)) EL_54 rfl rfl rfl (len_map (enc := cec) (fun _ => rfl) _) (one_map cec_one _) (Nat.le_of_ble_eq_true rfl) hs fun b13 w14 hs => ?_)
      refine RW_op (L_appN (ls' := (L1 ++ [gd s.ents k1]).map cec) (n := (L1 ++ [gd s.ents k1]).length) EL_54 hs 3 rfl rfl rfl (hs.rd 5 rfl) (one_map cec_one _) (by simp only [List.length_map, List.length_append, List.length_cons, List.length_nil]; omega) (by simp) (by simp) fun a15 c15 w16 hs => ?_)
      replace hs : Own w no w16 [blk b1 ((vc s.known) ++ [(.slice a1 s.ents.length c1 : Value), (.slice a2 s.ticks.length c2 : Value) ]) 62, blk b3 ((vc vzero) ++ [(.slice none 0 0 : Value), (.slice none 0 0 : Value) ]) 57, blk b5 ((vc s.known) ++ [(.slice an1 L1.length cn1 : Value), (.slice none 0 0 : Value) ]) 57, row (.slice a15 ((L1 ++ [gd s.ents k1]).length) c15) ((L1 ++ [gd s.ents k1]).map cec) 134 7, blk b10 (cec (gd s.ents k1)) 128, row (.slice (some ⟨b13, 0, none⟩) 1 1) ([gd s.ents k1].map cec) 134 7] := hs
      refine RW_op (L_fieldAddr FA_57_1 rfl ?_)
      refine RW_op (L_st1 (V := .slice a15 ((L1 ++ [gd s.ents k1]).length) c15) (cs' := (vc s.known) ++ [(.slice a15 ((L1 ++ [gd s.ents k1]).length) c15 : Value), (.slice none 0 0 : Value) ]) S1_54 hs 2 rfl rfl rfl rfl (Nat.le_of_ble_eq_true rfl) rfl fun w17 hs => ?_)
      refine RW_nil ?_
      refine W_region ?_
      refine RW_op (L_add (a := ((k1 : Nat) : Int)) (b := 1) (c := ((k1 + 1 : Nat) : Int)) rfl rfl (nat_i64 (by omega) (by omega)) ?_)
      refine RW_op (L_move (V := .int .i64 ((k1 + 1 : Nat) : Int)) rfl ?_)
      refine RW_nil ?_
      refine ⟨_, ?_, _, k1 + 1, a15, c15, L1 ++ [gd s.ents k1], upd_of (mix_of (ds := [5, 14, 15, 16, 17, 18, 19, 20, 21, 22, 23, 24]) (by repeat (first | exact Agr.refl _ _ | refine Agr.upd ?_ rfl | refine Agr.mix ?_ rfl))) rfl, (by omega), (by rw [take_snoc (by omega), ← hL1]), (by rw [List.length_append, List.length_singleton]; omega), rfl, hs.take 4⟩
      omega
    ·
      replace c9 := of_decide_eq_false c9
      refine W_exit ?_
      refine W_seq ?_
      refine W_seq ?_
      refine W_region ?_
      refine RW_op (L_fieldAddr FA_62_2 rfl ?_)
      refine RW_op (L_ld (V := .slice a2 s.ticks.length c2) S1_60 hs 0 rfl rfl rfl ?_)
      refine RW_op (L_lenR (n := s.ticks.length) UD_60 (Rd.own' hr2 hs) (by simp) rfl ?_)
      refine RW_op (L_move (V := .int .i64 0) rfl ?_)
      refine RW_nil ?_
      refine W_block ?_
      replace hs := hs.more (row (.slice none 0 0) (List.map lsc []) 135 2) (row_nil _ _ _ _)
      refine W_loopI (fun ρ μ ρ' w' => ∃ (ρo : Env) (k2 : Nat) (an2 : Option Addr) (cn2 : Nat) (L2 : List Lst), ρ' = upd (mix [7, 28, 29, 30, 31, 32, 33, 34, 35, 36, 37, 38] ρo ρ) 28 (.int .i64 ((k2 : Nat) : Int)) ∧ (k2 ≤ s.ticks.length) ∧ (L2 = s.ticks.take k2) ∧ (L2.length ≤ k2) ∧ μ = s.ticks.length - k2 ∧ Own w no w' [blk b1 ((vc s.known) ++ [(.slice a1 s.ents.length c1 : Value), (.slice a2 s.ticks.length c2 : Value) ]) 62, blk b3 ((vc vzero) ++ [(.slice none 0 0 : Value), (.slice none 0 0 : Value) ]) 57, blk b5 ((vc s.known) ++ [(.slice an1 L1.length cn1 : Value), (.slice an2 L2.length cn2 : Value) ]) 57, row (.slice an1 L1.length cn1) (L1.map cec) 134 7, row (.slice an2 L2.length cn2) (L2.map lsc) 135 2]) ?_ ?_
      · exact ⟨_, _, 0, none, 0, [], upd_of (mix_of (ds := [7, 28, 29, 30, 31, 32, 33, 34, 35, 36, 37, 38]) (Agr.refl _ _)) rfl, (by omega), rfl, (Nat.le_refl _), rfl, hs⟩
      · rintro μ ρ' w18 ⟨ρo, k2, an2, cn2, L2, rfl, hk2, hL2, hl2, rfl, hs⟩
        have hb2 := hl2
        refine W_seq ?_
        refine W_region ?_
        refine RW_op (L_lss rfl rfl ?_)
        refine RW_nil ?_
        refine W_seq ?_
        refine W_cond (t := decide (((k2 : Nat) : Int) < ((s.ticks.length : Nat) : Int))) rfl (fun c19 => ?_) (fun c19 => ?_)
        ·
          replace c19 := of_decide_eq_true c19
          refine W_skip ?_
          refine W_seq ?_
          refine W_block ?_
          refine W_seq ?_
          refine W_region ?_
          refine RW_op (L_ixR UD_60 SA_126.1 (Rd.own' hr2 hs) rfl rfl (by omega) (by rw [List.length_map]; omega) ?_)
          refine RW_op (L_ldRA (j := 0) (vs := lsc (gd s.ticks k2)) k2 SA_126 (Rd.own' hr2 hs) (gd_at (by omega)) rfl rfl rfl (by omega) ?_)
          refine RW_op (L_alloc (cs := lsc (⟨0, 0⟩ : Lst)) ZV_126 rfl hs fun b20 w21 hs => ?_)
          refine RW_op (L_st (V := .agg (lsc (gd s.ticks k2)).toArray) (vs := lsc (gd s.ticks k2)) (cs' := lsc (gd s.ticks k2)) SA_126.1 hs 5 rfl rfl rfl rfl rfl (Nat.le_of_ble_eq_true rfl) (lsc_one _) (spl_whole rfl) fun w22 hs => ?_)
          refine RW_nil ?_
          refine W_region ?_
          refine RW_op (L_fieldAddr FA_57_2 rfl ?_)
          refine RW_op (L_ld (V := .slice an2 L2.length cn2) S1_55 hs 2 rfl rfl rfl ?_)
          refine RW_op (L_ldW (cs := lsc (gd s.ticks k2)) SA_126 hs 5 rfl rfl rfl ?_)
          refine RW_op (L_bs (vals := [.agg (lsc (gd s.ticks k2)).toArray]) (ls := List.map lsc ([gd s.ticks k2] : List Lst)) EL_55 rfl rfl rfl (len_map (enc := lsc) (fun _ => rfl) _) (one_map lsc_one _) (Nat.le_of_ble_eq_true rfl) hs fun b23 w24 hs => ?_)
          refine RW_op (L_appN (ls' := (L2 ++ [gd s.ticks k2]).map lsc) (n := (L2 ++ [gd s.ticks k2]).length) EL_55 hs 4 rfl rfl rfl (hs.rd 6 rfl) (one_map lsc_one _) (by simp only [List.length_map, List.length_append, List.length_cons, List.length_nil]; omega) (by simp) (by simp) fun a25 c25 w26 hs => ?_)
          replace hs : Own w no w26 [blk b1 ((vc s.known) ++ [(.slice a1 s.ents.length c1 : Value), (.slice a2 s.ticks.length c2 : Value) ]) 62, blk b3 ((vc vzero) ++ [(.slice none 0 0 : Value), (.slice none 0 0 : Value) ]) 57, blk b5 ((vc s.known) ++ [(.slice an1 L1.length cn1 : Value), (.slice an2 L2.length cn2 : Value) ]) 57, row (.slice an1 L1.length cn1) (L1.map cec) 134 7, row (.slice a25 ((L2 ++ [gd s.ticks k2]).length) c25) ((L2 ++ [gd s.ticks k2]).map lsc) 135 2, blk b20 (lsc (gd s.ticks k2)) 126, row (.slice (some ⟨b23, 0, none⟩) 1 1) ([gd s.ticks k2].map lsc) 135 2] := hs
          refine RW_op (L_fieldAddr FA_57_2 rfl ?_)
          refine RW_op (L_st1 (V := .slice a25 ((L2 ++ [gd s.ticks k2]).length) c25) (cs' := (vc s.known) ++ [(.slice an1 L1.length cn1 : Value), (.slice a25 ((L2 ++ [gd s.ticks k2]).length) c25 : Value) ]) S1_55 hs 2 rfl rfl rfl rfl (Nat.le_of_ble_eq_true rfl) rfl fun w27 hs => ?_)
          refine RW_nil ?_
          refine W_region ?_
          refine RW_op (L_add (a := ((k2 : Nat) : Int)) (b := 1) (c := ((k2 + 1 : Nat) : Int)) rfl rfl (nat_i64 (by omega) (by omega)) ?_)
          refine RW_op (L_move (V := .int .i64 ((k2 + 1 : Nat) : Int)) rfl ?_)
          refine RW_nil ?_
          refine ⟨_, ?_, _, k2 + 1, a25, c25, L2 ++ [gd s.ticks k2], upd_of (mix_of (ds := [7, 28, 29, 30, 31, 32, 33, 34, 35, 36, 37, 38]) (by repeat (first | exact Agr.refl _ _ | refine Agr.upd ?_ rfl | refine Agr.mix ?_ rfl))) rfl, (by omega), (by rw [take_snoc (by omega), ← hL2]), (by rw [List.length_append, List.length_singleton]; omega), rfl, hs.take 5⟩
          omega
        ·
          replace c19 := of_decide_eq_false c19
          refine W_exit ?_
          refine W_seq ?_
          refine W_region ?_
          refine RW_op (L_ldW (cs := (vc s.known) ++ [(.slice an1 L1.length cn1 : Value), (.slice an2 L2.length cn2 : Value) ]) SA_57 hs 2 rfl rfl rfl ?_)
          refine RW_op (L_st (V := .agg ((vc s.known) ++ [(.slice an1 L1.length cn1 : Value), (.slice an2 L2.length cn2 : Value) ]).toArray) (vs := (vc s.known) ++ [(.slice an1 L1.length cn1 : Value), (.slice an2 L2.length cn2 : Value) ]) (cs' := (vc s.known) ++ [(.slice an1 L1.length cn1 : Value), (.slice an2 L2.length cn2 : Value) ]) SA_57.1 hs 1 rfl rfl rfl rfl rfl (Nat.le_of_ble_eq_true rfl) (one_app (vc_one _) (one_cons rfl (one_cons rfl one_nil))) (spl_whole rfl) fun w28 hs => ?_)
          refine RW_nil ?_
          refine W_ret ?_
          refine ⟨_, res_cell (cs := (vc s.known) ++ [(.slice an1 L1.length cn1 : Value), (.slice an2 L2.length cn2 : Value) ]) Try.results32 SA_57 hs 1 rfl rfl rfl, ?_⟩
          have hX : L1 = s.ents := by rw [hL1, List.take_of_length_le (by omega)]
          have hY : L2 = s.ticks := by rw [hL2, List.take_of_length_le (by omega)]
          rw [hX, hY] at hs ⊢
          exact ⟨((an1, cn1), (an2, cn2)), rfl, hs.two 3 4 (by decide) rfl rfl, trivial⟩
set_option maxRecDepth 20000 in
set_option maxHeartbeats 4000000 in
theorem same8_ok (w : World) (p : Sta) (a1p : Option Addr) (c1p : Nat) (a2p : Option Addr) (c2p : Nat) (q : Sta) (a1q : Option Addr) (c1q : Nat) (a2q : Option Addr) (c2q : Nat) (hr1p : Rd w (.slice a1p p.ents.length c1p) 7 (p.ents.map cec)) (hr2p : Rd w (.slice a2p p.ticks.length c2p) 2 (p.ticks.map lsc)) (hr1q : Rd w (.slice a1q q.ents.length c1q) 7 (q.ents.map cec)) (hr2q : Rd w (.slice a2q q.ticks.length c2q) 2 (q.ticks.map lsc)) : Calls Try.prog 31 #[.agg ((vc p.known) ++ [(.slice a1p p.ents.length c1p : Value), (.slice a2p p.ticks.length c2p : Value) ]).toArray, .agg ((vc q.known) ++ [(.slice a1q q.ents.length c1q : Value), (.slice a2q q.ticks.length c2q : Value) ]).toArray] w (fun e w' => e = .returned (.bool (decide (p.known = q.known) && (decide (p.ents = q.ents) && decide (p.ticks = q.ticks)))) ∧ Own w no w' []) := by
  refine calls_of_Wn (n := 66) Try.func31 rfl Try.ntmps31 rfl ?_
  have hs := Own.start w
  have hn1 := hr1p.sml
  have hn2 := hr2p.sml
  have hn3 := hr1q.sml
  have hn4 := hr2q.sml
  refine W_seq ?_
  refine W_region ?_
  refine RW_op (L_box (V := .agg ((vc p.known) ++ [(.slice a1p p.ents.length c1p : Value), (.slice a2p p.ticks.length c2p : Value) ]).toArray) (cs := (vc p.known) ++ [(.slice a1p p.ents.length c1p : Value), (.slice a2p p.ticks.length c2p : Value) ]) rfl rfl hs fun b1 w2 hs => ?_)
  refine RW_op (L_box (V := .agg ((vc q.known) ++ [(.slice a1q q.ents.length c1q : Value), (.slice a2q q.ticks.length c2q : Value) ]).toArray) (cs := (vc q.known) ++ [(.slice a1q q.ents.length c1q : Value), (.slice a2q q.ticks.length c2q : Value) ]) rfl rfl hs fun b3 w4 hs => ?_)
  refine RW_op (L_assign (V := .bool false) rfl ?_)
  refine RW_nil ?_
  refine W_seq ?_
  refine W_seq ?_
  refine W_regO [some 7, some 8, some 9, some 10, some 11, some 12, some 13, some 14, some 15, some 16, some 17, some 18, some 19, some 20, some 21, some 22, some 23, some 24, some 25, some 26, some 27, some 28, some 29] [] [0, 1, 0, 4, 15, 31, 63, 127, 255, 63, 575, 1599, 4095, 8191, 16383, 32767, 65535, 131071, 32767, 294911, 819199, 2097151, 4194303] [pv (.pointer (some ⟨b1, 0 + 0, none⟩)), pv (.agg (vc p.known).toArray), pv (.pointer (some ⟨b3, 0 + 0, none⟩)), pv (.agg (vc q.known).toArray), pv (.bool (!decide (p.known = q.known))), pv (.bool (!decide (p.known = q.known))), pg ((!decide (p.known = q.known)) == false) (.pointer (some ⟨b1, 0 + 16, none⟩)), pg ((!decide (p.known = q.known)) == false) (.slice a1p p.ents.length c1p), pg ((!decide (p.known = q.known)) == false) (.int .i64 ((p.ents.length : Nat) : Int)), pg ((!decide (p.known = q.known)) == false) (.pointer (some ⟨b3, 0 + 16, none⟩)), pg ((!decide (p.known = q.known)) == false) (.slice a1q q.ents.length c1q), pg ((!decide (p.known = q.known)) == false) (.int .i64 ((q.ents.length : Nat) : Int)), pg ((!decide (p.known = q.known)) == false) (.bool (!decide (((p.ents.length : Nat) : Int) = ((q.ents.length : Nat) : Int)))), pv (.bool ((!decide (p.known = q.known)) || (!decide (((p.ents.length : Nat) : Int) = ((q.ents.length : Nat) : Int))))), pv (.bool ((!decide (p.known = q.known)) || (!decide (((p.ents.length : Nat) : Int) = ((q.ents.length : Nat) : Int))))), pg (((!decide (p.known = q.known)) || (!decide (((p.ents.length : Nat) : Int) = ((q.ents.length : Nat) : Int)))) == false) (.pointer (some ⟨b1, 0 + 17, none⟩)), pg (((!decide (p.known = q.known)) || (!decide (((p.ents.length : Nat) : Int) = ((q.ents.length : Nat) : Int)))) == false) (.slice a2p p.ticks.length c2p), pg (((!decide (p.known = q.known)) || (!decide (((p.ents.length : Nat) : Int) = ((q.ents.length : Nat) : Int)))) == false) (.int .i64 ((p.ticks.length : Nat) : Int)), pg (((!decide (p.known = q.known)) || (!decide (((p.ents.length : Nat) : Int) = ((q.ents.length : Nat) : Int)))) == false) (.pointer (some ⟨b3, 0 + 17, none⟩)), pg (((!decide (p.known = q.known)) || (!decide (((p.ents.length : Nat) : Int) = ((q.ents.length : Nat) : Int)))) == false) (.slice a2q q.ticks.length c2q), pg (((!decide (p.known = q.known)) || (!decide (((p.ents.length : Nat) : Int) = ((q.ents.length : Nat) : Int)))) == false) (.int .i64 ((q.ticks.length : Nat) : Int)), pg (((!decide (p.known = q.known)) || (!decide (((p.ents.length : Nat) : Int) = ((q.ents.length : Nat) : Int)))) == false) (.bool (!decide (((p.ticks.length : Nat) : Int) = ((q.ticks.length : Nat) : Int)))), pv (.bool (((!decide (p.known = q.known)) || (!decide (((p.ents.length : Nat) : Int) = ((q.ents.length : Nat) : Int)))) || (!decide (((p.ticks.length : Nat) : Int) = ((q.ticks.length : Nat) : Int)))))] (fun _ _ => _) [22] (by kernel_rfl) hs ⟨?_, ?_, ?_, ?_, ?_, ?_, ?_, ?_, ?_, ?_, ?_, ?_, ?_, ?_, ?_, ?_, ?_, ?_, ?_, ?_, ?_, ?_, ?_, trivial⟩ ?_
  · exact ob [] [] rfl rfl fun D ρ w hs => L_fieldAddr FA_57_0 rfl ⟨rfl, hs⟩
  · exact ob [0] [] rfl rfl fun D ρ w hs => L_ldA (vs := vc p.known) SA_53 hs 0 rfl rfl rfl rfl ⟨rfl, hs⟩
  · exact ob [] [] rfl rfl fun D ρ w hs => L_fieldAddr FA_57_0 rfl ⟨rfl, hs⟩
  · exact ob [2] [] rfl rfl fun D ρ w hs => L_ldA (vs := vc q.known) SA_53 hs 1 rfl rfl rfl rfl ⟨rfl, hs⟩
  · exact ob [1, 3] [] rfl rfl fun D ρ w hs => L_neA (xs := vc p.known) (ys := vc q.known) Try.eqGuardType53 (EQ_53 p.known q.known) rfl rfl rfl ⟨rfl, hs⟩
  · exact ob [4] [] rfl rfl fun D ρ w hs => L_move (V := .bool (!decide (p.known = q.known))) rfl ⟨rfl, hs⟩
  · exact obg [5] [] (!decide (p.known = q.known)) rfl (fun _ => rfl) rfl (fun _ _ _ _ h => h) fun D ρ w hG hs => L_fieldAddr FA_57_1 rfl ⟨rfl, hs⟩
  · exact obgy [5, 6] [] [6] (!decide (p.known = q.known)) rfl (fun _ => rfl) rfl (fun _ _ _ _ h => h) (fun hG => ⟨hG, trivial⟩) fun D ρ w hG hs => L_ld (V := .slice a1p p.ents.length c1p) S1_54 hs 0 rfl rfl rfl ⟨rfl, hs⟩
  · exact obgy [5, 7] [] [7] (!decide (p.known = q.known)) rfl (fun _ => rfl) rfl (fun _ _ _ _ h => h) (fun hG => ⟨hG, trivial⟩) fun D ρ w hG hs => L_lenR (n := p.ents.length) UD_54 (Rd.own' hr1p hs) (by simp) rfl ⟨rfl, hs⟩
  · exact obg [5] [] (!decide (p.known = q.known)) rfl (fun _ => rfl) rfl (fun _ _ _ _ h => h) fun D ρ w hG hs => L_fieldAddr FA_57_1 rfl ⟨rfl, hs⟩
  · exact obgy [5, 9] [] [9] (!decide (p.known = q.known)) rfl (fun _ => rfl) rfl (fun _ _ _ _ h => h) (fun hG => ⟨hG, trivial⟩) fun D ρ w hG hs => L_ld (V := .slice a1q q.ents.length c1q) S1_54 hs 1 rfl rfl rfl ⟨rfl, hs⟩
  · exact obgy [5, 10] [] [10] (!decide (p.known = q.known)) rfl (fun _ => rfl) rfl (fun _ _ _ _ h => h) (fun hG => ⟨hG, trivial⟩) fun D ρ w hG hs => L_lenR (n := q.ents.length) UD_54 (Rd.own' hr1q hs) (by simp) rfl ⟨rfl, hs⟩
  · exact obgy [5, 8, 11] [] [8, 11] (!decide (p.known = q.known)) rfl (fun _ => rfl) rfl (fun _ _ _ _ h => h) (fun hG => ⟨hG, hG, trivial⟩) fun D ρ w hG hs => L_neq rfl rfl ⟨rfl, hs⟩
  · exact ob [5, 12] [] rfl rfl fun D ρ w hs => L_orC (h' := !decide (((p.ents.length : Nat) : Int) = ((q.ents.length : Nat) : Int))) rfl rfl rfl ⟨rfl, hs⟩
  · exact ob [13] [] rfl rfl fun D ρ w hs => L_move (V := .bool ((!decide (p.known = q.known)) || (!decide (((p.ents.length : Nat) : Int) = ((q.ents.length : Nat) : Int))))) rfl ⟨rfl, hs⟩
  · exact obg [14] [] ((!decide (p.known = q.known)) || (!decide (((p.ents.length : Nat) : Int) = ((q.ents.length : Nat) : Int)))) rfl (fun _ => rfl) rfl (fun _ _ _ _ h => h) fun D ρ w hG hs => L_fieldAddr FA_57_2 rfl ⟨rfl, hs⟩
  · exact obgy [14, 15] [] [15] ((!decide (p.known = q.known)) || (!decide (((p.ents.length : Nat) : Int) = ((q.ents.length : Nat) : Int)))) rfl (fun _ => rfl) rfl (fun _ _ _ _ h => h) (fun hG => ⟨hG, trivial⟩) fun D ρ w hG hs => L_ld (V := .slice a2p p.ticks.length c2p) S1_55 hs 0 rfl rfl rfl ⟨rfl, hs⟩
  · exact obgy [14, 16] [] [16] ((!decide (p.known = q.known)) || (!decide (((p.ents.length : Nat) : Int) = ((q.ents.length : Nat) : Int)))) rfl (fun _ => rfl) rfl (fun _ _ _ _ h => h) (fun hG => ⟨hG, trivial⟩) fun D ρ w hG hs => L_lenR (n := p.ticks.length) UD_55 (Rd.own' hr2p hs) (by simp) rfl ⟨rfl, hs⟩
  · exact obg [14] [] ((!decide (p.known = q.known)) || (!decide (((p.ents.length : Nat) : Int) = ((q.ents.length : Nat) : Int)))) rfl (fun _ => rfl) rfl (fun _ _ _ _ h => h) fun D ρ w hG hs => L_fieldAddr FA_57_2 rfl ⟨rfl, hs⟩
  · exact obgy [14, 18] [] [18] ((!decide (p.known = q.known)) || (!decide (((p.ents.length : Nat) : Int) = ((q.ents.length : Nat) : Int)))) rfl (fun _ => rfl) rfl (fun _ _ _ _ h => h) (fun hG => ⟨hG, trivial⟩) fun D ρ w hG hs => L_ld (V := .slice a2q q.ticks.length c2q) S1_55 hs 1 rfl rfl rfl ⟨rfl, hs⟩
  · exact obgy [14, 19] [] [19] ((!decide (p.known = q.known)) || (!decide (((p.ents.length : Nat) : Int) = ((q.ents.length : Nat) : Int)))) rfl (fun _ => rfl) rfl (fun _ _ _ _ h => h) (fun hG => ⟨hG, trivial⟩) fun D ρ w hG hs => L_lenR (n := q.ticks.length) UD_55 (Rd.own' hr2q hs) (by simp) rfl ⟨rfl, hs⟩
  · exact obgy [14, 17, 20] [] [17, 20] ((!decide (p.known = q.known)) || (!decide (((p.ents.length : Nat) : Int) = ((q.ents.length : Nat) : Int)))) rfl (fun _ => rfl) rfl (fun _ _ _ _ h => h) (fun hG => ⟨hG, hG, trivial⟩) fun D ρ w hG hs => L_neq rfl rfl ⟨rfl, hs⟩
  · exact ob [14, 21] [] rfl rfl fun D ρ w hs => L_orC (h' := !decide (((p.ticks.length : Nat) : Int) = ((q.ticks.length : Nat) : Int))) rfl rfl rfl ⟨rfl, hs⟩
  rintro ρ1 w5 ρ2 hρ hs
  replace hρ : ρ2 = upd (mix [7, 8, 9, 10, 11, 12, 13, 14, 15, 16, 17, 18, 19, 20, 21, 22, 23, 24, 25, 26, 27, 28, 29] ρ1 _) 29 (.bool (((!decide (p.known = q.known)) || (!decide (((p.ents.length : Nat) : Int) = ((q.ents.length : Nat) : Int)))) || (!decide (((p.ticks.length : Nat) : Int) = ((q.ticks.length : Nat) : Int))))) := hρ
  subst hρ
  refine W_cond (t := ((!decide (p.known = q.known)) || (!decide (((p.ents.length : Nat) : Int) = ((q.ents.length : Nat) : Int)))) || (!decide (((p.ticks.length : Nat) : Int) = ((q.ticks.length : Nat) : Int)))) rfl (fun c6 => ?_) (fun c6 => ?_)
  ·
    refine W_seq ?_
    refine W_region ?_
    refine RW_op (L_assign (V := .bool false) rfl ?_)
    refine RW_nil ?_
    refine W_ret ?_
    refine ⟨_, res_one (V := .bool false) Try.results31 rfl, ?_⟩
    refine ⟨congrArg Ending.returned ?_, hs.take 0⟩
    refine congrArg Value.bool (Eq.symm ?_)
    rw [Bool.eq_false_iff]
    intro g
    simp only [Bool.and_eq_true, decide_eq_true_eq] at g
    obtain ⟨g1, g2, g3⟩ := g
    have hc := c6
    rw [g1, g2, g3] at hc
    simp at hc
  ·
    have c6r := or_r c6
    replace c6 := or_l c6
    have c6rr := or_r c6
    replace c6 := or_l c6
    replace c6 := not_f c6
    replace c6 := of_decide_eq_true c6
    replace c6rr := not_f c6rr
    replace c6rr := of_decide_eq_true c6rr
    replace c6r := not_f c6r
    replace c6r := of_decide_eq_true c6r
    refine W_skip ?_
    refine W_seq ?_
    refine W_seq ?_
    refine W_region ?_
    refine RW_op (L_assign (V := .int .i64 0) rfl ?_)
    refine RW_nil ?_
    refine W_block ?_
    refine W_loopI (fun ρ μ ρ' w' => ∃ (ρo : Env) (ke1 : Nat), ρ' = upd (mix [4, 5, 30, 31, 32, 33, 34, 35, 36, 37, 38, 39, 40, 41, 42, 43, 44, 45, 46, 47] ρo ρ) 5 (.int .i64 ((ke1 : Nat) : Int)) ∧ (ke1 ≤ p.ents.length) ∧ (∀ j : Nat, j < ke1 → gd p.ents j = gd q.ents j) ∧ μ = p.ents.length - ke1 ∧ Own w no w' [blk b1 ((vc p.known) ++ [(.slice a1p p.ents.length c1p : Value), (.slice a2p p.ticks.length c2p : Value) ]) 57, blk b3 ((vc q.known) ++ [(.slice a1q q.ents.length c1q : Value), (.slice a2q q.ticks.length c2q : Value) ]) 57]) ?_ ?_
    · exact ⟨_, _, 0, upd_of (mix_of (ds := [4, 5, 30, 31, 32, 33, 34, 35, 36, 37, 38, 39, 40, 41, 42, 43, 44, 45, 46, 47]) (Agr.refl _ _)) rfl, (by omega), (fun j hj => absurd hj (Nat.not_lt_zero j)), rfl, hs⟩
    · rintro μ ρ' w7 ⟨ρo, ke1, rfl, hke1, e1, rfl, hs⟩
      refine W_seq ?_
      refine W_seq ?_
      refine W_region ?_
      refine RW_op (L_move (V := .int .i64 ((ke1 : Nat) : Int)) rfl ?_)
      refine RW_op (L_fieldAddr FA_57_1 rfl ?_)
      refine RW_op (L_ld (V := .slice a1p p.ents.length c1p) S1_54 hs 0 rfl rfl rfl ?_)
      refine RW_op (L_lenR (n := p.ents.length) UD_54 (Rd.own' hr1p hs) (by simp) rfl ?_)
      refine RW_op (L_lss rfl rfl ?_)
      refine RW_nil ?_
      refine W_cond (t := decide (((ke1 : Nat) : Int) < ((p.ents.length : Nat) : Int))) rfl (fun c8 => ?_) (fun c8 => ?_)
      ·
        replace c8 := of_decide_eq_true c8
        refine W_skip ?_
        refine W_seq ?_
        refine W_block ?_
        refine W_seq ?_
        refine W_regD HM [some 37, some 38, some 39, some 40, some 41, some 42, some 43, some 44, some 45, some 46, some 47] [] [0, 1, 0, 7, 15, 0, 32, 0, 224, 480, 1023] [pv (.pointer (some ⟨b1, 0 + 16, none⟩)), pv (.slice a1p p.ents.length c1p), pv (.int .i64 ((ke1 : Nat) : Int)), pv (.pointer (some ⟨bkS (.slice a1p p.ents.length c1p), ofS (.slice a1p p.ents.length c1p) + ((ke1 : Nat) : Int).toNat * 7, none⟩)), pv (.agg (cec (gd p.ents ke1)).toArray), pv (.pointer (some ⟨b3, 0 + 16, none⟩)), pv (.slice a1q q.ents.length c1q), pv (.int .i64 ((ke1 : Nat) : Int)), pv (.pointer (some ⟨bkS (.slice a1q q.ents.length c1q), ofS (.slice a1q q.ents.length c1q) + ((ke1 : Nat) : Int).toNat * 7, none⟩)), pv (.agg (cec (gd q.ents ke1)).toArray), pv (.bool (!decide (gd p.ents ke1 = gd q.ents ke1)))] (fun _ _ => _) [10] (by kernel_rfl) hs ⟨?_, ?_, ?_, ?_, ?_, ?_, ?_, ?_, ?_, ?_, ?_, trivial⟩ ?_
        · exact ob [] [] rfl rfl fun D ρ w hs => L_fieldAddr FA_57_1 rfl ⟨rfl, hs⟩
        · exact ob [0] [] rfl rfl fun D ρ w hs => L_ld (V := .slice a1p p.ents.length c1p) S1_54 hs 0 rfl rfl rfl ⟨rfl, hs⟩
        · exact ob [] [] rfl rfl fun D ρ w hs => L_move (V := .int .i64 ((ke1 : Nat) : Int)) rfl ⟨rfl, hs⟩
        · exact ob [1, 2] [] rfl rfl fun D ρ w hs => L_ixR UD_54 SA_134.1 (Rd.own' hr1p hs) rfl rfl (by omega) (by rw [List.length_map]; omega) ⟨rfl, hs⟩
        · exact ob [3] [] rfl rfl fun D ρ w hs => L_ldRA (j := 0) (vs := cec (gd p.ents ke1)) ke1 SA_134 (Rd.own' hr1p hs) (gd_at (by omega)) rfl rfl rfl (by omega) ⟨rfl, hs⟩
        · exact ob [] [] rfl rfl fun D ρ w hs => L_fieldAddr FA_57_1 rfl ⟨rfl, hs⟩
        · exact ob [5] [] rfl rfl fun D ρ w hs => L_ld (V := .slice a1q q.ents.length c1q) S1_54 hs 1 rfl rfl rfl ⟨rfl, hs⟩
        · exact ob [] [] rfl rfl fun D ρ w hs => L_move (V := .int .i64 ((ke1 : Nat) : Int)) rfl ⟨rfl, hs⟩
        · exact ob [6, 7] [] rfl rfl fun D ρ w hs => L_ixR UD_54 SA_134.1 (Rd.own' hr1q hs) rfl rfl (by omega) (by rw [List.length_map]; omega) ⟨rfl, hs⟩
        · exact ob [8] [] rfl rfl fun D ρ w hs => L_ldRA (j := 0) (vs := cec (gd q.ents ke1)) ke1 SA_134 (Rd.own' hr1q hs) (gd_at (by omega)) rfl rfl rfl (by omega) ⟨rfl, hs⟩
        · exact ob [4, 9] [] rfl rfl fun D ρ w hs => L_neA (xs := cec (gd p.ents ke1)) (ys := cec (gd q.ents ke1)) Try.eqGuardType134 (EQ_134 (gd p.ents ke1) (gd q.ents ke1)) rfl rfl rfl ⟨rfl, hs⟩
        rintro ρ1 w9 ρ2 hρ hs
        replace hρ : ρ2 = upd (mix [37, 38, 39, 40, 41, 42, 43, 44, 45, 46, 47] ρ1 _) 47 (.bool (!decide (gd p.ents ke1 = gd q.ents ke1))) := hρ
        subst hρ
        refine W_cond (t := !decide (gd p.ents ke1 = gd q.ents ke1)) rfl (fun c10 => ?_) (fun c10 => ?_)
        ·
          replace c10 := not_t c10
          replace c10 := of_decide_eq_false c10
          refine W_seq ?_
          refine W_region ?_
          refine RW_op (L_assign (V := .bool false) rfl ?_)
          refine RW_nil ?_
          refine W_ret ?_
          refine ⟨_, res_one (V := .bool false) Try.results31 rfl, ?_⟩
          refine ⟨congrArg Ending.returned ?_, hs.take 0⟩
          refine congrArg Value.bool (Eq.symm ?_)
          rw [Bool.eq_false_iff]
          intro g
          simp only [Bool.and_eq_true, decide_eq_true_eq] at g
          obtain ⟨g1, g2, g3⟩ := g
          exact c10 (by rw [g2])
        ·
          replace c10 := not_f c10
          replace c10 := of_decide_eq_true c10
          refine W_skip ?_
          refine W_region ?_
          refine RW_op (L_move (V := .int .i64 ((ke1 : Nat) : Int)) rfl ?_)
          refine RW_op (L_add (a := ((ke1 : Nat) : Int)) (b := 1) (c := ((ke1 + 1 : Nat) : Int)) rfl rfl (nat_i64 (by omega) (by omega)) ?_)
          refine RW_op (L_assign (V := .int .i64 ((ke1 + 1 : Nat) : Int)) rfl ?_)
          refine RW_nil ?_
          refine ⟨_, ?_, _, ke1 + 1, upd_of (mix_of (ds := [4, 5, 30, 31, 32, 33, 34, 35, 36, 37, 38, 39, 40, 41, 42, 43, 44, 45, 46, 47]) (by repeat (first | exact Agr.refl _ _ | refine Agr.upd ?_ rfl | refine Agr.mix ?_ rfl))) rfl, (by omega), (eqG_step e1 c10), rfl, hs.take 2⟩
          omega
      ·
        replace c8 := of_decide_eq_false c8
        refine W_exit ?_
        refine W_seq ?_
        refine W_seq ?_
        refine W_region ?_
        refine RW_op (L_assign (V := .int .i64 0) rfl ?_)
        refine RW_nil ?_
        refine W_block ?_
        refine W_loopI (fun ρ μ ρ' w' => ∃ (ρo : Env) (ke2 : Nat), ρ' = upd (mix [4, 6, 48, 49, 50, 51, 52, 53, 54, 55, 56, 57, 58, 59, 60, 61, 62, 63, 64, 65] ρo ρ) 6 (.int .i64 ((ke2 : Nat) : Int)) ∧ (ke2 ≤ p.ticks.length) ∧ (∀ j : Nat, j < ke2 → gd p.ticks j = gd q.ticks j) ∧ μ = p.ticks.length - ke2 ∧ Own w no w' [blk b1 ((vc p.known) ++ [(.slice a1p p.ents.length c1p : Value), (.slice a2p p.ticks.length c2p : Value) ]) 57, blk b3 ((vc q.known) ++ [(.slice a1q q.ents.length c1q : Value), (.slice a2q q.ticks.length c2q : Value) ]) 57]) ?_ ?_
        · exact ⟨_, _, 0, upd_of (mix_of (ds := [4, 6, 48, 49, 50, 51, 52, 53, 54, 55, 56, 57, 58, 59, 60, 61, 62, 63, 64, 65]) (Agr.refl _ _)) rfl, (by omega), (fun j hj => absurd hj (Nat.not_lt_zero j)), rfl, hs⟩
        · rintro μ ρ' w11 ⟨ρo, ke2, rfl, hke2, e2, rfl, hs⟩
          refine W_seq ?_
          refine W_seq ?_
          refine W_region ?_
          refine RW_op (L_move (V := .int .i64 ((ke2 : Nat) : Int)) rfl ?_)
          refine RW_op (L_fieldAddr FA_57_2 rfl ?_)
          refine RW_op (L_ld (V := .slice a2p p.ticks.length c2p) S1_55 hs 0 rfl rfl rfl ?_)
          refine RW_op (L_lenR (n := p.ticks.length) UD_55 (Rd.own' hr2p hs) (by simp) rfl ?_)
          refine RW_op (L_lss rfl rfl ?_)
          refine RW_nil ?_
          refine W_cond (t := decide (((ke2 : Nat) : Int) < ((p.ticks.length : Nat) : Int))) rfl (fun c12 => ?_) (fun c12 => ?_)
          ·
            replace c12 := of_decide_eq_true c12
            refine W_skip ?_
            refine W_seq ?_
            refine W_block ?_
            refine W_seq ?_
            refine W_regD HM [some 55, some 56, some 57, some 58, some 59, some 60, some 61, some 62, some 63, some 64, some 65] [] [0, 1, 0, 7, 15, 0, 32, 0, 224, 480, 1023] [pv (.pointer (some ⟨b1, 0 + 17, none⟩)), pv (.slice a2p p.ticks.length c2p), pv (.int .i64 ((ke2 : Nat) : Int)), pv (.pointer (some ⟨bkS (.slice a2p p.ticks.length c2p), ofS (.slice a2p p.ticks.length c2p) + ((ke2 : Nat) : Int).toNat * 2, none⟩)), pv (.agg (lsc (gd p.ticks ke2)).toArray), pv (.pointer (some ⟨b3, 0 + 17, none⟩)), pv (.slice a2q q.ticks.length c2q), pv (.int .i64 ((ke2 : Nat) : Int)), pv (.pointer (some ⟨bkS (.slice a2q q.ticks.length c2q), ofS (.slice a2q q.ticks.length c2q) + ((ke2 : Nat) : Int).toNat * 2, none⟩)), pv (.agg (lsc (gd q.ticks ke2)).toArray), pv (.bool (!decide (gd p.ticks ke2 = gd q.ticks ke2)))] (fun _ _ => _) [10] (by kernel_rfl) hs ⟨?_, ?_, ?_, ?_, ?_, ?_, ?_, ?_, ?_, ?_, ?_, trivial⟩ ?_
            · exact ob [] [] rfl rfl fun D ρ w hs => L_fieldAddr FA_57_2 rfl ⟨rfl, hs⟩
            · exact ob [0] [] rfl rfl fun D ρ w hs => L_ld (V := .slice a2p p.ticks.length c2p) S1_55 hs 0 rfl rfl rfl ⟨rfl, hs⟩
            · exact ob [] [] rfl rfl fun D ρ w hs => L_move (V := .int .i64 ((ke2 : Nat) : Int)) rfl ⟨rfl, hs⟩
            · exact ob [1, 2] [] rfl rfl fun D ρ w hs => L_ixR UD_55 SA_135.1 (Rd.own' hr2p hs) rfl rfl (by omega) (by rw [List.length_map]; omega) ⟨rfl, hs⟩
            · exact ob [3] [] rfl rfl fun D ρ w hs => L_ldRA (j := 0) (vs := lsc (gd p.ticks ke2)) ke2 SA_135 (Rd.own' hr2p hs) (gd_at (by omega)) rfl rfl rfl (by omega) ⟨rfl, hs⟩
            · exact ob [] [] rfl rfl fun D ρ w hs => L_fieldAddr FA_57_2 rfl ⟨rfl, hs⟩
            · exact ob [5] [] rfl rfl fun D ρ w hs => L_ld (V := .slice a2q q.ticks.length c2q) S1_55 hs 1 rfl rfl rfl ⟨rfl, hs⟩
            · exact ob [] [] rfl rfl fun D ρ w hs => L_move (V := .int .i64 ((ke2 : Nat) : Int)) rfl ⟨rfl, hs⟩
            · exact ob [6, 7] [] rfl rfl fun D ρ w hs => L_ixR UD_55 SA_135.1 (Rd.own' hr2q hs) rfl rfl (by omega) (by rw [List.length_map]; omega) ⟨rfl, hs⟩
            · exact ob [8] [] rfl rfl fun D ρ w hs => L_ldRA (j := 0) (vs := lsc (gd q.ticks ke2)) ke2 SA_135 (Rd.own' hr2q hs) (gd_at (by omega)) rfl rfl rfl (by omega) ⟨rfl, hs⟩
            · exact ob [4, 9] [] rfl rfl fun D ρ w hs => L_neA (xs := lsc (gd p.ticks ke2)) (ys := lsc (gd q.ticks ke2)) Try.eqGuardType135 (EQ_135 (gd p.ticks ke2) (gd q.ticks ke2)) rfl rfl rfl ⟨rfl, hs⟩
            rintro ρ1 w13 ρ2 hρ hs
            replace hρ : ρ2 = upd (mix [55, 56, 57, 58, 59, 60, 61, 62, 63, 64, 65] ρ1 _) 65 (.bool (!decide (gd p.ticks ke2 = gd q.ticks ke2))) := hρ
            subst hρ
            refine W_cond (t := !decide (gd p.ticks ke2 = gd q.ticks ke2)) rfl (fun c14 => ?_) (fun c14 => ?_)
            ·
              replace c14 := not_t c14
              replace c14 := of_decide_eq_false c14
              refine W_seq ?_
              refine W_region ?_
              refine RW_op (L_assign (V := .bool false) rfl ?_)
              refine RW_nil ?_
              refine W_ret ?_
              refine ⟨_, res_one (V := .bool false) Try.results31 rfl, ?_⟩
              refine ⟨congrArg Ending.returned ?_, hs.take 0⟩
              refine congrArg Value.bool (Eq.symm ?_)
              rw [Bool.eq_false_iff]
              intro g
              simp only [Bool.and_eq_true, decide_eq_true_eq] at g
              obtain ⟨g1, g2, g3⟩ := g
              exact c14 (by rw [g3])
            ·
              replace c14 := not_f c14
              replace c14 := of_decide_eq_true c14
              refine W_skip ?_
              refine W_region ?_
              refine RW_op (L_move (V := .int .i64 ((ke2 : Nat) : Int)) rfl ?_)
              refine RW_op (L_add (a := ((ke2 : Nat) : Int)) (b := 1) (c := ((ke2 + 1 : Nat) : Int)) rfl rfl (nat_i64 (by omega) (by omega)) ?_)
              refine RW_op (L_assign (V := .int .i64 ((ke2 + 1 : Nat) : Int)) rfl ?_)
              refine RW_nil ?_
              refine ⟨_, ?_, _, ke2 + 1, upd_of (mix_of (ds := [4, 6, 48, 49, 50, 51, 52, 53, 54, 55, 56, 57, 58, 59, 60, 61, 62, 63, 64, 65]) (by repeat (first | exact Agr.refl _ _ | refine Agr.upd ?_ rfl | refine Agr.mix ?_ rfl))) rfl, (by omega), (eqG_step e2 c14), rfl, hs.take 2⟩
              omega
          ·
            replace c12 := of_decide_eq_false c12
            refine W_exit ?_
            refine W_seq ?_
            refine W_region ?_
            refine RW_op (L_assign (V := .bool true) rfl ?_)
            refine RW_nil ?_
            refine W_ret ?_
            refine ⟨_, res_one (V := .bool true) Try.results31 rfl, ?_⟩
            refine ⟨congrArg Ending.returned ?_, hs.take 0⟩
            refine congrArg Value.bool ?_
            rw [decide_eq_true c6, decide_eq_true (sameG_yes (l := p.ents) (m := q.ents) (by omega) fun j hj => e1 j (by omega)), decide_eq_true (sameG_yes (l := p.ticks) (m := q.ticks) (by omega) fun j hj => e2 j (by omega))]; rfl
end Tt
end Go.Proofs
namespace Go.Proofs
open Go Go.Vx Go.RowKit
namespace Tt
set_option maxRecDepth 20000 in
set_option maxHeartbeats 4000000 in
theorem cartAny_ok (w : World) (an : Option Addr) (cn : Nat) (l : List Opn) (hl : ∀ o ∈ l, OpnOk o) (hr : Rd w (.slice an l.length cn) 23 (l.map oc)) (hsortE : SortC Try.prog 63 64 cec 128 7 srtE) (v0 v1 v2 : Vec) (hv0 : VecOk v0) (hv1 : VecOk v1) (hv2 : VecOk v2) : Calls Try.prog 9 #[.slice an l.length cn, .agg ((vc v0) ++ (vc v1) ++ (vc v2)).toArray] w (fun e w' => e = .returned (.bool true) ∧ Own w no w' []) := by
  refine calls_of_Wn (n := 136) Try.func9 rfl Try.ntmps9 rfl ?_
  have hs := Own.start w
  have hn := hr.sml
  refine W_seq ?_
  refine W_region ?_
  refine RW_op (L_box (V := .agg ((vc v0) ++ (vc v1) ++ (vc v2)).toArray) (cs := (vc v0) ++ (vc v1) ++ (vc v2)) rfl rfl hs fun b1 w2 hs => ?_)
  refine RW_op (L_assign (V := .bool false) rfl ?_)
  refine RW_nil ?_
  refine W_seq ?_
  refine W_seq ?_
  refine W_region ?_
  refine RW_op (L_callP (vs := []) (V := .bool true) EN_26 rfl rfl ?hc hs fun w3 hs => ?_)
  case hc => exact (alive8_ok _ hsortE)
  refine RW_op (L_not rfl ?_)
  refine RW_nil ?_
  refine W_condF rfl ?_
  refine W_skip ?_
  refine W_seq ?_
  refine W_seq ?_
  refine W_region ?_
  refine RW_op (L_move (V := .slice an l.length cn) rfl ?_)
  refine RW_op (L_callP (vs := [.slice an l.length cn]) (V := .bool (histB l)) EN_39 rfl rfl ?hc hs fun w4 hs => ?_)
  case hc => exact (hist_ok _ an cn l hl (Rd.own' hr hs))
  refine RW_op (L_not rfl ?_)
  refine RW_nil ?_
  refine W_cond (t := !(histB l)) rfl (fun c5 => ?_) (fun c5 => ?_)
  ·
    replace c5 := not_t c5
    refine W_seq ?_
    refine W_region ?_
    refine RW_op (L_assign (V := .bool true) rfl ?_)
    refine RW_nil ?_
    refine W_ret ?_
    refine ⟨_, res_one (V := .bool true) Try.results9 rfl, ?_⟩
    refine ⟨congrArg Ending.returned ?_, hs.take 0⟩
    rfl
  ·
    replace c5 := not_f c5
    refine W_skip ?_
    refine W_seq ?_
    obtain ⟨hlen, hcl, hq⟩ := hist_seq hl c5
    have hln := allE_len l
    have hu0 := under_len l v0
    have hlu0 : ∀ o ∈ underP l v0, OpnOk o := fun o ho => hl o (under_sub ho)
    have hu1 := under_len l v1
    have hlu1 : ∀ o ∈ underP l v1, OpnOk o := fun o ho => hl o (under_sub ho)
    have hu2 := under_len l v2
    have hlu2 : ∀ o ∈ underP l v2, OpnOk o := fun o ho => hl o (under_sub ho)
    refine W_region ?_
    refine RW_op (L_alloc (cs := ((vc vzero) ++ [(.slice none 0 0 : Value), (.slice none 0 0 : Value) ]) ++ ((vc vzero) ++ [(.slice none 0 0 : Value), (.slice none 0 0 : Value) ]) ++ ((vc vzero) ++ [(.slice none 0 0 : Value), (.slice none 0 0 : Value) ])) ZV_90 rfl hs fun b6 w7 hs => ?_)
    refine RW_nil ?_
    refine W_seq ?_
    refine W_seq ?_
    refine W_region ?_
    refine RW_op (L_move (V := .int .i64 0) rfl ?_)
    refine RW_nil ?_
    refine W_block ?_
    replace hs := hs.more (row (.slice none 0 0) (List.map cec []) 128 7) (row_nil _ _ _ _)
    replace hs := hs.more (row (.slice none 0 0) (List.map lsc []) 126 2) (row_nil _ _ _ _)
    replace hs := hs.more (row (.slice none 0 0) (List.map cec []) 128 7) (row_nil _ _ _ _)
    replace hs := hs.more (row (.slice none 0 0) (List.map lsc []) 126 2) (row_nil _ _ _ _)
    replace hs := hs.more (row (.slice none 0 0) (List.map cec []) 128 7) (row_nil _ _ _ _)
    replace hs := hs.more (row (.slice none 0 0) (List.map lsc []) 126 2) (row_nil _ _ _ _)
    refine W_loopI (fun ρ μ ρ' w' => ∃ (ρo : Env) (k : Nat) (s0 : Sta) (ae0 : Option Addr) (ce0 : Nat) (at0 : Option Addr) (ct0 : Nat) (s1 : Sta) (ae1 : Option Addr) (ce1 : Nat) (at1 : Option Addr) (ct1 : Nat) (s2 : Sta) (ae2 : Option Addr) (ce2 : Nat) (at2 : Option Addr) (ct2 : Nat), ρ' = upd (mix [4, 6, 7, 8, 26, 27, 28, 29, 30, 31, 32, 33, 34, 35, 36, 37, 38, 39, 40, 41, 42, 43, 44, 45, 46, 47] ρo ρ) 26 (.int .i64 ((k : Nat) : Int)) ∧ (k ≤ 3) ∧ (0 < k → (closedR (underP l v0) = true ∧ s0 = allE (underP l v0))) ∧ (1 < k → (closedR (underP l v1) = true ∧ s1 = allE (underP l v1))) ∧ (2 < k → (closedR (underP l v2) = true ∧ s2 = allE (underP l v2))) ∧ μ = 3 - k ∧ Own w no w' [blk b1 ((vc v0) ++ (vc v1) ++ (vc v2)) 89, blk b6 (((vc s0.known) ++ [(.slice ae0 s0.ents.length ce0 : Value), (.slice at0 s0.ticks.length ct0 : Value) ]) ++ ((vc s1.known) ++ [(.slice ae1 s1.ents.length ce1 : Value), (.slice at1 s1.ticks.length ct1 : Value) ]) ++ ((vc s2.known) ++ [(.slice ae2 s2.ents.length ce2 : Value), (.slice at2 s2.ticks.length ct2 : Value) ])) 90, row (.slice ae0 s0.ents.length ce0) (s0.ents.map cec) 128 7, row (.slice at0 s0.ticks.length ct0) (s0.ticks.map lsc) 126 2, row (.slice ae1 s1.ents.length ce1) (s1.ents.map cec) 128 7, row (.slice at1 s1.ticks.length ct1) (s1.ticks.map lsc) 126 2, row (.slice ae2 s2.ents.length ce2) (s2.ents.map cec) 128 7, row (.slice at2 s2.ticks.length ct2) (s2.ticks.map lsc) 126 2]) ?_ ?_
    · exact ⟨_, _, 0, szero, none, 0, none, 0, szero, none, 0, none, 0, szero, none, 0, none, 0, upd_of (mix_of (ds := [4, 6, 7, 8, 26, 27, 28, 29, 30, 31, 32, 33, 34, 35, 36, 37, 38, 39, 40, 41, 42, 43, 44, 45, 46, 47]) (Agr.refl _ _)) rfl, (by omega), (fun h => absurd h (by omega)), (fun h => absurd h (by omega)), (fun h => absurd h (by omega)), rfl, hs⟩
    · rintro μ ρ' w8 ⟨ρo, k, s0, ae0, ce0, at0, ct0, s1, ae1, ce1, at1, ct1, s2, ae2, ce2, at2, ct2, rfl, hk, hf0, hf1, hf2, rfl, hs⟩
      refine W_seq ?_
      refine W_region ?_
      refine RW_op (L_lss rfl rfl ?_)
      refine RW_nil ?_
      refine W_seq ?_
      refine W_cond (t := decide (((k : Nat) : Int) < 3)) rfl (fun c9 => ?_) (fun c9 => ?_)
      ·
        replace c9 := of_decide_eq_true c9
        refine W_skip ?_
        refine W_seq ?_
        refine W_block ?_
        refine W_seq ?_
        rcases (by omega : k = 0 ∨ k = 1 ∨ k = 2) with hk8 | hk8 | hk8
        ·
          subst hk8
          refine W_region ?_
          refine RW_op (L_move (V := .int .i64 0) rfl ?_)
          refine RW_op (L_assign (V := .int .i64 0) rfl ?_)
          refine RW_nil ?_
          refine W_seq ?_
          refine W_region ?_
          refine RW_op (L_move (V := .slice an l.length cn) rfl ?_)
          refine RW_op (L_move (V := .int .i64 0) rfl ?_)
          refine RW_op (L_ixArr UD_89 SA_53.1 rfl rfl (by decide) (by decide) ?_)
          refine RW_op (L_ldA (vs := vc v0) SA_53 hs 0 rfl rfl rfl (drop_m0 (k := 16) rfl) ?_)
          refine RW_op (L_callX (vs := [.slice an l.length cn, .agg (vc v0).toArray]) (V := fun x : Option Addr × Nat => .slice x.1 (underP l v0).length x.2) EN_40 rfl rfl (rUnder_ok _ v0 an cn l hl (by omega) (Rd.own' hr hs)) hs fun x10 w11 hs _ => ?_)
          refine RW_op (L_assign (V := .slice x10.1 ((underP l v0).length) x10.2) rfl ?_)
          refine RW_nil ?_
          refine W_seq ?_
          refine W_region ?_
          refine RW_op (L_move (V := .slice x10.1 ((underP l v0).length) x10.2) rfl ?_)
          refine RW_op (L_callP (vs := [.slice x10.1 ((underP l v0).length) x10.2]) (V := .bool (closedR (underP l v0))) EN_41 rfl rfl ?hc hs fun w12 hs => ?_)
          case hc => exact (rClosedO_ok _ x10.1 x10.2 (underP l v0) hlu0 (by omega) (hs.rd 8 rfl))
          refine RW_op (L_assign (V := .bool (closedR (underP l v0))) rfl ?_)
          refine RW_nil ?_
          refine W_seq ?_
          refine W_seq ?_
          refine W_region ?_
          refine RW_op (L_move (V := .bool (closedR (underP l v0))) rfl ?_)
          refine RW_op (L_not rfl ?_)
          refine RW_nil ?_
          refine W_cond (t := !(closedR (underP l v0))) rfl (fun c13 => ?_) (fun c13 => ?_)
          ·
            replace c13 := not_t c13
            refine W_seq ?_
            refine W_region ?_
            refine RW_op (L_assign (V := .bool true) rfl ?_)
            refine RW_nil ?_
            refine W_ret ?_
            refine ⟨_, res_one (V := .bool true) Try.results9 rfl, ?_⟩
            refine ⟨congrArg Ending.returned ?_, hs.take 0⟩
            rfl
          ·
            replace c13 := not_f c13
            refine W_skip ?_
            refine W_seq ?_
            have hcl2 := c13
            have hqq := hq.sub (down_under ((closedR_iff hlu0).1 hcl2))
            refine W_region ?_
            refine RW_op (L_move (V := .int .i64 0) rfl ?_)
            refine RW_op (L_move (V := .slice x10.1 ((underP l v0).length) x10.2) rfl ?_)
            refine RW_op (L_callX (α := (Option Addr × Nat) × (Option Addr × Nat)) (vs := [.slice x10.1 ((underP l v0).length) x10.2]) (V := fun x : (Option Addr × Nat) × (Option Addr × Nat) => .tuple #[.agg (vc (allE (underP l v0)).known ++ [(.slice x.1.1 ((allE (underP l v0)).ents).length x.1.2 : Value), (.slice x.2.1 ((allE (underP l v0)).ticks).length x.2.2 : Value)]).toArray, .bool true]) (Lo := fun x => [row (.slice x.1.1 ((allE (underP l v0)).ents).length x.1.2) (((allE (underP l v0)).ents).map cec) 128 7, row (.slice x.2.1 ((allE (underP l v0)).ticks).length x.2.2) (((allE (underP l v0)).ticks).map lsc) 126 2]) (F := fun _ _ => True) EN_42 rfl rfl ?hc hs fun x15 w14 hs _ => ?_)
            case hc => exact (all_ok8 _ x10.1 x10.2 (underP l v0) hlu0 (by omega) hqq (hs.rd 8 rfl))
            replace hs : Own w no w14 [blk b1 ((vc v0) ++ (vc v1) ++ (vc v2)) 89, blk b6 (((vc s0.known) ++ [(.slice ae0 s0.ents.length ce0 : Value), (.slice at0 s0.ticks.length ct0 : Value) ]) ++ ((vc s1.known) ++ [(.slice ae1 s1.ents.length ce1 : Value), (.slice at1 s1.ticks.length ct1 : Value) ]) ++ ((vc s2.known) ++ [(.slice ae2 s2.ents.length ce2 : Value), (.slice at2 s2.ticks.length ct2 : Value) ])) 90, row (.slice ae0 s0.ents.length ce0) (s0.ents.map cec) 128 7, row (.slice at0 s0.ticks.length ct0) (s0.ticks.map lsc) 126 2, row (.slice ae1 s1.ents.length ce1) (s1.ents.map cec) 128 7, row (.slice at1 s1.ticks.length ct1) (s1.ticks.map lsc) 126 2, row (.slice ae2 s2.ents.length ce2) (s2.ents.map cec) 128 7, row (.slice at2 s2.ticks.length ct2) (s2.ticks.map lsc) 126 2, row (.slice x10.1 ((underP l v0).length) x10.2) ((underP l v0).map oc) 98 23, row (.slice x15.1.1 (((allE (underP l v0)).ents).length) x15.1.2) (((allE (underP l v0)).ents).map cec) 128 7, row (.slice x15.2.1 (((allE (underP l v0)).ticks).length) x15.2.2) (((allE (underP l v0)).ticks).map lsc) 126 2] := hs
            refine RW_op (L_move (V := .tuple #[.agg ((vc ((allE (underP l v0)).known)) ++ [(.slice x15.1.1 (((allE (underP l v0)).ents).length) x15.1.2 : Value), (.slice x15.2.1 (((allE (underP l v0)).ticks).length) x15.2.2 : Value) ]).toArray, .bool true]) rfl ?_)
            refine RW_op (L_extract (V := .agg ((vc ((allE (underP l v0)).known)) ++ [(.slice x15.1.1 (((allE (underP l v0)).ents).length) x15.1.2 : Value), (.slice x15.2.1 (((allE (underP l v0)).ticks).length) x15.2.2 : Value) ]).toArray) rfl rfl ?_)
            refine RW_op (L_extract (V := .bool true) rfl rfl ?_)
            refine RW_op (L_ixArr UD_90 SA_62.1 rfl rfl (by decide) (by decide) ?_)
            refine RW_op (L_st (V := .agg ((vc ((allE (underP l v0)).known)) ++ [(.slice x15.1.1 (((allE (underP l v0)).ents).length) x15.1.2 : Value), (.slice x15.2.1 (((allE (underP l v0)).ticks).length) x15.2.2 : Value) ]).toArray) (vs := (vc ((allE (underP l v0)).known)) ++ [(.slice x15.1.1 (((allE (underP l v0)).ents).length) x15.1.2 : Value), (.slice x15.2.1 (((allE (underP l v0)).ticks).length) x15.2.2 : Value) ]) (cs' := ((vc ((allE (underP l v0)).known)) ++ [(.slice x15.1.1 (((allE (underP l v0)).ents).length) x15.1.2 : Value), (.slice x15.2.1 (((allE (underP l v0)).ticks).length) x15.2.2 : Value) ]) ++ ((vc s1.known) ++ [(.slice ae1 s1.ents.length ce1 : Value), (.slice at1 s1.ticks.length ct1 : Value) ]) ++ ((vc s2.known) ++ [(.slice ae2 s2.ents.length ce2 : Value), (.slice at2 s2.ticks.length ct2 : Value) ])) SA_62.1 hs 1 rfl rfl rfl rfl rfl (Nat.le_of_ble_eq_true rfl) (one_app (vc_one _) (one_cons rfl (one_cons rfl one_nil))) (spl_m0 (k := 18) rfl rfl) fun w16 hs => ?_)
            refine RW_op (L_assign (V := .bool true) rfl ?_)
            refine RW_nil ?_
            refine W_seq ?_
            refine W_region ?_
            refine RW_op (L_move (V := .bool true) rfl ?_)
            refine RW_op (L_not rfl ?_)
            refine RW_nil ?_
            refine W_condF rfl ?_
            refine W_skip ?_
            refine W_region ?_
            refine RW_op (L_add (a := 0) (b := 1) (c := 1) rfl rfl rfl ?_)
            refine RW_op (L_move (V := .int .i64 1) rfl ?_)
            refine RW_nil ?_
            have ho := hs.sel [0, 1, 9, 10, 4, 5, 6, 7] (L' := [blk b1 ((vc v0) ++ (vc v1) ++ (vc v2)) 89, blk b6 (((vc ((allE (underP l v0)).known)) ++ [(.slice x15.1.1 (((allE (underP l v0)).ents).length) x15.1.2 : Value), (.slice x15.2.1 (((allE (underP l v0)).ticks).length) x15.2.2 : Value) ]) ++ ((vc s1.known) ++ [(.slice ae1 s1.ents.length ce1 : Value), (.slice at1 s1.ticks.length ct1 : Value) ]) ++ ((vc s2.known) ++ [(.slice ae2 s2.ents.length ce2 : Value), (.slice at2 s2.ticks.length ct2 : Value) ])) 90, row (.slice x15.1.1 (((allE (underP l v0)).ents).length) x15.1.2) (((allE (underP l v0)).ents).map cec) 128 7, row (.slice x15.2.1 (((allE (underP l v0)).ticks).length) x15.2.2) (((allE (underP l v0)).ticks).map lsc) 126 2, row (.slice ae1 s1.ents.length ce1) (s1.ents.map cec) 128 7, row (.slice at1 s1.ticks.length ct1) (s1.ticks.map lsc) 126 2, row (.slice ae2 s2.ents.length ce2) (s2.ents.map cec) 128 7, row (.slice at2 s2.ticks.length ct2) (s2.ticks.map lsc) 126 2]) (by decide) rfl
            replace hs := ho
            refine ⟨_, ?_, _, 1, (allE (underP l v0)), x15.1.1, x15.1.2, x15.2.1, x15.2.2, s1, ae1, ce1, at1, ct1, s2, ae2, ce2, at2, ct2, upd_of (mix_of (ds := [4, 6, 7, 8, 26, 27, 28, 29, 30, 31, 32, 33, 34, 35, 36, 37, 38, 39, 40, 41, 42, 43, 44, 45, 46, 47]) (by repeat (first | exact Agr.refl _ _ | refine Agr.upd ?_ rfl | refine Agr.mix ?_ rfl))) rfl, (by omega), (fun _ => ⟨hcl2, rfl⟩), (fun h => absurd h (by omega)), (fun h => absurd h (by omega)), rfl, hs.take 8⟩
            omega
        ·
          subst hk8
          refine W_region ?_
          refine RW_op (L_move (V := .int .i64 1) rfl ?_)
          refine RW_op (L_assign (V := .int .i64 1) rfl ?_)
          refine RW_nil ?_
          refine W_seq ?_
          refine W_region ?_
          refine RW_op (L_move (V := .slice an l.length cn) rfl ?_)
          refine RW_op (L_move (V := .int .i64 1) rfl ?_)
          refine RW_op (L_ixArr UD_89 SA_53.1 rfl rfl (by decide) (by decide) ?_)
          refine RW_op (L_ldA (vs := vc v1) SA_53 hs 0 rfl rfl rfl (drop_m1 (k := 16) rfl rfl) ?_)
          refine RW_op (L_callX (vs := [.slice an l.length cn, .agg (vc v1).toArray]) (V := fun x : Option Addr × Nat => .slice x.1 (underP l v1).length x.2) EN_40 rfl rfl (rUnder_ok _ v1 an cn l hl (by omega) (Rd.own' hr hs)) hs fun x17 w18 hs _ => ?_)
          refine RW_op (L_assign (V := .slice x17.1 ((underP l v1).length) x17.2) rfl ?_)
          refine RW_nil ?_
          refine W_seq ?_
          refine W_region ?_
          refine RW_op (L_move (V := .slice x17.1 ((underP l v1).length) x17.2) rfl ?_)
          refine RW_op (L_callP (vs := [.slice x17.1 ((underP l v1).length) x17.2]) (V := .bool (closedR (underP l v1))) EN_41 rfl rfl ?hc hs fun w19 hs => ?_)
          case hc => exact (rClosedO_ok _ x17.1 x17.2 (underP l v1) hlu1 (by omega) (hs.rd 8 rfl))
          refine RW_op (L_assign (V := .bool (closedR (underP l v1))) rfl ?_)
          refine RW_nil ?_
          refine W_seq ?_
          refine W_seq ?_
          refine W_region ?_
          refine RW_op (L_move (V := .bool (closedR (underP l v1))) rfl ?_)
          refine RW_op (L_not rfl ?_)
          refine RW_nil ?_
          refine W_cond (t := !(closedR (underP l v1))) rfl (fun c20 => ?_) (fun c20 => ?_)
          ·
            replace c20 := not_t c20
            refine W_seq ?_
            refine W_region ?_
            refine RW_op (L_assign (V := .bool true) rfl ?_)
            refine RW_nil ?_
            refine W_ret ?_
            refine ⟨_, res_one (V := .bool true) Try.results9 rfl, ?_⟩
            refine ⟨congrArg Ending.returned ?_, hs.take 0⟩
            rfl
          ·
            replace c20 := not_f c20
            refine W_skip ?_
            refine W_seq ?_
            have hcl2 := c20
            have hqq := hq.sub (down_under ((closedR_iff hlu1).1 hcl2))
            refine W_region ?_
            refine RW_op (L_move (V := .int .i64 1) rfl ?_)
            refine RW_op (L_move (V := .slice x17.1 ((underP l v1).length) x17.2) rfl ?_)
            refine RW_op (L_callX (α := (Option Addr × Nat) × (Option Addr × Nat)) (vs := [.slice x17.1 ((underP l v1).length) x17.2]) (V := fun x : (Option Addr × Nat) × (Option Addr × Nat) => .tuple #[.agg (vc (allE (underP l v1)).known ++ [(.slice x.1.1 ((allE (underP l v1)).ents).length x.1.2 : Value), (.slice x.2.1 ((allE (underP l v1)).ticks).length x.2.2 : Value)]).toArray, .bool true]) (Lo := fun x => [row (.slice x.1.1 ((allE (underP l v1)).ents).length x.1.2) (((allE (underP l v1)).ents).map cec) 128 7, row (.slice x.2.1 ((allE (underP l v1)).ticks).length x.2.2) (((allE (underP l v1)).ticks).map lsc) 126 2]) (F := fun _ _ => True) EN_42 rfl rfl ?hc hs fun x22 w21 hs _ => ?_)
            case hc => exact (all_ok8 _ x17.1 x17.2 (underP l v1) hlu1 (by omega) hqq (hs.rd 8 rfl))
            replace hs : Own w no w21 [blk b1 ((vc v0) ++ (vc v1) ++ (vc v2)) 89, blk b6 (((vc s0.known) ++ [(.slice ae0 s0.ents.length ce0 : Value), (.slice at0 s0.ticks.length ct0 : Value) ]) ++ ((vc s1.known) ++ [(.slice ae1 s1.ents.length ce1 : Value), (.slice at1 s1.ticks.length ct1 : Value) ]) ++ ((vc s2.known) ++ [(.slice ae2 s2.ents.length ce2 : Value), (.slice at2 s2.ticks.length ct2 : Value) ])) 90, row (.slice ae0 s0.ents.length ce0) (s0.ents.map cec) 128 7, row (.slice at0 s0.ticks.length ct0) (s0.ticks.map lsc) 126 2, row (.slice ae1 s1.ents.length ce1) (s1.ents.map cec) 128 7, row (.slice at1 s1.ticks.length ct1) (s1.ticks.map lsc) 126 2, row (.slice ae2 s2.ents.length ce2) (s2.ents.map cec) 128 7, row (.slice at2 s2.ticks.length ct2) (s2.ticks.map lsc) 126 2, row (.slice x17.1 ((underP l v1).length) x17.2) ((underP l v1).map oc) 98 23, row (.slice x22.1.1 (((allE (underP l v1)).ents).length) x22.1.2) (((allE (underP l v1)).ents).map cec) 128 7, row (.slice x22.2.1 (((allE (underP l v1)).ticks).length) x22.2.2) (((allE (underP l v1)).ticks).map lsc) 126 2] := hs
            refine RW_op (L_move (V := .tuple #[.agg ((vc ((allE (underP l v1)).known)) ++ [(.slice x22.1.1 (((allE (underP l v1)).ents).length) x22.1.2 : Value), (.slice x22.2.1 (((allE (underP l v1)).ticks).length) x22.2.2 : Value) ]).toArray, .bool true]) rfl ?_)
            refine RW_op (L_extract (V := .agg ((vc ((allE (underP l v1)).known)) ++ [(.slice x22.1.1 (((allE (underP l v1)).ents).length) x22.1.2 : Value), (.slice x22.2.1 (((allE (underP l v1)).ticks).length) x22.2.2 : Value) ]).toArray) rfl rfl ?_)
            refine RW_op (L_extract (V := .bool true) rfl rfl ?_)
            refine RW_op (L_ixArr UD_90 SA_62.1 rfl rfl (by decide) (by decide) ?_)
            refine RW_op (L_st (V := .agg ((vc ((allE (underP l v1)).known)) ++ [(.slice x22.1.1 (((allE (underP l v1)).ents).length) x22.1.2 : Value), (.slice x22.2.1 (((allE (underP l v1)).ticks).length) x22.2.2 : Value) ]).toArray) (vs := (vc ((allE (underP l v1)).known)) ++ [(.slice x22.1.1 (((allE (underP l v1)).ents).length) x22.1.2 : Value), (.slice x22.2.1 (((allE (underP l v1)).ticks).length) x22.2.2 : Value) ]) (cs' := ((vc s0.known) ++ [(.slice ae0 s0.ents.length ce0 : Value), (.slice at0 s0.ticks.length ct0 : Value) ]) ++ ((vc ((allE (underP l v1)).known)) ++ [(.slice x22.1.1 (((allE (underP l v1)).ents).length) x22.1.2 : Value), (.slice x22.2.1 (((allE (underP l v1)).ticks).length) x22.2.2 : Value) ]) ++ ((vc s2.known) ++ [(.slice ae2 s2.ents.length ce2 : Value), (.slice at2 s2.ticks.length ct2 : Value) ])) SA_62.1 hs 1 rfl rfl rfl rfl rfl (Nat.le_of_ble_eq_true rfl) (one_app (vc_one _) (one_cons rfl (one_cons rfl one_nil))) (spl_m1 (k := 18) rfl rfl rfl) fun w23 hs => ?_)
            refine RW_op (L_assign (V := .bool true) rfl ?_)
            refine RW_nil ?_
            refine W_seq ?_
            refine W_region ?_
            refine RW_op (L_move (V := .bool true) rfl ?_)
            refine RW_op (L_not rfl ?_)
            refine RW_nil ?_
            refine W_condF rfl ?_
            refine W_skip ?_
            refine W_region ?_
            refine RW_op (L_add (a := 1) (b := 1) (c := 2) rfl rfl rfl ?_)
            refine RW_op (L_move (V := .int .i64 2) rfl ?_)
            refine RW_nil ?_
            have ho := hs.sel [0, 1, 2, 3, 9, 10, 6, 7] (L' := [blk b1 ((vc v0) ++ (vc v1) ++ (vc v2)) 89, blk b6 (((vc s0.known) ++ [(.slice ae0 s0.ents.length ce0 : Value), (.slice at0 s0.ticks.length ct0 : Value) ]) ++ ((vc ((allE (underP l v1)).known)) ++ [(.slice x22.1.1 (((allE (underP l v1)).ents).length) x22.1.2 : Value), (.slice x22.2.1 (((allE (underP l v1)).ticks).length) x22.2.2 : Value) ]) ++ ((vc s2.known) ++ [(.slice ae2 s2.ents.length ce2 : Value), (.slice at2 s2.ticks.length ct2 : Value) ])) 90, row (.slice ae0 s0.ents.length ce0) (s0.ents.map cec) 128 7, row (.slice at0 s0.ticks.length ct0) (s0.ticks.map lsc) 126 2, row (.slice x22.1.1 (((allE (underP l v1)).ents).length) x22.1.2) (((allE (underP l v1)).ents).map cec) 128 7, row (.slice x22.2.1 (((allE (underP l v1)).ticks).length) x22.2.2) (((allE (underP l v1)).ticks).map lsc) 126 2, row (.slice ae2 s2.ents.length ce2) (s2.ents.map cec) 128 7, row (.slice at2 s2.ticks.length ct2) (s2.ticks.map lsc) 126 2]) (by decide) rfl
            replace hs := ho
            refine ⟨_, ?_, _, 2, s0, ae0, ce0, at0, ct0, (allE (underP l v1)), x22.1.1, x22.1.2, x22.2.1, x22.2.2, s2, ae2, ce2, at2, ct2, upd_of (mix_of (ds := [4, 6, 7, 8, 26, 27, 28, 29, 30, 31, 32, 33, 34, 35, 36, 37, 38, 39, 40, 41, 42, 43, 44, 45, 46, 47]) (by repeat (first | exact Agr.refl _ _ | refine Agr.upd ?_ rfl | refine Agr.mix ?_ rfl))) rfl, (by omega), (fun _ => hf0 (by omega)), (fun _ => ⟨hcl2, rfl⟩), (fun h => absurd h (by omega)), rfl, hs.take 8⟩
            omega
        ·
          subst hk8
          refine W_region ?_
          refine RW_op (L_move (V := .int .i64 2) rfl ?_)
          refine RW_op (L_assign (V := .int .i64 2) rfl ?_)
          refine RW_nil ?_
          refine W_seq ?_
          refine W_region ?_
          refine RW_op (L_move (V := .slice an l.length cn) rfl ?_)
          refine RW_op (L_move (V := .int .i64 2) rfl ?_)
          refine RW_op (L_ixArr UD_89 SA_53.1 rfl rfl (by decide) (by decide) ?_)
          refine RW_op (L_ldA (vs := vc v2) SA_53 hs 0 rfl rfl rfl (drop_m2 (k := 16) rfl rfl rfl) ?_)
          refine RW_op (L_callX (vs := [.slice an l.length cn, .agg (vc v2).toArray]) (V := fun x : Option Addr × Nat => .slice x.1 (underP l v2).length x.2) EN_40 rfl rfl (rUnder_ok _ v2 an cn l hl (by omega) (Rd.own' hr hs)) hs fun x24 w25 hs _ => ?_)
          refine RW_op (L_assign (V := .slice x24.1 ((underP l v2).length) x24.2) rfl ?_)
          refine RW_nil ?_
          refine W_seq ?_
          refine W_region ?_
          refine RW_op (L_move (V := .slice x24.1 ((underP l v2).length) x24.2) rfl ?_)
          refine RW_op (L_callP (vs := [.slice x24.1 ((underP l v2).length) x24.2]) (V := .bool (closedR (underP l v2))) EN_41 rfl rfl ?hc hs fun w26 hs => ?_)
          case hc => exact (rClosedO_ok _ x24.1 x24.2 (underP l v2) hlu2 (by omega) (hs.rd 8 rfl))
          refine RW_op (L_assign (V := .bool (closedR (underP l v2))) rfl ?_)
          refine RW_nil ?_
          refine W_seq ?_
          refine W_seq ?_
          refine W_region ?_
          refine RW_op (L_move (V := .bool (closedR (underP l v2))) rfl ?_)
          refine RW_op (L_not rfl ?_)
          refine RW_nil ?_
          refine W_cond (t := !(closedR (underP l v2))) rfl (fun c27 => ?_) (fun c27 => ?_)
          ·
            replace c27 := not_t c27
            refine W_seq ?_
            refine W_region ?_
            refine RW_op (L_assign (V := .bool true) rfl ?_)
            refine RW_nil ?_
            refine W_ret ?_
            refine ⟨_, res_one (V := .bool true) Try.results9 rfl, ?_⟩
            refine ⟨congrArg Ending.returned ?_, hs.take 0⟩
            rfl
          ·
            replace c27 := not_f c27
            refine W_skip ?_
            refine W_seq ?_
            have hcl2 := c27
            have hqq := hq.sub (down_under ((closedR_iff hlu2).1 hcl2))
            refine W_region ?_
            refine RW_op (L_move (V := .int .i64 2) rfl ?_)
            refine RW_op (L_move (V := .slice x24.1 ((underP l v2).length) x24.2) rfl ?_)
            refine RW_op (L_callX (α := (Option Addr × Nat) × (Option Addr × Nat)) (vs := [.slice x24.1 ((underP l v2).length) x24.2]) (V := fun x : (Option Addr × Nat) × (Option Addr × Nat) => .tuple #[.agg (vc (allE (underP l v2)).known ++ [(.slice x.1.1 ((allE (underP l v2)).ents).length x.1.2 : Value), (.slice x.2.1 ((allE (underP l v2)).ticks).length x.2.2 : Value)]).toArray, .bool true]) (Lo := fun x => [row (.slice x.1.1 ((allE (underP l v2)).ents).length x.1.2) (((allE (underP l v2)).ents).map cec) 128 7, row (.slice x.2.1 ((allE (underP l v2)).ticks).length x.2.2) (((allE (underP l v2)).ticks).map lsc) 126 2]) (F := fun _ _ => True) EN_42 rfl rfl ?hc hs fun x29 w28 hs _ => ?_)
            case hc => exact (all_ok8 _ x24.1 x24.2 (underP l v2) hlu2 (by omega) hqq (hs.rd 8 rfl))
            replace hs : Own w no w28 [blk b1 ((vc v0) ++ (vc v1) ++ (vc v2)) 89, blk b6 (((vc s0.known) ++ [(.slice ae0 s0.ents.length ce0 : Value), (.slice at0 s0.ticks.length ct0 : Value) ]) ++ ((vc s1.known) ++ [(.slice ae1 s1.ents.length ce1 : Value), (.slice at1 s1.ticks.length ct1 : Value) ]) ++ ((vc s2.known) ++ [(.slice ae2 s2.ents.length ce2 : Value), (.slice at2 s2.ticks.length ct2 : Value) ])) 90, row (.slice ae0 s0.ents.length ce0) (s0.ents.map cec) 128 7, row (.slice at0 s0.ticks.length ct0) (s0.ticks.map lsc) 126 2, row (.slice ae1 s1.ents.length ce1) (s1.ents.map cec) 128 7, row (.slice at1 s1.ticks.length ct1) (s1.ticks.map lsc) 126 2, row (.slice ae2 s2.ents.length ce2) (s2.ents.map cec) 128 7, row (.slice at2 s2.ticks.length ct2) (s2.ticks.map lsc) 126 2, row (.slice x24.1 ((underP l v2).length) x24.2) ((underP l v2).map oc) 98 23, row (.slice x29.1.1 (((allE (underP l v2)).ents).length) x29.1.2) (((allE (underP l v2)).ents).map cec) 128 7, row (.slice x29.2.1 (((allE (underP l v2)).ticks).length) x29.2.2) (((allE (underP l v2)).ticks).map lsc) 126 2] := hs
            refine RW_op (L_move (V := .tuple #[.agg ((vc ((allE (underP l v2)).known)) ++ [(.slice x29.1.1 (((allE (underP l v2)).ents).length) x29.1.2 : Value), (.slice x29.2.1 (((allE (underP l v2)).ticks).length) x29.2.2 : Value) ]).toArray, .bool true]) rfl ?_)
            refine RW_op (L_extract (V := .agg ((vc ((allE (underP l v2)).known)) ++ [(.slice x29.1.1 (((allE (underP l v2)).ents).length) x29.1.2 : Value), (.slice x29.2.1 (((allE (underP l v2)).ticks).length) x29.2.2 : Value) ]).toArray) rfl rfl ?_)
            refine RW_op (L_extract (V := .bool true) rfl rfl ?_)
            refine RW_op (L_ixArr UD_90 SA_62.1 rfl rfl (by decide) (by decide) ?_)
            refine RW_op (L_st (V := .agg ((vc ((allE (underP l v2)).known)) ++ [(.slice x29.1.1 (((allE (underP l v2)).ents).length) x29.1.2 : Value), (.slice x29.2.1 (((allE (underP l v2)).ticks).length) x29.2.2 : Value) ]).toArray) (vs := (vc ((allE (underP l v2)).known)) ++ [(.slice x29.1.1 (((allE (underP l v2)).ents).length) x29.1.2 : Value), (.slice x29.2.1 (((allE (underP l v2)).ticks).length) x29.2.2 : Value) ]) (cs' := ((vc s0.known) ++ [(.slice ae0 s0.ents.length ce0 : Value), (.slice at0 s0.ticks.length ct0 : Value) ]) ++ ((vc s1.known) ++ [(.slice ae1 s1.ents.length ce1 : Value), (.slice at1 s1.ticks.length ct1 : Value) ]) ++ ((vc ((allE (underP l v2)).known)) ++ [(.slice x29.1.1 (((allE (underP l v2)).ents).length) x29.1.2 : Value), (.slice x29.2.1 (((allE (underP l v2)).ticks).length) x29.2.2 : Value) ])) SA_62.1 hs 1 rfl rfl rfl rfl rfl (Nat.le_of_ble_eq_true rfl) (one_app (vc_one _) (one_cons rfl (one_cons rfl one_nil))) (spl_m2 (k := 18) rfl rfl rfl rfl) fun w30 hs => ?_)
            refine RW_op (L_assign (V := .bool true) rfl ?_)
            refine RW_nil ?_
            refine W_seq ?_
            refine W_region ?_
            refine RW_op (L_move (V := .bool true) rfl ?_)
            refine RW_op (L_not rfl ?_)
            refine RW_nil ?_
            refine W_condF rfl ?_
            refine W_skip ?_
            refine W_region ?_
            refine RW_op (L_add (a := 2) (b := 1) (c := 3) rfl rfl rfl ?_)
            refine RW_op (L_move (V := .int .i64 3) rfl ?_)
            refine RW_nil ?_
            have ho := hs.sel [0, 1, 2, 3, 4, 5, 9, 10] (L' := [blk b1 ((vc v0) ++ (vc v1) ++ (vc v2)) 89, blk b6 (((vc s0.known) ++ [(.slice ae0 s0.ents.length ce0 : Value), (.slice at0 s0.ticks.length ct0 : Value) ]) ++ ((vc s1.known) ++ [(.slice ae1 s1.ents.length ce1 : Value), (.slice at1 s1.ticks.length ct1 : Value) ]) ++ ((vc ((allE (underP l v2)).known)) ++ [(.slice x29.1.1 (((allE (underP l v2)).ents).length) x29.1.2 : Value), (.slice x29.2.1 (((allE (underP l v2)).ticks).length) x29.2.2 : Value) ])) 90, row (.slice ae0 s0.ents.length ce0) (s0.ents.map cec) 128 7, row (.slice at0 s0.ticks.length ct0) (s0.ticks.map lsc) 126 2, row (.slice ae1 s1.ents.length ce1) (s1.ents.map cec) 128 7, row (.slice at1 s1.ticks.length ct1) (s1.ticks.map lsc) 126 2, row (.slice x29.1.1 (((allE (underP l v2)).ents).length) x29.1.2) (((allE (underP l v2)).ents).map cec) 128 7, row (.slice x29.2.1 (((allE (underP l v2)).ticks).length) x29.2.2) (((allE (underP l v2)).ticks).map lsc) 126 2]) (by decide) rfl
            replace hs := ho
            refine ⟨_, ?_, _, 3, s0, ae0, ce0, at0, ct0, s1, ae1, ce1, at1, ct1, (allE (underP l v2)), x29.1.1, x29.1.2, x29.2.1, x29.2.2, upd_of (mix_of (ds := [4, 6, 7, 8, 26, 27, 28, 29, 30, 31, 32, 33, 34, 35, 36, 37, 38, 39, 40, 41, 42, 43, 44, 45, 46, 47]) (by repeat (first | exact Agr.refl _ _ | refine Agr.upd ?_ rfl | refine Agr.mix ?_ rfl))) rfl, (by omega), (fun _ => hf0 (by omega)), (fun _ => hf1 (by omega)), (fun _ => ⟨hcl2, rfl⟩), rfl, hs.take 8⟩
            omega
      ·
        replace c9 := of_decide_eq_false c9
        refine W_exit ?_
        refine W_seq ?_
        have hz0 := hf0 (by omega)
        have hz1 := hf1 (by omega)
        have hz2 := hf2 (by omega)
        obtain ⟨ab, bc, abc, hA⟩ := any_all hq ((closedR_iff hlu0).1 hz0.1) ((closedR_iff hlu1).1 hz1.1) ((closedR_iff hlu2).1 hz2.1) hz0.2 hz1.2 hz2.2
        have hA0 := hA.ok0.2
        have hA1 := hA.ok1.2
        have hA2 := hA.ok2.2
        have hA3 := hA.okab.2
        have hA4 := hA.okbc.2
        have hA5 := hA.okabc
        refine W_region ?_
        refine RW_op (L_ixArr UD_90 SA_62.1 rfl rfl (by decide) (by decide) ?_)
        refine RW_op (L_ldA (vs := (vc s0.known) ++ [(.slice ae0 s0.ents.length ce0 : Value), (.slice at0 s0.ticks.length ct0 : Value) ]) SA_62 hs 1 rfl rfl rfl (drop_m0 (k := 18) rfl) ?_)
        refine RW_op (L_ixArr UD_90 SA_62.1 rfl rfl (by decide) (by decide) ?_)
        refine RW_op (L_ldA (vs := (vc s1.known) ++ [(.slice ae1 s1.ents.length ce1 : Value), (.slice at1 s1.ticks.length ct1 : Value) ]) SA_62 hs 1 rfl rfl rfl (drop_m1 (k := 18) rfl rfl) ?_)
        refine RW_op (L_callX (α := (Option Addr × Nat) × (Option Addr × Nat)) (vs := [.agg ((vc s0.known) ++ [(.slice ae0 s0.ents.length ce0 : Value), (.slice at0 s0.ticks.length ct0 : Value) ]).toArray, .agg ((vc s1.known) ++ [(.slice ae1 s1.ents.length ce1 : Value), (.slice at1 s1.ticks.length ct1 : Value) ]).toArray]) (V := fun x : (Option Addr × Nat) × (Option Addr × Nat) => .tuple #[.agg (vc ab.known ++ [(.slice x.1.1 (ab.ents).length x.1.2 : Value), (.slice x.2.1 (ab.ticks).length x.2.2 : Value)]).toArray, .int .i64 0]) (Lo := fun x => [row (.slice x.1.1 (ab.ents).length x.1.2) ((ab.ents).map cec) 128 7, row (.slice x.2.1 (ab.ticks).length x.2.2) ((ab.ticks).map lsc) 126 2]) (F := fun _ _ => True) EN_28 rfl rfl ?hc hs fun x32 w31 hs _ => ?_)
        case hc => exact (cMerge_okE ab 0 _ s0 ae0 ce0 at0 ct0 s1 ae1 ce1 at1 ct1 hsortE hA.ok0.1 (by omega) (by omega) hA.ok1.1 (by omega) (by omega) (hs.rd 2 rfl) (hs.rd 3 rfl) (hs.rd 4 rfl) (hs.rd 5 rfl) hA.r01 hA.i01)
        refine RW_op (L_move (V := .tuple #[.agg ((vc ab.known) ++ [(.slice x32.1.1 ((ab.ents).length) x32.1.2 : Value), (.slice x32.2.1 ((ab.ticks).length) x32.2.2 : Value) ]).toArray, .int .i64 0]) rfl ?_)
        refine RW_op (L_extract (V := .agg ((vc ab.known) ++ [(.slice x32.1.1 ((ab.ents).length) x32.1.2 : Value), (.slice x32.2.1 ((ab.ticks).length) x32.2.2 : Value) ]).toArray) rfl rfl ?_)
        refine RW_op (L_extract (V := .int .i64 0) rfl rfl ?_)
        refine RW_op (L_alloc (cs := (vc vzero) ++ [(.slice none 0 0 : Value), (.slice none 0 0 : Value) ]) ZV_62 rfl hs fun b33 w34 hs => ?_)
        replace hs : Own w no w34 [blk b1 ((vc v0) ++ (vc v1) ++ (vc v2)) 89, blk b6 (((vc s0.known) ++ [(.slice ae0 s0.ents.length ce0 : Value), (.slice at0 s0.ticks.length ct0 : Value) ]) ++ ((vc s1.known) ++ [(.slice ae1 s1.ents.length ce1 : Value), (.slice at1 s1.ticks.length ct1 : Value) ]) ++ ((vc s2.known) ++ [(.slice ae2 s2.ents.length ce2 : Value), (.slice at2 s2.ticks.length ct2 : Value) ])) 90, row (.slice ae0 s0.ents.length ce0) (s0.ents.map cec) 128 7, row (.slice at0 s0.ticks.length ct0) (s0.ticks.map lsc) 126 2, row (.slice ae1 s1.ents.length ce1) (s1.ents.map cec) 128 7, row (.slice at1 s1.ticks.length ct1) (s1.ticks.map lsc) 126 2, row (.slice ae2 s2.ents.length ce2) (s2.ents.map cec) 128 7, row (.slice at2 s2.ticks.length ct2) (s2.ticks.map lsc) 126 2, row (.slice x32.1.1 ((ab.ents).length) x32.1.2) (ab.ents.map cec) 128 7, row (.slice x32.2.1 ((ab.ticks).length) x32.2.2) (ab.ticks.map lsc) 126 2, blk b33 ((vc vzero) ++ [(.slice none 0 0 : Value), (.slice none 0 0 : Value) ]) 62] := hs
        refine RW_op (L_st (V := .agg ((vc ab.known) ++ [(.slice x32.1.1 ((ab.ents).length) x32.1.2 : Value), (.slice x32.2.1 ((ab.ticks).length) x32.2.2 : Value) ]).toArray) (vs := (vc ab.known) ++ [(.slice x32.1.1 ((ab.ents).length) x32.1.2 : Value), (.slice x32.2.1 ((ab.ticks).length) x32.2.2 : Value) ]) (cs' := (vc ab.known) ++ [(.slice x32.1.1 ((ab.ents).length) x32.1.2 : Value), (.slice x32.2.1 ((ab.ticks).length) x32.2.2 : Value) ]) SA_62.1 hs 10 rfl rfl rfl rfl rfl (Nat.le_of_ble_eq_true rfl) (one_app (vc_one _) (one_cons rfl (one_cons rfl one_nil))) (spl_whole rfl) fun w35 hs => ?_)
        refine RW_op (L_assign (V := .int .i64 0) rfl ?_)
        refine RW_nil ?_
        refine W_seq ?_
        refine W_region ?_
        refine RW_op (L_ixArr UD_90 SA_62.1 rfl rfl (by decide) (by decide) ?_)
        refine RW_op (L_ldA (vs := (vc s1.known) ++ [(.slice ae1 s1.ents.length ce1 : Value), (.slice at1 s1.ticks.length ct1 : Value) ]) SA_62 hs 1 rfl rfl rfl (drop_m1 (k := 18) rfl rfl) ?_)
        refine RW_op (L_ixArr UD_90 SA_62.1 rfl rfl (by decide) (by decide) ?_)
        refine RW_op (L_ldA (vs := (vc s0.known) ++ [(.slice ae0 s0.ents.length ce0 : Value), (.slice at0 s0.ticks.length ct0 : Value) ]) SA_62 hs 1 rfl rfl rfl (drop_m0 (k := 18) rfl) ?_)
        refine RW_op (L_callX (α := (Option Addr × Nat) × (Option Addr × Nat)) (vs := [.agg ((vc s1.known) ++ [(.slice ae1 s1.ents.length ce1 : Value), (.slice at1 s1.ticks.length ct1 : Value) ]).toArray, .agg ((vc s0.known) ++ [(.slice ae0 s0.ents.length ce0 : Value), (.slice at0 s0.ticks.length ct0 : Value) ]).toArray]) (V := fun x : (Option Addr × Nat) × (Option Addr × Nat) => .tuple #[.agg (vc ab.known ++ [(.slice x.1.1 (ab.ents).length x.1.2 : Value), (.slice x.2.1 (ab.ticks).length x.2.2 : Value)]).toArray, .int .i64 0]) (Lo := fun x => [row (.slice x.1.1 (ab.ents).length x.1.2) ((ab.ents).map cec) 128 7, row (.slice x.2.1 (ab.ticks).length x.2.2) ((ab.ticks).map lsc) 126 2]) (F := fun _ _ => True) EN_28 rfl rfl ?hc hs fun x37 w36 hs _ => ?_)
        case hc => exact (cMerge_okE ab 0 _ s1 ae1 ce1 at1 ct1 s0 ae0 ce0 at0 ct0 hsortE hA.ok1.1 (by omega) (by omega) hA.ok0.1 (by omega) (by omega) (hs.rd 4 rfl) (hs.rd 5 rfl) (hs.rd 2 rfl) (hs.rd 3 rfl) hA.r10 hA.i10)
        refine RW_op (L_move (V := .tuple #[.agg ((vc ab.known) ++ [(.slice x37.1.1 ((ab.ents).length) x37.1.2 : Value), (.slice x37.2.1 ((ab.ticks).length) x37.2.2 : Value) ]).toArray, .int .i64 0]) rfl ?_)
        refine RW_op (L_extract (V := .agg ((vc ab.known) ++ [(.slice x37.1.1 ((ab.ents).length) x37.1.2 : Value), (.slice x37.2.1 ((ab.ticks).length) x37.2.2 : Value) ]).toArray) rfl rfl ?_)
        refine RW_op (L_extract (V := .int .i64 0) rfl rfl ?_)
        refine RW_op (L_alloc (cs := (vc vzero) ++ [(.slice none 0 0 : Value), (.slice none 0 0 : Value) ]) ZV_62 rfl hs fun b38 w39 hs => ?_)
        refine RW_op (L_st (V := .agg ((vc ab.known) ++ [(.slice x37.1.1 ((ab.ents).length) x37.1.2 : Value), (.slice x37.2.1 ((ab.ticks).length) x37.2.2 : Value) ]).toArray) (vs := (vc ab.known) ++ [(.slice x37.1.1 ((ab.ents).length) x37.1.2 : Value), (.slice x37.2.1 ((ab.ticks).length) x37.2.2 : Value) ]) (cs' := (vc ab.known) ++ [(.slice x37.1.1 ((ab.ents).length) x37.1.2 : Value), (.slice x37.2.1 ((ab.ticks).length) x37.2.2 : Value) ]) SA_62.1 hs 13 rfl rfl rfl rfl rfl (Nat.le_of_ble_eq_true rfl) (one_app (vc_one _) (one_cons rfl (one_cons rfl one_nil))) (spl_whole rfl) fun w40 hs => ?_)
        replace hs : Own w no w40 [blk b1 ((vc v0) ++ (vc v1) ++ (vc v2)) 89, blk b6 (((vc s0.known) ++ [(.slice ae0 s0.ents.length ce0 : Value), (.slice at0 s0.ticks.length ct0 : Value) ]) ++ ((vc s1.known) ++ [(.slice ae1 s1.ents.length ce1 : Value), (.slice at1 s1.ticks.length ct1 : Value) ]) ++ ((vc s2.known) ++ [(.slice ae2 s2.ents.length ce2 : Value), (.slice at2 s2.ticks.length ct2 : Value) ])) 90, row (.slice ae0 s0.ents.length ce0) (s0.ents.map cec) 128 7, row (.slice at0 s0.ticks.length ct0) (s0.ticks.map lsc) 126 2, row (.slice ae1 s1.ents.length ce1) (s1.ents.map cec) 128 7, row (.slice at1 s1.ticks.length ct1) (s1.ticks.map lsc) 126 2, row (.slice ae2 s2.ents.length ce2) (s2.ents.map cec) 128 7, row (.slice at2 s2.ticks.length ct2) (s2.ticks.map lsc) 126 2, row (.slice x32.1.1 ((ab.ents).length) x32.1.2) (ab.ents.map cec) 128 7, row (.slice x32.2.1 ((ab.ticks).length) x32.2.2) (ab.ticks.map lsc) 126 2, blk b33 ((vc ab.known) ++ [(.slice x32.1.1 ((ab.ents).length) x32.1.2 : Value), (.slice x32.2.1 ((ab.ticks).length) x32.2.2 : Value) ]) 62, row (.slice x37.1.1 ((ab.ents).length) x37.1.2) (ab.ents.map cec) 128 7, row (.slice x37.2.1 ((ab.ticks).length) x37.2.2) (ab.ticks.map lsc) 126 2, blk b38 ((vc ab.known) ++ [(.slice x37.1.1 ((ab.ents).length) x37.1.2 : Value), (.slice x37.2.1 ((ab.ticks).length) x37.2.2 : Value) ]) 62] := hs
        refine RW_op (L_assign (V := .int .i64 0) rfl ?_)
        refine RW_nil ?_
        refine W_seq ?_
        refine W_region ?_
        refine RW_op (L_ldW (cs := (vc ab.known) ++ [(.slice x32.1.1 ((ab.ents).length) x32.1.2 : Value), (.slice x32.2.1 ((ab.ticks).length) x32.2.2 : Value) ]) SA_62 hs 10 rfl rfl rfl ?_)
        refine RW_op (L_ixArr UD_90 SA_62.1 rfl rfl (by decide) (by decide) ?_)
        refine RW_op (L_ldA (vs := (vc s2.known) ++ [(.slice ae2 s2.ents.length ce2 : Value), (.slice at2 s2.ticks.length ct2 : Value) ]) SA_62 hs 1 rfl rfl rfl (drop_m2 (k := 18) rfl rfl rfl) ?_)
        refine RW_op (L_callX (α := (Option Addr × Nat) × (Option Addr × Nat)) (vs := [.agg ((vc ab.known) ++ [(.slice x32.1.1 ((ab.ents).length) x32.1.2 : Value), (.slice x32.2.1 ((ab.ticks).length) x32.2.2 : Value) ]).toArray, .agg ((vc s2.known) ++ [(.slice ae2 s2.ents.length ce2 : Value), (.slice at2 s2.ticks.length ct2 : Value) ]).toArray]) (V := fun x : (Option Addr × Nat) × (Option Addr × Nat) => .tuple #[.agg (vc abc.known ++ [(.slice x.1.1 (abc.ents).length x.1.2 : Value), (.slice x.2.1 (abc.ticks).length x.2.2 : Value)]).toArray, .int .i64 0]) (Lo := fun x => [row (.slice x.1.1 (abc.ents).length x.1.2) ((abc.ents).map cec) 128 7, row (.slice x.2.1 (abc.ticks).length x.2.2) ((abc.ticks).map lsc) 126 2]) (F := fun _ _ => True) EN_28 rfl rfl ?hc hs fun x42 w41 hs _ => ?_)
        case hc => exact (cMerge_okE abc 0 _ ab x32.1.1 x32.1.2 x32.2.1 x32.2.2 s2 ae2 ce2 at2 ct2 hsortE hA.okab.1 (by omega) (by omega) hA.ok2.1 (by omega) (by omega) (hs.rd 8 rfl) (hs.rd 9 rfl) (hs.rd 6 rfl) (hs.rd 7 rfl) hA.rab hA.iab)
        refine RW_op (L_move (V := .tuple #[.agg ((vc abc.known) ++ [(.slice x42.1.1 ((abc.ents).length) x42.1.2 : Value), (.slice x42.2.1 ((abc.ticks).length) x42.2.2 : Value) ]).toArray, .int .i64 0]) rfl ?_)
        refine RW_op (L_extract (V := .agg ((vc abc.known) ++ [(.slice x42.1.1 ((abc.ents).length) x42.1.2 : Value), (.slice x42.2.1 ((abc.ticks).length) x42.2.2 : Value) ]).toArray) rfl rfl ?_)
        refine RW_op (L_extract (V := .int .i64 0) rfl rfl ?_)
        refine RW_op (L_alloc (cs := (vc vzero) ++ [(.slice none 0 0 : Value), (.slice none 0 0 : Value) ]) ZV_62 rfl hs fun b43 w44 hs => ?_)
        refine RW_op (L_st (V := .agg ((vc abc.known) ++ [(.slice x42.1.1 ((abc.ents).length) x42.1.2 : Value), (.slice x42.2.1 ((abc.ticks).length) x42.2.2 : Value) ]).toArray) (vs := (vc abc.known) ++ [(.slice x42.1.1 ((abc.ents).length) x42.1.2 : Value), (.slice x42.2.1 ((abc.ticks).length) x42.2.2 : Value) ]) (cs' := (vc abc.known) ++ [(.slice x42.1.1 ((abc.ents).length) x42.1.2 : Value), (.slice x42.2.1 ((abc.ticks).length) x42.2.2 : Value) ]) SA_62.1 hs 16 rfl rfl rfl rfl rfl (Nat.le_of_ble_eq_true rfl) (one_app (vc_one _) (one_cons rfl (one_cons rfl one_nil))) (spl_whole rfl) fun w45 hs => ?_)
        refine RW_op (L_assign (V := .int .i64 0) rfl ?_)
        refine RW_nil ?_
        refine W_seq ?_
        refine W_region ?_
        refine RW_op (L_ixArr UD_90 SA_62.1 rfl rfl (by decide) (by decide) ?_)
        refine RW_op (L_ldA (vs := (vc s1.known) ++ [(.slice ae1 s1.ents.length ce1 : Value), (.slice at1 s1.ticks.length ct1 : Value) ]) SA_62 hs 1 rfl rfl rfl (drop_m1 (k := 18) rfl rfl) ?_)
        refine RW_op (L_ixArr UD_90 SA_62.1 rfl rfl (by decide) (by decide) ?_)
        refine RW_op (L_ldA (vs := (vc s2.known) ++ [(.slice ae2 s2.ents.length ce2 : Value), (.slice at2 s2.ticks.length ct2 : Value) ]) SA_62 hs 1 rfl rfl rfl (drop_m2 (k := 18) rfl rfl rfl) ?_)
        refine RW_op (L_callX (α := (Option Addr × Nat) × (Option Addr × Nat)) (vs := [.agg ((vc s1.known) ++ [(.slice ae1 s1.ents.length ce1 : Value), (.slice at1 s1.ticks.length ct1 : Value) ]).toArray, .agg ((vc s2.known) ++ [(.slice ae2 s2.ents.length ce2 : Value), (.slice at2 s2.ticks.length ct2 : Value) ]).toArray]) (V := fun x : (Option Addr × Nat) × (Option Addr × Nat) => .tuple #[.agg (vc bc.known ++ [(.slice x.1.1 (bc.ents).length x.1.2 : Value), (.slice x.2.1 (bc.ticks).length x.2.2 : Value)]).toArray, .int .i64 0]) (Lo := fun x => [row (.slice x.1.1 (bc.ents).length x.1.2) ((bc.ents).map cec) 128 7, row (.slice x.2.1 (bc.ticks).length x.2.2) ((bc.ticks).map lsc) 126 2]) (F := fun _ _ => True) EN_28 rfl rfl ?hc hs fun x47 w46 hs _ => ?_)
        case hc => exact (cMerge_okE bc 0 _ s1 ae1 ce1 at1 ct1 s2 ae2 ce2 at2 ct2 hsortE hA.ok1.1 (by omega) (by omega) hA.ok2.1 (by omega) (by omega) (hs.rd 4 rfl) (hs.rd 5 rfl) (hs.rd 6 rfl) (hs.rd 7 rfl) hA.r12 hA.i12)
        replace hs : Own w no w46 [blk b1 ((vc v0) ++ (vc v1) ++ (vc v2)) 89, blk b6 (((vc s0.known) ++ [(.slice ae0 s0.ents.length ce0 : Value), (.slice at0 s0.ticks.length ct0 : Value) ]) ++ ((vc s1.known) ++ [(.slice ae1 s1.ents.length ce1 : Value), (.slice at1 s1.ticks.length ct1 : Value) ]) ++ ((vc s2.known) ++ [(.slice ae2 s2.ents.length ce2 : Value), (.slice at2 s2.ticks.length ct2 : Value) ])) 90, row (.slice ae0 s0.ents.length ce0) (s0.ents.map cec) 128 7, row (.slice at0 s0.ticks.length ct0) (s0.ticks.map lsc) 126 2, row (.slice ae1 s1.ents.length ce1) (s1.ents.map cec) 128 7, row (.slice at1 s1.ticks.length ct1) (s1.ticks.map lsc) 126 2, row (.slice ae2 s2.ents.length ce2) (s2.ents.map cec) 128 7, row (.slice at2 s2.ticks.length ct2) (s2.ticks.map lsc) 126 2, row (.slice x32.1.1 ((ab.ents).length) x32.1.2) (ab.ents.map cec) 128 7, row (.slice x32.2.1 ((ab.ticks).length) x32.2.2) (ab.ticks.map lsc) 126 2, blk b33 ((vc ab.known) ++ [(.slice x32.1.1 ((ab.ents).length) x32.1.2 : Value), (.slice x32.2.1 ((ab.ticks).length) x32.2.2 : Value) ]) 62, row (.slice x37.1.1 ((ab.ents).length) x37.1.2) (ab.ents.map cec) 128 7, row (.slice x37.2.1 ((ab.ticks).length) x37.2.2) (ab.ticks.map lsc) 126 2, blk b38 ((vc ab.known) ++ [(.slice x37.1.1 ((ab.ents).length) x37.1.2 : Value), (.slice x37.2.1 ((ab.ticks).length) x37.2.2 : Value) ]) 62, row (.slice x42.1.1 ((abc.ents).length) x42.1.2) (abc.ents.map cec) 128 7, row (.slice x42.2.1 ((abc.ticks).length) x42.2.2) (abc.ticks.map lsc) 126 2, blk b43 ((vc abc.known) ++ [(.slice x42.1.1 ((abc.ents).length) x42.1.2 : Value), (.slice x42.2.1 ((abc.ticks).length) x42.2.2 : Value) ]) 62, row (.slice x47.1.1 ((bc.ents).length) x47.1.2) (bc.ents.map cec) 128 7, row (.slice x47.2.1 ((bc.ticks).length) x47.2.2) (bc.ticks.map lsc) 126 2] := hs
        refine RW_op (L_move (V := .tuple #[.agg ((vc bc.known) ++ [(.slice x47.1.1 ((bc.ents).length) x47.1.2 : Value), (.slice x47.2.1 ((bc.ticks).length) x47.2.2 : Value) ]).toArray, .int .i64 0]) rfl ?_)
        refine RW_op (L_extract (V := .agg ((vc bc.known) ++ [(.slice x47.1.1 ((bc.ents).length) x47.1.2 : Value), (.slice x47.2.1 ((bc.ticks).length) x47.2.2 : Value) ]).toArray) rfl rfl ?_)
        refine RW_op (L_extract (V := .int .i64 0) rfl rfl ?_)
        refine RW_op (L_alloc (cs := (vc vzero) ++ [(.slice none 0 0 : Value), (.slice none 0 0 : Value) ]) ZV_62 rfl hs fun b48 w49 hs => ?_)
        refine RW_op (L_st (V := .agg ((vc bc.known) ++ [(.slice x47.1.1 ((bc.ents).length) x47.1.2 : Value), (.slice x47.2.1 ((bc.ticks).length) x47.2.2 : Value) ]).toArray) (vs := (vc bc.known) ++ [(.slice x47.1.1 ((bc.ents).length) x47.1.2 : Value), (.slice x47.2.1 ((bc.ticks).length) x47.2.2 : Value) ]) (cs' := (vc bc.known) ++ [(.slice x47.1.1 ((bc.ents).length) x47.1.2 : Value), (.slice x47.2.1 ((bc.ticks).length) x47.2.2 : Value) ]) SA_62.1 hs 19 rfl rfl rfl rfl rfl (Nat.le_of_ble_eq_true rfl) (one_app (vc_one _) (one_cons rfl (one_cons rfl one_nil))) (spl_whole rfl) fun w50 hs => ?_)
        refine RW_op (L_assign (V := .int .i64 0) rfl ?_)
        refine RW_nil ?_
        refine W_seq ?_
        refine W_region ?_
        refine RW_op (L_ixArr UD_90 SA_62.1 rfl rfl (by decide) (by decide) ?_)
        refine RW_op (L_ldA (vs := (vc s0.known) ++ [(.slice ae0 s0.ents.length ce0 : Value), (.slice at0 s0.ticks.length ct0 : Value) ]) SA_62 hs 1 rfl rfl rfl (drop_m0 (k := 18) rfl) ?_)
        refine RW_op (L_ldW (cs := (vc bc.known) ++ [(.slice x47.1.1 ((bc.ents).length) x47.1.2 : Value), (.slice x47.2.1 ((bc.ticks).length) x47.2.2 : Value) ]) SA_62 hs 19 rfl rfl rfl ?_)
        refine RW_op (L_callX (α := (Option Addr × Nat) × (Option Addr × Nat)) (vs := [.agg ((vc s0.known) ++ [(.slice ae0 s0.ents.length ce0 : Value), (.slice at0 s0.ticks.length ct0 : Value) ]).toArray, .agg ((vc bc.known) ++ [(.slice x47.1.1 ((bc.ents).length) x47.1.2 : Value), (.slice x47.2.1 ((bc.ticks).length) x47.2.2 : Value) ]).toArray]) (V := fun x : (Option Addr × Nat) × (Option Addr × Nat) => .tuple #[.agg (vc abc.known ++ [(.slice x.1.1 (abc.ents).length x.1.2 : Value), (.slice x.2.1 (abc.ticks).length x.2.2 : Value)]).toArray, .int .i64 0]) (Lo := fun x => [row (.slice x.1.1 (abc.ents).length x.1.2) ((abc.ents).map cec) 128 7, row (.slice x.2.1 (abc.ticks).length x.2.2) ((abc.ticks).map lsc) 126 2]) (F := fun _ _ => True) EN_28 rfl rfl ?hc hs fun x52 w51 hs _ => ?_)
        case hc => exact (cMerge_okE abc 0 _ s0 ae0 ce0 at0 ct0 bc x47.1.1 x47.1.2 x47.2.1 x47.2.2 hsortE hA.ok0.1 (by omega) (by omega) hA.okbc.1 (by omega) (by omega) (hs.rd 2 rfl) (hs.rd 3 rfl) (hs.rd 17 rfl) (hs.rd 18 rfl) hA.rbc hA.ibc)
        refine RW_op (L_move (V := .tuple #[.agg ((vc abc.known) ++ [(.slice x52.1.1 ((abc.ents).length) x52.1.2 : Value), (.slice x52.2.1 ((abc.ticks).length) x52.2.2 : Value) ]).toArray, .int .i64 0]) rfl ?_)
        refine RW_op (L_extract (V := .agg ((vc abc.known) ++ [(.slice x52.1.1 ((abc.ents).length) x52.1.2 : Value), (.slice x52.2.1 ((abc.ticks).length) x52.2.2 : Value) ]).toArray) rfl rfl ?_)
        refine RW_op (L_extract (V := .int .i64 0) rfl rfl ?_)
        refine RW_op (L_alloc (cs := (vc vzero) ++ [(.slice none 0 0 : Value), (.slice none 0 0 : Value) ]) ZV_62 rfl hs fun b53 w54 hs => ?_)
        replace hs : Own w no w54 [blk b1 ((vc v0) ++ (vc v1) ++ (vc v2)) 89, blk b6 (((vc s0.known) ++ [(.slice ae0 s0.ents.length ce0 : Value), (.slice at0 s0.ticks.length ct0 : Value) ]) ++ ((vc s1.known) ++ [(.slice ae1 s1.ents.length ce1 : Value), (.slice at1 s1.ticks.length ct1 : Value) ]) ++ ((vc s2.known) ++ [(.slice ae2 s2.ents.length ce2 : Value), (.slice at2 s2.ticks.length ct2 : Value) ])) 90, row (.slice ae0 s0.ents.length ce0) (s0.ents.map cec) 128 7, row (.slice at0 s0.ticks.length ct0) (s0.ticks.map lsc) 126 2, row (.slice ae1 s1.ents.length ce1) (s1.ents.map cec) 128 7, row (.slice at1 s1.ticks.length ct1) (s1.ticks.map lsc) 126 2, row (.slice ae2 s2.ents.length ce2) (s2.ents.map cec) 128 7, row (.slice at2 s2.ticks.length ct2) (s2.ticks.map lsc) 126 2, row (.slice x32.1.1 ((ab.ents).length) x32.1.2) (ab.ents.map cec) 128 7, row (.slice x32.2.1 ((ab.ticks).length) x32.2.2) (ab.ticks.map lsc) 126 2, blk b33 ((vc ab.known) ++ [(.slice x32.1.1 ((ab.ents).length) x32.1.2 : Value), (.slice x32.2.1 ((ab.ticks).length) x32.2.2 : Value) ]) 62, row (.slice x37.1.1 ((ab.ents).length) x37.1.2) (ab.ents.map cec) 128 7, row (.slice x37.2.1 ((ab.ticks).length) x37.2.2) (ab.ticks.map lsc) 126 2, blk b38 ((vc ab.known) ++ [(.slice x37.1.1 ((ab.ents).length) x37.1.2 : Value), (.slice x37.2.1 ((ab.ticks).length) x37.2.2 : Value) ]) 62, row (.slice x42.1.1 ((abc.ents).length) x42.1.2) (abc.ents.map cec) 128 7, row (.slice x42.2.1 ((abc.ticks).length) x42.2.2) (abc.ticks.map lsc) 126 2, blk b43 ((vc abc.known) ++ [(.slice x42.1.1 ((abc.ents).length) x42.1.2 : Value), (.slice x42.2.1 ((abc.ticks).length) x42.2.2 : Value) ]) 62, row (.slice x47.1.1 ((bc.ents).length) x47.1.2) (bc.ents.map cec) 128 7, row (.slice x47.2.1 ((bc.ticks).length) x47.2.2) (bc.ticks.map lsc) 126 2, blk b48 ((vc bc.known) ++ [(.slice x47.1.1 ((bc.ents).length) x47.1.2 : Value), (.slice x47.2.1 ((bc.ticks).length) x47.2.2 : Value) ]) 62, row (.slice x52.1.1 ((abc.ents).length) x52.1.2) (abc.ents.map cec) 128 7, row (.slice x52.2.1 ((abc.ticks).length) x52.2.2) (abc.ticks.map lsc) 126 2, blk b53 ((vc vzero) ++ [(.slice none 0 0 : Value), (.slice none 0 0 : Value) ]) 62] := hs
        refine RW_op (L_st (V := .agg ((vc abc.known) ++ [(.slice x52.1.1 ((abc.ents).length) x52.1.2 : Value), (.slice x52.2.1 ((abc.ticks).length) x52.2.2 : Value) ]).toArray) (vs := (vc abc.known) ++ [(.slice x52.1.1 ((abc.ents).length) x52.1.2 : Value), (.slice x52.2.1 ((abc.ticks).length) x52.2.2 : Value) ]) (cs' := (vc abc.known) ++ [(.slice x52.1.1 ((abc.ents).length) x52.1.2 : Value), (.slice x52.2.1 ((abc.ticks).length) x52.2.2 : Value) ]) SA_62.1 hs 22 rfl rfl rfl rfl rfl (Nat.le_of_ble_eq_true rfl) (one_app (vc_one _) (one_cons rfl (one_cons rfl one_nil))) (spl_whole rfl) fun w55 hs => ?_)
        refine RW_op (L_assign (V := .int .i64 0) rfl ?_)
        refine RW_nil ?_
        refine W_seq ?_
        refine W_region ?_
        refine RW_op (L_ixArr UD_90 SA_62.1 rfl rfl (by decide) (by decide) ?_)
        refine RW_op (L_ldA (vs := (vc s0.known) ++ [(.slice ae0 s0.ents.length ce0 : Value), (.slice at0 s0.ticks.length ct0 : Value) ]) SA_62 hs 1 rfl rfl rfl (drop_m0 (k := 18) rfl) ?_)
        refine RW_op (L_ixArr UD_90 SA_62.1 rfl rfl (by decide) (by decide) ?_)
        refine RW_op (L_ldA (vs := (vc s0.known) ++ [(.slice ae0 s0.ents.length ce0 : Value), (.slice at0 s0.ticks.length ct0 : Value) ]) SA_62 hs 1 rfl rfl rfl (drop_m0 (k := 18) rfl) ?_)
        refine RW_op (L_callX (α := (Option Addr × Nat) × (Option Addr × Nat)) (vs := [.agg ((vc s0.known) ++ [(.slice ae0 s0.ents.length ce0 : Value), (.slice at0 s0.ticks.length ct0 : Value) ]).toArray, .agg ((vc s0.known) ++ [(.slice ae0 s0.ents.length ce0 : Value), (.slice at0 s0.ticks.length ct0 : Value) ]).toArray]) (V := fun x : (Option Addr × Nat) × (Option Addr × Nat) => .tuple #[.agg (vc s0.known ++ [(.slice x.1.1 (s0.ents).length x.1.2 : Value), (.slice x.2.1 (s0.ticks).length x.2.2 : Value)]).toArray, .int .i64 0]) (Lo := fun x => [row (.slice x.1.1 (s0.ents).length x.1.2) ((s0.ents).map cec) 128 7, row (.slice x.2.1 (s0.ticks).length x.2.2) ((s0.ticks).map lsc) 126 2]) (F := fun _ _ => True) EN_28 rfl rfl ?hc hs fun x57 w56 hs _ => ?_)
        case hc => exact (cMerge_okE s0 0 _ s0 ae0 ce0 at0 ct0 s0 ae0 ce0 at0 ct0 hsortE hA.ok0.1 (by omega) (by omega) hA.ok0.1 (by omega) (by omega) (hs.rd 2 rfl) (hs.rd 3 rfl) (hs.rd 2 rfl) (hs.rd 3 rfl) hA.r00 hA.i00)
        refine RW_op (L_move (V := .tuple #[.agg ((vc s0.known) ++ [(.slice x57.1.1 ((s0.ents).length) x57.1.2 : Value), (.slice x57.2.1 ((s0.ticks).length) x57.2.2 : Value) ]).toArray, .int .i64 0]) rfl ?_)
        refine RW_op (L_extract (V := .agg ((vc s0.known) ++ [(.slice x57.1.1 ((s0.ents).length) x57.1.2 : Value), (.slice x57.2.1 ((s0.ticks).length) x57.2.2 : Value) ]).toArray) rfl rfl ?_)
        refine RW_op (L_extract (V := .int .i64 0) rfl rfl ?_)
        refine RW_op (L_alloc (cs := (vc vzero) ++ [(.slice none 0 0 : Value), (.slice none 0 0 : Value) ]) ZV_62 rfl hs fun b58 w59 hs => ?_)
        refine RW_op (L_st (V := .agg ((vc s0.known) ++ [(.slice x57.1.1 ((s0.ents).length) x57.1.2 : Value), (.slice x57.2.1 ((s0.ticks).length) x57.2.2 : Value) ]).toArray) (vs := (vc s0.known) ++ [(.slice x57.1.1 ((s0.ents).length) x57.1.2 : Value), (.slice x57.2.1 ((s0.ticks).length) x57.2.2 : Value) ]) (cs' := (vc s0.known) ++ [(.slice x57.1.1 ((s0.ents).length) x57.1.2 : Value), (.slice x57.2.1 ((s0.ticks).length) x57.2.2 : Value) ]) SA_62.1 hs 25 rfl rfl rfl rfl rfl (Nat.le_of_ble_eq_true rfl) (one_app (vc_one _) (one_cons rfl (one_cons rfl one_nil))) (spl_whole rfl) fun w60 hs => ?_)
        replace hs : Own w no w60 [blk b1 ((vc v0) ++ (vc v1) ++ (vc v2)) 89, blk b6 (((vc s0.known) ++ [(.slice ae0 s0.ents.length ce0 : Value), (.slice at0 s0.ticks.length ct0 : Value) ]) ++ ((vc s1.known) ++ [(.slice ae1 s1.ents.length ce1 : Value), (.slice at1 s1.ticks.length ct1 : Value) ]) ++ ((vc s2.known) ++ [(.slice ae2 s2.ents.length ce2 : Value), (.slice at2 s2.ticks.length ct2 : Value) ])) 90, row (.slice ae0 s0.ents.length ce0) (s0.ents.map cec) 128 7, row (.slice at0 s0.ticks.length ct0) (s0.ticks.map lsc) 126 2, row (.slice ae1 s1.ents.length ce1) (s1.ents.map cec) 128 7, row (.slice at1 s1.ticks.length ct1) (s1.ticks.map lsc) 126 2, row (.slice ae2 s2.ents.length ce2) (s2.ents.map cec) 128 7, row (.slice at2 s2.ticks.length ct2) (s2.ticks.map lsc) 126 2, row (.slice x32.1.1 ((ab.ents).length) x32.1.2) (ab.ents.map cec) 128 7, row (.slice x32.2.1 ((ab.ticks).length) x32.2.2) (ab.ticks.map lsc) 126 2, blk b33 ((vc ab.known) ++ [(.slice x32.1.1 ((ab.ents).length) x32.1.2 : Value), (.slice x32.2.1 ((ab.ticks).length) x32.2.2 : Value) ]) 62, row (.slice x37.1.1 ((ab.ents).length) x37.1.2) (ab.ents.map cec) 128 7, row (.slice x37.2.1 ((ab.ticks).length) x37.2.2) (ab.ticks.map lsc) 126 2, blk b38 ((vc ab.known) ++ [(.slice x37.1.1 ((ab.ents).length) x37.1.2 : Value), (.slice x37.2.1 ((ab.ticks).length) x37.2.2 : Value) ]) 62, row (.slice x42.1.1 ((abc.ents).length) x42.1.2) (abc.ents.map cec) 128 7, row (.slice x42.2.1 ((abc.ticks).length) x42.2.2) (abc.ticks.map lsc) 126 2, blk b43 ((vc abc.known) ++ [(.slice x42.1.1 ((abc.ents).length) x42.1.2 : Value), (.slice x42.2.1 ((abc.ticks).length) x42.2.2 : Value) ]) 62, row (.slice x47.1.1 ((bc.ents).length) x47.1.2) (bc.ents.map cec) 128 7, row (.slice x47.2.1 ((bc.ticks).length) x47.2.2) (bc.ticks.map lsc) 126 2, blk b48 ((vc bc.known) ++ [(.slice x47.1.1 ((bc.ents).length) x47.1.2 : Value), (.slice x47.2.1 ((bc.ticks).length) x47.2.2 : Value) ]) 62, row (.slice x52.1.1 ((abc.ents).length) x52.1.2) (abc.ents.map cec) 128 7, row (.slice x52.2.1 ((abc.ticks).length) x52.2.2) (abc.ticks.map lsc) 126 2, blk b53 ((vc abc.known) ++ [(.slice x52.1.1 ((abc.ents).length) x52.1.2 : Value), (.slice x52.2.1 ((abc.ticks).length) x52.2.2 : Value) ]) 62, row (.slice x57.1.1 ((s0.ents).length) x57.1.2) (s0.ents.map cec) 128 7, row (.slice x57.2.1 ((s0.ticks).length) x57.2.2) (s0.ticks.map lsc) 126 2, blk b58 ((vc s0.known) ++ [(.slice x57.1.1 ((s0.ents).length) x57.1.2 : Value), (.slice x57.2.1 ((s0.ticks).length) x57.2.2 : Value) ]) 62] := hs
        refine RW_op (L_assign (V := .int .i64 0) rfl ?_)
        refine RW_nil ?_
        refine W_seq ?_
        refine W_seq ?_
        refine W_region ?_
        refine RW_op (L_move (V := .int .i64 0) rfl ?_)
        refine RW_op (opW_to (V := .bool (!decide ((0 : Int) = 0))) (V' := .bool false) (L_neq rfl rfl ⟨rfl, rfl⟩) (congrArg Value.bool (by decide)) ?_)
        refine RW_op (L_move (V := .bool false) rfl ?_)
        refine RW_gy rfl (L_move (V := .int .i64 0) rfl ?_)
        refine RW_gy rfl (opW_to (V := .bool (!decide ((0 : Int) = 0))) (V' := .bool false) (L_neq rfl rfl ⟨rfl, rfl⟩) (congrArg Value.bool (by decide)) ?_)
        refine RW_op (L_pick (V := .bool false) rfl rfl ?_)
        refine RW_op (L_move (V := .bool false) rfl ?_)
        refine RW_gy rfl (L_move (V := .int .i64 0) rfl ?_)
        refine RW_gy rfl (opW_to (V := .bool (!decide ((0 : Int) = 0))) (V' := .bool false) (L_neq rfl rfl ⟨rfl, rfl⟩) (congrArg Value.bool (by decide)) ?_)
        refine RW_op (L_pick (V := .bool false) rfl rfl ?_)
        refine RW_op (L_move (V := .bool false) rfl ?_)
        refine RW_gy rfl (L_move (V := .int .i64 0) rfl ?_)
        refine RW_gy rfl (opW_to (V := .bool (!decide ((0 : Int) = 0))) (V' := .bool false) (L_neq rfl rfl ⟨rfl, rfl⟩) (congrArg Value.bool (by decide)) ?_)
        refine RW_op (L_pick (V := .bool false) rfl rfl ?_)
        refine RW_op (L_move (V := .bool false) rfl ?_)
        refine RW_gy rfl (L_move (V := .int .i64 0) rfl ?_)
        refine RW_gy rfl (opW_to (V := .bool (!decide ((0 : Int) = 0))) (V' := .bool false) (L_neq rfl rfl ⟨rfl, rfl⟩) (congrArg Value.bool (by decide)) ?_)
        refine RW_op (L_pick (V := .bool false) rfl rfl ?_)
        refine RW_op (L_move (V := .bool false) rfl ?_)
        refine RW_gy rfl (L_move (V := .int .i64 0) rfl ?_)
        refine RW_gy rfl (opW_to (V := .bool (!decide ((0 : Int) = 0))) (V' := .bool false) (L_neq rfl rfl ⟨rfl, rfl⟩) (congrArg Value.bool (by decide)) ?_)
        refine RW_op (L_pick (V := .bool false) rfl rfl ?_)
        refine RW_nil ?_
        refine W_condF rfl ?_
        refine W_skip ?_
        refine W_seq ?_
        replace hs := hs.more emp trivial
        replace hs := hs.more emp trivial
        replace hs := hs.more emp trivial
        replace hs := hs.more emp trivial
        replace hs := hs.more emp trivial
        replace hs := hs.more emp trivial
        replace hs := hs.more emp trivial
        replace hs := hs.more emp trivial
        replace hs := hs.more emp trivial
        replace hs := hs.more emp trivial
        replace hs := hs.more emp trivial
        replace hs := hs.more emp trivial
        refine W_regD HM [some 116, some 117, some 118, some 119, some 120, some 121, some 122, some 123, some 124, some 125, some 126, some 127, some 128, some 129, some 130, some 131, some 132, some 133, some 134, some 135, some 4] [[], [117], [], [119], [], [], [], [123], [], [125], [], [], [], [], [130], [], [], [133]] [0, 1, 0, 7, 15, 31, 63, 127, 63, 511, 1023, 2047, 4095, 8191, 16383, 8191, 40959, 131071, 262143, 524287, 1048575] [pv (.agg ((vc ab.known) ++ [(.slice x32.1.1 ((ab.ents).length) x32.1.2 : Value), (.slice x32.2.1 ((ab.ticks).length) x32.2.2 : Value) ]).toArray), (true, fun ρ => .agg ((vc ab.known) ++ [(.slice (aOf (aggS (ρ 117) 16)) ((ab.ents).length) (cOf (aggS (ρ 117) 16)) : Value), (.slice (aOf (aggS (ρ 117) 17)) ((ab.ticks).length) (cOf (aggS (ρ 117) 17)) : Value) ]).toArray), pv (.agg ((vc ab.known) ++ [(.slice x37.1.1 ((ab.ents).length) x37.1.2 : Value), (.slice x37.2.1 ((ab.ticks).length) x37.2.2 : Value) ]).toArray), (true, fun ρ => .agg ((vc ab.known) ++ [(.slice (aOf (aggS (ρ 119) 16)) ((ab.ents).length) (cOf (aggS (ρ 119) 16)) : Value), (.slice (aOf (aggS (ρ 119) 17)) ((ab.ticks).length) (cOf (aggS (ρ 119) 17)) : Value) ]).toArray), pv (.bool true), pv (.bool true), pv (.agg ((vc abc.known) ++ [(.slice x42.1.1 ((abc.ents).length) x42.1.2 : Value), (.slice x42.2.1 ((abc.ticks).length) x42.2.2 : Value) ]).toArray), (true, fun ρ => .agg ((vc abc.known) ++ [(.slice (aOf (aggS (ρ 123) 16)) ((abc.ents).length) (cOf (aggS (ρ 123) 16)) : Value), (.slice (aOf (aggS (ρ 123) 17)) ((abc.ticks).length) (cOf (aggS (ρ 123) 17)) : Value) ]).toArray), pv (.agg ((vc abc.known) ++ [(.slice x52.1.1 ((abc.ents).length) x52.1.2 : Value), (.slice x52.2.1 ((abc.ticks).length) x52.2.2 : Value) ]).toArray), (true, fun ρ => .agg ((vc abc.known) ++ [(.slice (aOf (aggS (ρ 125) 16)) ((abc.ents).length) (cOf (aggS (ρ 125) 16)) : Value), (.slice (aOf (aggS (ρ 125) 17)) ((abc.ticks).length) (cOf (aggS (ρ 125) 17)) : Value) ]).toArray), pv (.bool true), pv (.bool true), pv (.bool true), pv (.agg ((vc s0.known) ++ [(.slice x57.1.1 ((s0.ents).length) x57.1.2 : Value), (.slice x57.2.1 ((s0.ticks).length) x57.2.2 : Value) ]).toArray), (true, fun ρ => .agg ((vc s0.known) ++ [(.slice (aOf (aggS (ρ 130) 16)) ((s0.ents).length) (cOf (aggS (ρ 130) 16)) : Value), (.slice (aOf (aggS (ρ 130) 17)) ((s0.ticks).length) (cOf (aggS (ρ 130) 17)) : Value) ]).toArray), pv (.pointer (some ⟨b6, 0 + 0, none⟩)), pv (.agg ((vc s0.known) ++ [(.slice ae0 s0.ents.length ce0 : Value), (.slice at0 s0.ticks.length ct0 : Value) ]).toArray), (true, fun ρ => .agg ((vc s0.known) ++ [(.slice (aOf (aggS (ρ 133) 16)) ((s0.ents).length) (cOf (aggS (ρ 133) 16)) : Value), (.slice (aOf (aggS (ρ 133) 17)) ((s0.ticks).length) (cOf (aggS (ρ 133) 17)) : Value) ]).toArray), pv (.bool true), pv (.bool true), pv (.bool true)] (fun D ρ => [blk b1 ((vc v0) ++ (vc v1) ++ (vc v2)) 89, blk b6 (((vc s0.known) ++ [(.slice ae0 s0.ents.length ce0 : Value), (.slice at0 s0.ticks.length ct0 : Value) ]) ++ ((vc s1.known) ++ [(.slice ae1 s1.ents.length ce1 : Value), (.slice at1 s1.ticks.length ct1 : Value) ]) ++ ((vc s2.known) ++ [(.slice ae2 s2.ents.length ce2 : Value), (.slice at2 s2.ticks.length ct2 : Value) ])) 90, row (.slice ae0 s0.ents.length ce0) (s0.ents.map cec) 128 7, row (.slice at0 s0.ticks.length ct0) (s0.ticks.map lsc) 126 2, row (.slice ae1 s1.ents.length ce1) (s1.ents.map cec) 128 7, row (.slice at1 s1.ticks.length ct1) (s1.ticks.map lsc) 126 2, row (.slice ae2 s2.ents.length ce2) (s2.ents.map cec) 128 7, row (.slice at2 s2.ticks.length ct2) (s2.ticks.map lsc) 126 2, row (.slice x32.1.1 ((ab.ents).length) x32.1.2) (ab.ents.map cec) 128 7, row (.slice x32.2.1 ((ab.ticks).length) x32.2.2) (ab.ticks.map lsc) 126 2, blk b33 ((vc ab.known) ++ [(.slice x32.1.1 ((ab.ents).length) x32.1.2 : Value), (.slice x32.2.1 ((ab.ticks).length) x32.2.2 : Value) ]) 62, row (.slice x37.1.1 ((ab.ents).length) x37.1.2) (ab.ents.map cec) 128 7, row (.slice x37.2.1 ((ab.ticks).length) x37.2.2) (ab.ticks.map lsc) 126 2, blk b38 ((vc ab.known) ++ [(.slice x37.1.1 ((ab.ents).length) x37.1.2 : Value), (.slice x37.2.1 ((ab.ticks).length) x37.2.2 : Value) ]) 62, row (.slice x42.1.1 ((abc.ents).length) x42.1.2) (abc.ents.map cec) 128 7, row (.slice x42.2.1 ((abc.ticks).length) x42.2.2) (abc.ticks.map lsc) 126 2, blk b43 ((vc abc.known) ++ [(.slice x42.1.1 ((abc.ents).length) x42.1.2 : Value), (.slice x42.2.1 ((abc.ticks).length) x42.2.2 : Value) ]) 62, row (.slice x47.1.1 ((bc.ents).length) x47.1.2) (bc.ents.map cec) 128 7, row (.slice x47.2.1 ((bc.ticks).length) x47.2.2) (bc.ticks.map lsc) 126 2, blk b48 ((vc bc.known) ++ [(.slice x47.1.1 ((bc.ents).length) x47.1.2 : Value), (.slice x47.2.1 ((bc.ticks).length) x47.2.2 : Value) ]) 62, row (.slice x52.1.1 ((abc.ents).length) x52.1.2) (abc.ents.map cec) 128 7, row (.slice x52.2.1 ((abc.ticks).length) x52.2.2) (abc.ticks.map lsc) 126 2, blk b53 ((vc abc.known) ++ [(.slice x52.1.1 ((abc.ents).length) x52.1.2 : Value), (.slice x52.2.1 ((abc.ticks).length) x52.2.2 : Value) ]) 62, row (.slice x57.1.1 ((s0.ents).length) x57.1.2) (s0.ents.map cec) 128 7, row (.slice x57.2.1 ((s0.ticks).length) x57.2.2) (s0.ticks.map lsc) 126 2, blk b58 ((vc s0.known) ++ [(.slice x57.1.1 ((s0.ents).length) x57.1.2 : Value), (.slice x57.2.1 ((s0.ticks).length) x57.2.2 : Value) ]) 62, cond (D 1) (row (.slice (aOf (aggS (ρ 117) 16)) ((ab.ents).length) (cOf (aggS (ρ 117) 16))) (ab.ents.map cec) 134 7) (emp), cond (D 1) (row (.slice (aOf (aggS (ρ 117) 17)) ((ab.ticks).length) (cOf (aggS (ρ 117) 17))) (ab.ticks.map lsc) 135 2) (emp), cond (D 3) (row (.slice (aOf (aggS (ρ 119) 16)) ((ab.ents).length) (cOf (aggS (ρ 119) 16))) (ab.ents.map cec) 134 7) (emp), cond (D 3) (row (.slice (aOf (aggS (ρ 119) 17)) ((ab.ticks).length) (cOf (aggS (ρ 119) 17))) (ab.ticks.map lsc) 135 2) (emp), cond (D 7) (row (.slice (aOf (aggS (ρ 123) 16)) ((abc.ents).length) (cOf (aggS (ρ 123) 16))) (abc.ents.map cec) 134 7) (emp), cond (D 7) (row (.slice (aOf (aggS (ρ 123) 17)) ((abc.ticks).length) (cOf (aggS (ρ 123) 17))) (abc.ticks.map lsc) 135 2) (emp), cond (D 9) (row (.slice (aOf (aggS (ρ 125) 16)) ((abc.ents).length) (cOf (aggS (ρ 125) 16))) (abc.ents.map cec) 134 7) (emp), cond (D 9) (row (.slice (aOf (aggS (ρ 125) 17)) ((abc.ticks).length) (cOf (aggS (ρ 125) 17))) (abc.ticks.map lsc) 135 2) (emp), cond (D 14) (row (.slice (aOf (aggS (ρ 130) 16)) ((s0.ents).length) (cOf (aggS (ρ 130) 16))) (s0.ents.map cec) 134 7) (emp), cond (D 14) (row (.slice (aOf (aggS (ρ 130) 17)) ((s0.ticks).length) (cOf (aggS (ρ 130) 17))) (s0.ticks.map lsc) 135 2) (emp), cond (D 17) (row (.slice (aOf (aggS (ρ 133) 16)) ((s0.ents).length) (cOf (aggS (ρ 133) 16))) (s0.ents.map cec) 134 7) (emp), cond (D 17) (row (.slice (aOf (aggS (ρ 133) 17)) ((s0.ticks).length) (cOf (aggS (ρ 133) 17))) (s0.ticks.map lsc) 135 2) (emp)]) [20] (by kernel_rfl) hs ⟨?_, ?_, ?_, ?_, ?_, ?_, ?_, ?_, ?_, ?_, ?_, ?_, ?_, ?_, ?_, ?_, ?_, ?_, ?_, ?_, ?_, trivial⟩ ?_
        · exact ob [] [] rfl rfl fun D ρ w hs => L_ldW (cs := (vc ab.known) ++ [(.slice x32.1.1 ((ab.ents).length) x32.1.2 : Value), (.slice x32.2.1 ((ab.ticks).length) x32.2.2 : Value) ]) SA_62 hs 10 rfl rfl rfl ⟨rfl, hs⟩
        · exact ob [0] [] rfl rfl fun D ρ w hs => L_callX (α := (Option Addr × Nat) × (Option Addr × Nat)) (vs := [.agg ((vc ab.known) ++ [(.slice x32.1.1 ((ab.ents).length) x32.1.2 : Value), (.slice x32.2.1 ((ab.ticks).length) x32.2.2 : Value) ]).toArray]) (V := fun x : (Option Addr × Nat) × (Option Addr × Nat) => .agg (vc ab.known ++ [(.slice x.1.1 (ab.ents).length x.1.2 : Value), (.slice x.2.1 (ab.ticks).length x.2.2 : Value)]).toArray) (Lo := fun x => [row (.slice x.1.1 (ab.ents).length x.1.2) ((ab.ents).map cec) 134 7, row (.slice x.2.1 (ab.ticks).length x.2.2) ((ab.ticks).map lsc) 135 2]) (F := fun _ _ => True) EN_32 rfl rfl (ours_ok _ ab x32.1.1 x32.1.2 x32.2.1 x32.2.2 (by omega) (by omega) (hs.rd 8 rfl) (hs.rd 9 rfl)) hs fun _ _ hs _ => ⟨rfl, hs.put2 26 27 (Nat.le_of_ble_eq_true rfl) (Nat.le_of_ble_eq_true rfl)⟩
        · exact ob [] [] rfl rfl fun D ρ w hs => L_ldW (cs := (vc ab.known) ++ [(.slice x37.1.1 ((ab.ents).length) x37.1.2 : Value), (.slice x37.2.1 ((ab.ticks).length) x37.2.2 : Value) ]) SA_62 hs 13 rfl rfl rfl ⟨rfl, hs⟩
        · exact ob [2] [] rfl rfl fun D ρ w hs => L_callX (α := (Option Addr × Nat) × (Option Addr × Nat)) (vs := [.agg ((vc ab.known) ++ [(.slice x37.1.1 ((ab.ents).length) x37.1.2 : Value), (.slice x37.2.1 ((ab.ticks).length) x37.2.2 : Value) ]).toArray]) (V := fun x : (Option Addr × Nat) × (Option Addr × Nat) => .agg (vc ab.known ++ [(.slice x.1.1 (ab.ents).length x.1.2 : Value), (.slice x.2.1 (ab.ticks).length x.2.2 : Value)]).toArray) (Lo := fun x => [row (.slice x.1.1 (ab.ents).length x.1.2) ((ab.ents).map cec) 134 7, row (.slice x.2.1 (ab.ticks).length x.2.2) ((ab.ticks).map lsc) 135 2]) (F := fun _ _ => True) EN_32 rfl rfl (ours_ok _ ab x37.1.1 x37.1.2 x37.2.1 x37.2.2 (by omega) (by omega) (hs.rd 11 rfl) (hs.rd 12 rfl)) hs fun _ _ hs _ => ⟨rfl, hs.put2 28 29 (Nat.le_of_ble_eq_true rfl) (Nat.le_of_ble_eq_true rfl)⟩
        · exact ob [1, 3] [] rfl rfl fun D ρ w hs => L_callPV (V' := .bool true) (congrArg Value.bool (by simp)) (vs := [.agg ((vc ab.known) ++ [(.slice (aOf (aggS (ρ 117) 16)) ((ab.ents).length) (cOf (aggS (ρ 117) 16)) : Value), (.slice (aOf (aggS (ρ 117) 17)) ((ab.ticks).length) (cOf (aggS (ρ 117) 17)) : Value) ]).toArray, .agg ((vc ab.known) ++ [(.slice (aOf (aggS (ρ 119) 16)) ((ab.ents).length) (cOf (aggS (ρ 119) 16)) : Value), (.slice (aOf (aggS (ρ 119) 17)) ((ab.ticks).length) (cOf (aggS (ρ 119) 17)) : Value) ]).toArray]) (V := .bool (decide (ab.known = ab.known) && (decide (ab.ents = ab.ents) && decide (ab.ticks = ab.ticks)))) EN_31 rfl rfl (same8_ok _ ab (aOf (aggS (ρ 117) 16)) (cOf (aggS (ρ 117) 16)) (aOf (aggS (ρ 117) 17)) (cOf (aggS (ρ 117) 17)) ab (aOf (aggS (ρ 119) 16)) (cOf (aggS (ρ 119) 16)) (aOf (aggS (ρ 119) 17)) (cOf (aggS (ρ 119) 17)) (hs.rd 26 rfl) (hs.rd 27 rfl) (hs.rd 28 rfl) (hs.rd 29 rfl)) hs fun _ hs => ⟨rfl, hs⟩
        · exact ob [4] [] rfl rfl fun D ρ w hs => L_move (V := .bool true) rfl ⟨rfl, hs⟩
        · exact obg [5] [] true rfl (fun _ => rfl) rfl (fun _ _ _ h => nomatch h) fun D ρ w _ hs => L_ldW (cs := (vc abc.known) ++ [(.slice x42.1.1 ((abc.ents).length) x42.1.2 : Value), (.slice x42.2.1 ((abc.ticks).length) x42.2.2 : Value) ]) SA_62 hs 16 rfl rfl rfl ⟨rfl, hs⟩
        · exact obg [5, 6] [] true rfl (fun _ => rfl) rfl (fun _ _ _ h => nomatch h) fun D ρ w _ hs => L_callX (α := (Option Addr × Nat) × (Option Addr × Nat)) (vs := [.agg ((vc abc.known) ++ [(.slice x42.1.1 ((abc.ents).length) x42.1.2 : Value), (.slice x42.2.1 ((abc.ticks).length) x42.2.2 : Value) ]).toArray]) (V := fun x : (Option Addr × Nat) × (Option Addr × Nat) => .agg (vc abc.known ++ [(.slice x.1.1 (abc.ents).length x.1.2 : Value), (.slice x.2.1 (abc.ticks).length x.2.2 : Value)]).toArray) (Lo := fun x => [row (.slice x.1.1 (abc.ents).length x.1.2) ((abc.ents).map cec) 134 7, row (.slice x.2.1 (abc.ticks).length x.2.2) ((abc.ticks).map lsc) 135 2]) (F := fun _ _ => True) EN_32 rfl rfl (ours_ok _ abc x42.1.1 x42.1.2 x42.2.1 x42.2.2 (by omega) (by omega) (hs.rd 14 rfl) (hs.rd 15 rfl)) hs fun _ _ hs _ => ⟨rfl, hs.put2 30 31 (Nat.le_of_ble_eq_true rfl) (Nat.le_of_ble_eq_true rfl)⟩
        · exact obg [5] [] true rfl (fun _ => rfl) rfl (fun _ _ _ h => nomatch h) fun D ρ w _ hs => L_ldW (cs := (vc abc.known) ++ [(.slice x52.1.1 ((abc.ents).length) x52.1.2 : Value), (.slice x52.2.1 ((abc.ticks).length) x52.2.2 : Value) ]) SA_62 hs 22 rfl rfl rfl ⟨rfl, hs⟩
        · exact obg [5, 8] [] true rfl (fun _ => rfl) rfl (fun _ _ _ h => nomatch h) fun D ρ w _ hs => L_callX (α := (Option Addr × Nat) × (Option Addr × Nat)) (vs := [.agg ((vc abc.known) ++ [(.slice x52.1.1 ((abc.ents).length) x52.1.2 : Value), (.slice x52.2.1 ((abc.ticks).length) x52.2.2 : Value) ]).toArray]) (V := fun x : (Option Addr × Nat) × (Option Addr × Nat) => .agg (vc abc.known ++ [(.slice x.1.1 (abc.ents).length x.1.2 : Value), (.slice x.2.1 (abc.ticks).length x.2.2 : Value)]).toArray) (Lo := fun x => [row (.slice x.1.1 (abc.ents).length x.1.2) ((abc.ents).map cec) 134 7, row (.slice x.2.1 (abc.ticks).length x.2.2) ((abc.ticks).map lsc) 135 2]) (F := fun _ _ => True) EN_32 rfl rfl (ours_ok _ abc x52.1.1 x52.1.2 x52.2.1 x52.2.2 (by omega) (by omega) (hs.rd 20 rfl) (hs.rd 21 rfl)) hs fun _ _ hs _ => ⟨rfl, hs.put2 32 33 (Nat.le_of_ble_eq_true rfl) (Nat.le_of_ble_eq_true rfl)⟩
        · exact obg [5, 7, 9] [] true rfl (fun _ => rfl) rfl (fun _ _ _ h => nomatch h) fun D ρ w _ hs => L_callPV (V' := .bool true) (congrArg Value.bool (by simp)) (vs := [.agg ((vc abc.known) ++ [(.slice (aOf (aggS (ρ 123) 16)) ((abc.ents).length) (cOf (aggS (ρ 123) 16)) : Value), (.slice (aOf (aggS (ρ 123) 17)) ((abc.ticks).length) (cOf (aggS (ρ 123) 17)) : Value) ]).toArray, .agg ((vc abc.known) ++ [(.slice (aOf (aggS (ρ 125) 16)) ((abc.ents).length) (cOf (aggS (ρ 125) 16)) : Value), (.slice (aOf (aggS (ρ 125) 17)) ((abc.ticks).length) (cOf (aggS (ρ 125) 17)) : Value) ]).toArray]) (V := .bool (decide (abc.known = abc.known) && (decide (abc.ents = abc.ents) && decide (abc.ticks = abc.ticks)))) EN_31 rfl rfl (same8_ok _ abc (aOf (aggS (ρ 123) 16)) (cOf (aggS (ρ 123) 16)) (aOf (aggS (ρ 123) 17)) (cOf (aggS (ρ 123) 17)) abc (aOf (aggS (ρ 125) 16)) (cOf (aggS (ρ 125) 16)) (aOf (aggS (ρ 125) 17)) (cOf (aggS (ρ 125) 17)) (hs.rd 30 rfl) (hs.rd 31 rfl) (hs.rd 32 rfl) (hs.rd 33 rfl)) hs fun _ hs => ⟨rfl, hs⟩
        · exact ob [5, 10] [] rfl rfl fun D ρ w hs => L_pick (V := .bool true) rfl rfl ⟨rfl, hs⟩
        · exact ob [11] [] rfl rfl fun D ρ w hs => L_move (V := .bool true) rfl ⟨rfl, hs⟩
        · exact obg [12] [] true rfl (fun _ => rfl) rfl (fun _ _ _ h => nomatch h) fun D ρ w _ hs => L_ldW (cs := (vc s0.known) ++ [(.slice x57.1.1 ((s0.ents).length) x57.1.2 : Value), (.slice x57.2.1 ((s0.ticks).length) x57.2.2 : Value) ]) SA_62 hs 25 rfl rfl rfl ⟨rfl, hs⟩
        · exact obg [12, 13] [] true rfl (fun _ => rfl) rfl (fun _ _ _ h => nomatch h) fun D ρ w _ hs => L_callX (α := (Option Addr × Nat) × (Option Addr × Nat)) (vs := [.agg ((vc s0.known) ++ [(.slice x57.1.1 ((s0.ents).length) x57.1.2 : Value), (.slice x57.2.1 ((s0.ticks).length) x57.2.2 : Value) ]).toArray]) (V := fun x : (Option Addr × Nat) × (Option Addr × Nat) => .agg (vc s0.known ++ [(.slice x.1.1 (s0.ents).length x.1.2 : Value), (.slice x.2.1 (s0.ticks).length x.2.2 : Value)]).toArray) (Lo := fun x => [row (.slice x.1.1 (s0.ents).length x.1.2) ((s0.ents).map cec) 134 7, row (.slice x.2.1 (s0.ticks).length x.2.2) ((s0.ticks).map lsc) 135 2]) (F := fun _ _ => True) EN_32 rfl rfl (ours_ok _ s0 x57.1.1 x57.1.2 x57.2.1 x57.2.2 (by omega) (by omega) (hs.rd 23 rfl) (hs.rd 24 rfl)) hs fun _ _ hs _ => ⟨rfl, hs.put2 34 35 (Nat.le_of_ble_eq_true rfl) (Nat.le_of_ble_eq_true rfl)⟩
        · exact obg [12] [] true rfl (fun _ => rfl) rfl (fun _ _ _ h => nomatch h) fun D ρ w _ hs => L_ixArr UD_90 SA_62.1 rfl rfl (by decide) (by decide) ⟨rfl, hs⟩
        · exact obg [12, 15] [] true rfl (fun _ => rfl) rfl (fun _ _ _ h => nomatch h) fun D ρ w _ hs => L_ldA (vs := (vc s0.known) ++ [(.slice ae0 s0.ents.length ce0 : Value), (.slice at0 s0.ticks.length ct0 : Value) ]) SA_62 hs 1 rfl rfl rfl (drop_m0 (k := 18) rfl) ⟨rfl, hs⟩
        · exact obg [12, 16] [] true rfl (fun _ => rfl) rfl (fun _ _ _ h => nomatch h) fun D ρ w _ hs => L_callX (α := (Option Addr × Nat) × (Option Addr × Nat)) (vs := [.agg ((vc s0.known) ++ [(.slice ae0 s0.ents.length ce0 : Value), (.slice at0 s0.ticks.length ct0 : Value) ]).toArray]) (V := fun x : (Option Addr × Nat) × (Option Addr × Nat) => .agg (vc s0.known ++ [(.slice x.1.1 (s0.ents).length x.1.2 : Value), (.slice x.2.1 (s0.ticks).length x.2.2 : Value)]).toArray) (Lo := fun x => [row (.slice x.1.1 (s0.ents).length x.1.2) ((s0.ents).map cec) 134 7, row (.slice x.2.1 (s0.ticks).length x.2.2) ((s0.ticks).map lsc) 135 2]) (F := fun _ _ => True) EN_32 rfl rfl (ours_ok _ s0 ae0 ce0 at0 ct0 (by omega) (by omega) (hs.rd 2 rfl) (hs.rd 3 rfl)) hs fun _ _ hs _ => ⟨rfl, hs.put2 36 37 (Nat.le_of_ble_eq_true rfl) (Nat.le_of_ble_eq_true rfl)⟩
        · exact obg [12, 14, 17] [] true rfl (fun _ => rfl) rfl (fun _ _ _ h => nomatch h) fun D ρ w _ hs => L_callPV (V' := .bool true) (congrArg Value.bool (by simp)) (vs := [.agg ((vc s0.known) ++ [(.slice (aOf (aggS (ρ 130) 16)) ((s0.ents).length) (cOf (aggS (ρ 130) 16)) : Value), (.slice (aOf (aggS (ρ 130) 17)) ((s0.ticks).length) (cOf (aggS (ρ 130) 17)) : Value) ]).toArray, .agg ((vc s0.known) ++ [(.slice (aOf (aggS (ρ 133) 16)) ((s0.ents).length) (cOf (aggS (ρ 133) 16)) : Value), (.slice (aOf (aggS (ρ 133) 17)) ((s0.ticks).length) (cOf (aggS (ρ 133) 17)) : Value) ]).toArray]) (V := .bool (decide (s0.known = s0.known) && (decide (s0.ents = s0.ents) && decide (s0.ticks = s0.ticks)))) EN_31 rfl rfl (same8_ok _ s0 (aOf (aggS (ρ 130) 16)) (cOf (aggS (ρ 130) 16)) (aOf (aggS (ρ 130) 17)) (cOf (aggS (ρ 130) 17)) s0 (aOf (aggS (ρ 133) 16)) (cOf (aggS (ρ 133) 16)) (aOf (aggS (ρ 133) 17)) (cOf (aggS (ρ 133) 17)) (hs.rd 34 rfl) (hs.rd 35 rfl) (hs.rd 36 rfl) (hs.rd 37 rfl)) hs fun _ hs => ⟨rfl, hs⟩
        · exact ob [12, 18] [] rfl rfl fun D ρ w hs => L_pick (V := .bool true) rfl rfl ⟨rfl, hs⟩
        · exact ob [19] [] rfl rfl fun D ρ w hs => L_assign (V := .bool true) rfl ⟨rfl, hs⟩
        rintro ρ1 w70 ρ2 hρ hs
        replace hρ : ρ2 = upd (mix [116, 117, 118, 119, 120, 121, 122, 123, 124, 125, 126, 127, 128, 129, 130, 131, 132, 133, 134, 135, 4] ρ1 _) 4 (.bool true) := hρ
        replace hs : Own w no w70 [blk b1 ((vc v0) ++ (vc v1) ++ (vc v2)) 89, blk b6 (((vc s0.known) ++ [(.slice ae0 s0.ents.length ce0 : Value), (.slice at0 s0.ticks.length ct0 : Value) ]) ++ ((vc s1.known) ++ [(.slice ae1 s1.ents.length ce1 : Value), (.slice at1 s1.ticks.length ct1 : Value) ]) ++ ((vc s2.known) ++ [(.slice ae2 s2.ents.length ce2 : Value), (.slice at2 s2.ticks.length ct2 : Value) ])) 90, row (.slice ae0 s0.ents.length ce0) (s0.ents.map cec) 128 7, row (.slice at0 s0.ticks.length ct0) (s0.ticks.map lsc) 126 2, row (.slice ae1 s1.ents.length ce1) (s1.ents.map cec) 128 7, row (.slice at1 s1.ticks.length ct1) (s1.ticks.map lsc) 126 2, row (.slice ae2 s2.ents.length ce2) (s2.ents.map cec) 128 7, row (.slice at2 s2.ticks.length ct2) (s2.ticks.map lsc) 126 2, row (.slice x32.1.1 ((ab.ents).length) x32.1.2) (ab.ents.map cec) 128 7, row (.slice x32.2.1 ((ab.ticks).length) x32.2.2) (ab.ticks.map lsc) 126 2, blk b33 ((vc ab.known) ++ [(.slice x32.1.1 ((ab.ents).length) x32.1.2 : Value), (.slice x32.2.1 ((ab.ticks).length) x32.2.2 : Value) ]) 62, row (.slice x37.1.1 ((ab.ents).length) x37.1.2) (ab.ents.map cec) 128 7, row (.slice x37.2.1 ((ab.ticks).length) x37.2.2) (ab.ticks.map lsc) 126 2, blk b38 ((vc ab.known) ++ [(.slice x37.1.1 ((ab.ents).length) x37.1.2 : Value), (.slice x37.2.1 ((ab.ticks).length) x37.2.2 : Value) ]) 62, row (.slice x42.1.1 ((abc.ents).length) x42.1.2) (abc.ents.map cec) 128 7, row (.slice x42.2.1 ((abc.ticks).length) x42.2.2) (abc.ticks.map lsc) 126 2, blk b43 ((vc abc.known) ++ [(.slice x42.1.1 ((abc.ents).length) x42.1.2 : Value), (.slice x42.2.1 ((abc.ticks).length) x42.2.2 : Value) ]) 62, row (.slice x47.1.1 ((bc.ents).length) x47.1.2) (bc.ents.map cec) 128 7, row (.slice x47.2.1 ((bc.ticks).length) x47.2.2) (bc.ticks.map lsc) 126 2, blk b48 ((vc bc.known) ++ [(.slice x47.1.1 ((bc.ents).length) x47.1.2 : Value), (.slice x47.2.1 ((bc.ticks).length) x47.2.2 : Value) ]) 62, row (.slice x52.1.1 ((abc.ents).length) x52.1.2) (abc.ents.map cec) 128 7, row (.slice x52.2.1 ((abc.ticks).length) x52.2.2) (abc.ticks.map lsc) 126 2, blk b53 ((vc abc.known) ++ [(.slice x52.1.1 ((abc.ents).length) x52.1.2 : Value), (.slice x52.2.1 ((abc.ticks).length) x52.2.2 : Value) ]) 62, row (.slice x57.1.1 ((s0.ents).length) x57.1.2) (s0.ents.map cec) 128 7, row (.slice x57.2.1 ((s0.ticks).length) x57.2.2) (s0.ticks.map lsc) 126 2, blk b58 ((vc s0.known) ++ [(.slice x57.1.1 ((s0.ents).length) x57.1.2 : Value), (.slice x57.2.1 ((s0.ticks).length) x57.2.2 : Value) ]) 62, row (.slice (aOf (aggS (ρ1 117) 16)) ((ab.ents).length) (cOf (aggS (ρ1 117) 16))) (ab.ents.map cec) 134 7, row (.slice (aOf (aggS (ρ1 117) 17)) ((ab.ticks).length) (cOf (aggS (ρ1 117) 17))) (ab.ticks.map lsc) 135 2, row (.slice (aOf (aggS (ρ1 119) 16)) ((ab.ents).length) (cOf (aggS (ρ1 119) 16))) (ab.ents.map cec) 134 7, row (.slice (aOf (aggS (ρ1 119) 17)) ((ab.ticks).length) (cOf (aggS (ρ1 119) 17))) (ab.ticks.map lsc) 135 2, row (.slice (aOf (aggS (ρ1 123) 16)) ((abc.ents).length) (cOf (aggS (ρ1 123) 16))) (abc.ents.map cec) 134 7, row (.slice (aOf (aggS (ρ1 123) 17)) ((abc.ticks).length) (cOf (aggS (ρ1 123) 17))) (abc.ticks.map lsc) 135 2, row (.slice (aOf (aggS (ρ1 125) 16)) ((abc.ents).length) (cOf (aggS (ρ1 125) 16))) (abc.ents.map cec) 134 7, row (.slice (aOf (aggS (ρ1 125) 17)) ((abc.ticks).length) (cOf (aggS (ρ1 125) 17))) (abc.ticks.map lsc) 135 2, row (.slice (aOf (aggS (ρ1 130) 16)) ((s0.ents).length) (cOf (aggS (ρ1 130) 16))) (s0.ents.map cec) 134 7, row (.slice (aOf (aggS (ρ1 130) 17)) ((s0.ticks).length) (cOf (aggS (ρ1 130) 17))) (s0.ticks.map lsc) 135 2, row (.slice (aOf (aggS (ρ1 133) 16)) ((s0.ents).length) (cOf (aggS (ρ1 133) 16))) (s0.ents.map cec) 134 7, row (.slice (aOf (aggS (ρ1 133) 17)) ((s0.ticks).length) (cOf (aggS (ρ1 133) 17))) (s0.ticks.map lsc) 135 2] := hs
        generalize (aOf (aggS (ρ1 117) 16)) = na71 at hs
        generalize (cOf (aggS (ρ1 117) 16)) = nc72 at hs
        generalize (aOf (aggS (ρ1 117) 17)) = na73 at hs
        generalize (cOf (aggS (ρ1 117) 17)) = nc74 at hs
        generalize (aOf (aggS (ρ1 119) 16)) = na75 at hs
        generalize (cOf (aggS (ρ1 119) 16)) = nc76 at hs
        generalize (aOf (aggS (ρ1 119) 17)) = na77 at hs
        generalize (cOf (aggS (ρ1 119) 17)) = nc78 at hs
        generalize (aOf (aggS (ρ1 123) 16)) = na79 at hs
        generalize (cOf (aggS (ρ1 123) 16)) = nc80 at hs
        generalize (aOf (aggS (ρ1 123) 17)) = na81 at hs
        generalize (cOf (aggS (ρ1 123) 17)) = nc82 at hs
        generalize (aOf (aggS (ρ1 125) 16)) = na83 at hs
        generalize (cOf (aggS (ρ1 125) 16)) = nc84 at hs
        generalize (aOf (aggS (ρ1 125) 17)) = na85 at hs
        generalize (cOf (aggS (ρ1 125) 17)) = nc86 at hs
        generalize (aOf (aggS (ρ1 130) 16)) = na87 at hs
        generalize (cOf (aggS (ρ1 130) 16)) = nc88 at hs
        generalize (aOf (aggS (ρ1 130) 17)) = na89 at hs
        generalize (cOf (aggS (ρ1 130) 17)) = nc90 at hs
        generalize (aOf (aggS (ρ1 133) 16)) = na91 at hs
        generalize (cOf (aggS (ρ1 133) 16)) = nc92 at hs
        generalize (aOf (aggS (ρ1 133) 17)) = na93 at hs
        generalize (cOf (aggS (ρ1 133) 17)) = nc94 at hs
        subst hρ
        refine W_ret ?_
        refine ⟨_, res_one (V := .bool true) Try.results9 rfl, ?_⟩
        refine ⟨congrArg Ending.returned ?_, hs.take 0⟩
        rfl
end Tt
end Go.Proofs
namespace Go.Proofs.Ythbbcjimiemdgaa
open Go.RowKit Go.Vx
theorem Try.own : ownKnob Try.prog.godebug = none := by kernel_rfl
theorem Try.laidOut : laidOutB Try.prog = true := by kernel_rfl
theorem O53 : OpenT Try.prog 53 vc VecOk := O_vec Try.underlying53 Try.underlying51 (by kernel_rfl) (by kernel_rfl)
theorem O96 : OpenT Try.prog 96 dc DotOk := O_dot Try.underlying96 rfl rfl Try.underlying5 Try.underlying51 (by kernel_rfl) (by kernel_rfl) (by kernel_rfl)
theorem O98 : OpenT Try.prog 98 oc OpnOk := O_opn Try.underlying98 rfl rfl O96 O53 Try.underlying5 Try.underlying70 Try.underlying70 Try.underlying70 Try.underlying51 (by kernel_rfl) (by kernel_rfl)
theorem O89 : OpenT Try.prog 89 pv3 (fun p => VecOk p.1 ∧ VecOk p.2.1 ∧ VecOk p.2.2) := O_pv3 Try.underlying89 O53 (by kernel_rfl) (by kernel_rfl)
end Go.Proofs.Ythbbcjimiemdgaa
namespace Go.Vx
open Go.RowKit Go.Shelf Go.Sort Go.Proofs
theorem own_grow {w w' : World} {L : List Res} (h : Own w no w' L) : ∃ q os, w' = grow (w.drewN q) os := by
  refine ⟨w'.drawn - w.drawn, w'.heap.extract w.heap.size w'.heap.size, ?_⟩
  have hd : w.drawn + (w'.drawn - w.drawn) = w'.drawn := by have := h.tape.2; omega
  have hh : w.heap ++ w'.heap.extract w.heap.size w'.heap.size = w'.heap := by
    apply Array.ext_getElem?
    intro i
    by_cases hi : i < w.heap.size
    · rw [Array.getElem?_append_left hi, h.old i hi (fun h => h)]
    · rw [Array.getElem?_append_right (by omega)]
      have := h.size
      simp only [Array.getElem?_extract]
      split
      · congr 1; omega
      · rw [Array.getElem?_eq_none (by omega)]
  have h1 := h.os
  have h2 := h.tape.1
  have h3 := h.output
  cases w' with
  | mk heap tape drawn os output =>
    cases w with
    | mk heap0 tape0 drawn0 os0 output0 =>
      simp only at h1 h2 h3 hd hh
      subst h1; subst h2; subst h3
      simp [grow, World.drewN, hh, hd]
section
variable {P : Program} {ρ : Ren} {α : Type} [Inhabited α]
theorem flatK_at {enc : α → List Value} {k : Nat} {l : List α} (hk : ∀ x, (enc x).length = k) {j : Nat} (hj : j < l.length * k) : (l.map enc).flatten[j]? = some (flatK enc k l.toArray)[j]! := by
  have hk0 : 0 < k := by
    rcases Nat.eq_zero_or_pos k with h | h
    · subst h; simp at hj
    · exact h
  have hi : j / k < l.length := Nat.div_lt_of_lt_mul (by rw [Nat.mul_comm]; exact hj)
  have hm : j % k < k := Nat.mod_lt _ hk0
  have e1 : (l.map enc)[j / k]? = some (enc l[j / k]) := by simp [hi]
  have e2 : (enc l[j / k])[j % k]? = some (enc l[j / k])[j % k]! := by
    rw [List.getElem?_eq_getElem (by rw [hk]; exact hm), List.getElem!_eq_getElem?_getD, List.getElem?_eq_getElem (by rw [hk]; exact hm)]
    rfl
  have h := flat_at (l.map enc) k (len_map hk l) (j / k) (j % k) _ _ e1 e2
  rw [Nat.mul_comm, Nat.div_add_mod] at h
  rw [h, get_flatK enc k l.toArray j (by simpa using hj)]
  simp [hi]
theorem own_sorted {enc : α → List Value} {k : Nat} {w : World} {S : Nat → Prop} {g cap T n : Nat} {l m : List α} {os : Array Obj} (hk : ∀ x, (enc x).length = k) (h1 : ∀ x, ∀ v ∈ enc x, v.oneCell' = true)
    (hR : (row (.slice (some ⟨g, 0, none⟩) l.length cap) (l.map enc) T k).holds w S) (hlt : ∀ b, S b → b < w.heap.size) (hlen : m.length = l.length) :
    Own w S (sortWorldK enc k w g 0 n m.toArray os) [row (.slice (some ⟨g, 0, none⟩) l.length cap) (m.map enc) T k] := by
  obtain ⟨_, hown, hS⟩ := hR
  have hSg := hS g rfl
  have hgl := hlt g hSg
  rcases hown.2 with ⟨hv, _⟩ | ⟨g', cap', cur, hv, _, hg, hnc, hcm, hcs, htake⟩
  · cases hv
  · simp only [Value.slice.injEq, Option.some.injEq, Addr.mk.injEq, and_true] at hv
    obtain ⟨rfl, hn, rfl⟩ := hv
    simp only [List.length_map] at hnc htake hn
    have hX : ∀ c, c < w.heap.size → (sortWorldK enc k w g 0 n m.toArray os).heap[c]? = (w.heap.modify g (onCells (putCells id 0 (flatK enc k m.toArray))))[c]? := by
      intro c hc
      show ((w.heap.modify g (onCells (putCells id 0 (flatK enc k m.toArray)))) ++ os)[c]? = _
      rw [Array.getElem?_append_left (by simpa using hc)]
    have hXg : (sortWorldK enc k w g 0 n m.toArray os).heap[g]? = some (.cells (putCells id 0 (flatK enc k m.toArray) cur) T (0, 0)) := by
      rw [hX g hgl, Array.getElem?_modify, if_pos rfl, hg]; rfl
    have hXo : ∀ c, c < w.heap.size → c ≠ g → (sortWorldK enc k w g 0 n m.toArray os).heap[c]? = w.heap[c]? := by
      intro c hc hne
      rw [hX c hc, Array.getElem?_modify, if_neg (fun e => hne e.symm)]
    have hsz : (sortWorldK enc k w g 0 n m.toArray os).heap.size = w.heap.size + os.size := by
      show ((w.heap.modify g (onCells (putCells id 0 (flatK enc k m.toArray)))) ++ os).size = _
      simp
    refine ⟨rfl, ⟨rfl, Nat.le_add_right _ _⟩, rfl, by omega, fun b hb hm => hXo b hb (fun e => hm (e ▸ hSg)), fun j b => j = 0 ∧ b = g, fun j R hj => ?_, fun j b hb => by rw [hb.2]; omega, fun j j' b hb hb' => hb.1.trans hb'.1.symm, fun j b hb _ => by rw [hb.2]; exact hSg⟩
    cases j with
    | succ j => simp at hj
    | zero =>
      simp only [List.getElem?_cons_zero, Option.some.injEq] at hj
      subst hj
      refine ⟨⟨len_map hk m, one_map h1 m⟩, ⟨?_, .inr ⟨g, cap, _, by rw [List.length_map, hlen], Nat.zero_le _, hXg, by rw [List.length_map]; omega, hcm, by unfold putCells; simpa using hcs, ?_⟩⟩, fun g' hg' => by cases hg'; exact ⟨rfl, rfl⟩⟩
      · rw [flat_len _ (len_map hk m)]
      · apply List.ext_getElem?
        intro j
        rw [List.getElem?_take, List.length_map]
        by_cases hj : j < m.length * k
        · have hjc : j < cur.size := by
            rw [hcs]
            exact Nat.lt_of_lt_of_le hj (Nat.mul_le_mul_right _ (by omega))
          rw [if_pos hj, flatK_at hk hj, Array.getElem?_toList]
          unfold putCells
          rw [Array.getElem?_mapIdx, Array.getElem?_eq_getElem hjc]
          simp [hj]
        · rw [if_neg hj, List.getElem?_eq_none (by rw [flat_len _ (len_map hk m), List.length_map]; omega)]
theorem sortC_of (L : SlLaysF0.n6 P ρ) {k T g : Nat} {enc : α → List Value} {cf : α → α → Int} (aE : ∀ w, (isAgg (ρ.t 24)).run P w = .ok true w) (zE : ∀ w, (Go.sizeOf (ρ.t 24)).run P w = .ok k w) (hk : ∀ x, (enc x).length = k) (h1 : ∀ x, ∀ v ∈ enc x, v.oneCell' = true)
    (hO : SWO (ltOf cf)) (hg : En P g) (hc : ∀ w x y, Calls P g #[.agg (enc x).toArray, .agg (enc y).toArray] w fun e w' => e = .returned (.int .i64 (cf x y)) ∧ Own w no w' [])
    (hnil : ∀ w, Calls P (ρ.f 6) #[.slice none 0 0, .func (.func g) #[] #[]] w fun e w' => e = .returned (.tuple #[]) ∧ w' = w) :
    SortC P (ρ.f 6) g enc T k (fun l m => m.Perm l ∧ m.Pairwise fun x y => ¬ cf y x < 0) := by
  intro w S a c l hR hlt hsz
  have hR' := hR
  obtain ⟨_, hown, hS⟩ := hR
  rcases hown.2 with ⟨hv, hn⟩ | ⟨b, cap, cur, hv, _, hb, hnc, hcm, hcs, htake⟩
  · have hl : l = [] := by simpa using hn
    subst hl
    simp only [List.length_nil, Value.slice.injEq] at hv
    obtain ⟨rfl, _, rfl⟩ := hv
    exact (hnil w).mono fun e w' ⟨he, hw⟩ => ⟨⟨[], List.Perm.refl _, List.Pairwise.nil⟩, he, by subst hw; exact Own.lent hR' hlt, trivial⟩
  · simp only [Value.slice.injEq, List.length_map] at hv
    obtain ⟨rfl, _, rfl⟩ := hv
    have hbl := hlt b (hS b rfl)
    have hH : HoldsK enc k w b 0 l.toArray := by
      intro j hj
      have hj' : j < l.length * k := by simpa using hj
      rw [Nat.zero_add]
      refine ⟨?_, frozen_of_row w b _ _ _ hb⟩
      rw [cell_of_row w b j _ _ _ hb]
      have h2 := flatK_at (l := l) hk hj'
      rw [← htake, List.getElem?_take, List.length_map, if_pos hj'] at h2
      simpa using h2
    have hcmp : CmpLays P g #[] enc k cf b 0 l.toArray.size w := fun m os dk _ x y =>
      (hc _ x y).mono fun e w' ⟨he, ho⟩ => ⟨he, own_grow ho⟩
    refine (AnyQ.slices_SortFunc L k aE zE enc hk h1 cf hO g #[] b 0 c l.toArray w hg hcmp hH hbl (by simpa using hsz)).mono ?_
    rintro e w' ⟨he, d', n, os, hp, hs, rfl⟩
    obtain ⟨hp1, _, hp2⟩ := hp
    have hsz' : d'.toList.length = l.length := by simpa using hp1
    refine ⟨⟨d'.toList, ?_, ?_⟩, he, ?_, trivial⟩
    · have e1 : d'.extract 0 l.toArray.size = d' := by rw [← hp1]; simp
      have e2 : l.toArray.extract 0 l.toArray.size = l.toArray := by simp
      rw [e1, e2] at hp2
      simpa using hp2
    · rw [List.pairwise_iff_getElem]
      intro i j hi hj hij
      have h3 := hs i j (Nat.zero_le _) hij (by rw [← hp1]; simpa using hj)
      unfold ltOf at h3
      have e1 : d'[i]! = d'.toList[i] := by simp at hi; simp [hi]
      have e2 : d'[j]! = d'.toList[j] := by simp at hj; simp [hj]
      rw [e1, e2] at h3
      simpa using h3
    · have := own_sorted (n := n) (os := os) hk h1 hR' hlt hsz'
      simpa using this
end
end Go.Vx
namespace Go.Proofs
open Go.Shelf
def Try.sortE_ren : Go.Shelf.Ren := ⟨fun | 6 => 63 | 15 => 102 | 14 => 101 | 28 => 133 | 29 => 134 | 20 => 125 | 21 => 126 | 22 => 127 | 23 => 128 | 24 => 129 | 25 => 130 | 26 => 131 | 27 => 132 | 46 => 153 | 47 => 154 | 48 => 155 | 49 => 156 | 50 => 157 | 57 => 166 | n => n, fun | 22 => 59 | 24 => 128 | 25 => 132 | 3 => 3 | 39 => 170 | 0 => 0 | 53 => 51 | 55 => 92 | 4 => 4 | 46 => 191 | 45 => 190 | 50 => 139 | 5 => 5 | 9 => 9 | 66 => 210 | 70 => 214 | 76 => 220 | 77 => 221 | n => n, fun | n => n⟩
theorem Try.sortE : Go.Proofs.SlLaysF0.n6 Try.prog Try.sortE_ren := {
  mixed := by kernel_rfl
  f6 := ⟨Try.f63.name, by decide, Try.func63.trans (congrArg some (by kernel_rfl))⟩
  f14 := ⟨Try.f101.name, by decide, Try.func101.trans (congrArg some (by kernel_rfl))⟩
  f15 := Try.func102.trans (congrArg some (by kernel_rfl))
  f20 := ⟨Try.f125.name, by decide, Try.func125.trans (congrArg some (by kernel_rfl))⟩
  f21 := ⟨Try.f126.name, by decide, Try.func126.trans (congrArg some (by kernel_rfl))⟩
  f22 := ⟨Try.f127.name, by decide, Try.func127.trans (congrArg some (by kernel_rfl))⟩
  f23 := ⟨Try.f128.name, by decide, Try.func128.trans (congrArg some (by kernel_rfl))⟩
  f24 := ⟨Try.f129.name, by decide, Try.func129.trans (congrArg some (by kernel_rfl))⟩
  f25 := ⟨Try.f130.name, by decide, Try.func130.trans (congrArg some (by kernel_rfl))⟩
  f26 := ⟨Try.f131.name, by decide, Try.func131.trans (congrArg some (by kernel_rfl))⟩
  f27 := ⟨Try.f132.name, by decide, Try.func132.trans (congrArg some (by kernel_rfl))⟩
  f28 := Try.func133.trans (congrArg some (by kernel_rfl))
  f29 := Try.func134.trans (congrArg some (by kernel_rfl))
  f46 := ⟨Try.f153.name, by decide, Try.func153.trans (congrArg some (by kernel_rfl))⟩
  f47 := Try.func154.trans (congrArg some (by kernel_rfl))
  f48 := Try.func155.trans (congrArg some (by kernel_rfl))
  f49 := ⟨Try.f156.name, by decide, Try.func156.trans (congrArg some (by kernel_rfl))⟩
  f50 := ⟨Try.f157.name, by decide, Try.func157.trans (congrArg some (by kernel_rfl))⟩
  f57 := ⟨Try.f166.name, by decide, Try.func166.trans (congrArg some (by kernel_rfl))⟩
  t0 := Try.underlying0
  a0 := Try.isAgg0
  z0 := Try.sizeOf0
  v0 := Try.zeroValue0
  t3 := Try.underlying3
  a3 := Try.isAgg3
  z3 := Try.sizeOf3
  v3 := Try.zeroValue3
  t4 := Try.underlying4
  a4 := Try.isAgg4
  z4 := Try.sizeOf4
  v4 := Try.zeroValue4
  t5 := Try.underlying5
  a5 := Try.isAgg5
  z5 := Try.sizeOf5
  v5 := Try.zeroValue5
  t9 := Try.underlying9
  a9 := Try.isAgg9
  z9 := Try.sizeOf9
  v9 := Try.zeroValue9
  t22 := Try.underlying59
  a22 := Try.isAgg59
  z22 := Try.sizeOf59
  v22 := Try.zeroValue59
  t25 := Try.underlying132
  a25 := Try.isAgg132
  z25 := Try.sizeOf132
  v25 := Try.zeroValue132
  t39 := Try.underlying170
  a39 := Try.isAgg170
  z39 := Try.sizeOf170
  v39 := Try.zeroValue170
  t45 := Try.underlying190
  a45 := Try.isAgg190
  z45 := Try.sizeOf190
  v45 := Try.zeroValue190
  t46 := Try.underlying191
  a46 := Try.isAgg191
  z46 := Try.sizeOf191
  v46 := Try.zeroValue191
  t50 := Try.underlying139
  a50 := Try.isAgg139
  z50 := Try.sizeOf139
  v50 := Try.zeroValue139
  t53 := Try.underlying51
  a53 := Try.isAgg51
  z53 := Try.sizeOf51
  v53 := Try.zeroValue51
  t55 := Try.underlying92
  a55 := Try.isAgg92
  z55 := Try.sizeOf92
  v55 := Try.zeroValue92
  t66 := Try.underlying210
  a66 := Try.isAgg210
  z66 := Try.sizeOf210
  v66 := Try.zeroValue210
  t70 := Try.underlying214
  a70 := Try.isAgg214
  z70 := Try.sizeOf214
  v70 := Try.zeroValue214
  t76 := Try.underlying220
  a76 := Try.isAgg220
  z76 := Try.sizeOf220
  v76 := Try.zeroValue220
  t77 := Try.underlying221
  a77 := Try.isAgg221
  z77 := Try.sizeOf221
  v77 := Try.zeroValue221 }
end Go.Proofs
namespace Go.Proofs.Ythbbcjimiemdgaa
open Go.Vx Go.Sort Go.Proofs
theorem swoE : SWO (ltOf placeI) where
  irrefl x := by unfold ltOf; rw [decide_eq_false_iff_not, place_lt, ahead_irrefl]; decide
  trans x y z h1 h2 := by unfold ltOf at *; rw [decide_eq_true_iff, place_lt] at *; exact ahead_trans h1 h2
  ntrans x y z h1 h2 := by unfold ltOf at *; rw [decide_eq_false_iff_not, place_lt, ahead_iff] at *; omega
theorem sortsE : SortC Try.prog 63 64 cec 128 7 srtE :=
  sortC_of (ρ := Try.sortE_ren) (k := 7) (T := 128) Try.sortE Try.isAgg128 Try.sizeOf128 (fun _ => rfl) cec_one swoE Try.call64 (fun w x y => Tt.place_ok w x y) (fun w => AnyF.slices_SortFunc_none Try.sortE none 0 _ w)
end Go.Proofs.Ythbbcjimiemdgaa
