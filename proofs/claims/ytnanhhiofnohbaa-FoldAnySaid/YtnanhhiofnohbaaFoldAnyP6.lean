/- A part of a proof: what functions of the program compute, and plain facts on that. -/
import Derived.Test.YtnanhhiofnohbaaFoldAnyP5
import Derived.Shelf.SlLaysF0
import Derived.Ground.SlsfProg
import Derived.Test.YtnanhhiofnohbaaProg
import Derived.KernelRfl
set_option linter.unusedVariables false
set_option linter.unusedSimpArgs false
namespace Go.Proofs
open Go Go.Vx Go.RowKit
open Tt
namespace Tf
theorem S1_61 : T1 Try.prog 61 := ⟨Try.sizeOf61, Try.isAgg61⟩
theorem SA_63 : TA Try.prog 63 4 := ⟨Try.sizeOf63, Try.isAgg63⟩
set_option maxRecDepth 20000 in
theorem BT_63 : Bt Try.prog 63 [(0, 1), (1, 1), (2, 1), (3, 1)] ([.int .u16 0, .slice none 0 0, .bool false, .int .u32 0]) := Bt_struct Try.type63 rfl rfl Try.underlying63 (by kernel_rfl)
set_option maxRecDepth 20000 in
theorem BT_67 : Bt Try.prog 67 [(0, 1), (1, 1)] (lc (⟨0, 0⟩ : Line)) := Bt_struct Try.type67 rfl rfl Try.underlying67 (by kernel_rfl)
set_option maxRecDepth 20000 in
theorem EL_61 : El Try.prog 61 67 2 8 := ⟨Try.underlying61, _, _, Try.type67, rfl, rfl, rfl, rfl, by decide⟩
theorem EN_55 : En Try.prog 55 := Try.call55
theorem EN_57 : En Try.prog 57 := Try.call57
theorem FA_59_5 : FA Try.prog 59 5 6 := fun b o w => by simp [Instr.fieldAt, Instr.sureAddr, fieldPlace, add_eq]
theorem FA_63_1 : FA Try.prog 63 1 1 := fun b o w => by simp [Instr.fieldAt, Instr.sureAddr, fieldPlace, add_eq]
theorem FA_63_2 : FA Try.prog 63 2 2 := fun b o w => by simp [Instr.fieldAt, Instr.sureAddr, fieldPlace, add_eq]
theorem FA_63_3 : FA Try.prog 63 3 3 := fun b o w => by simp [Instr.fieldAt, Instr.sureAddr, fieldPlace, add_eq]
theorem UD_72 : Ud Try.prog 72 (.slice 57) := Try.runUnderlying72
theorem ZV_63 : Zv Try.prog 63 (.agg ([.int .u16 0, .slice none 0 0, .bool false, .int .u32 0]).toArray) := Try.zeroValue63
set_option maxRecDepth 20000 in
set_option maxHeartbeats 4000000 in
theorem fView_ok (w : World) (a : Option Addr) (c : Nat) (l : List Opn) (cart : Int) (hl : ∀ o ∈ l, OpnOk o) (hlen : l.length ≤ 1000) (hr : Rd w (.slice a l.length c) 23 (l.map oc)) (hsortU : SortI Try.prog 76 .u16 57) : Calls Try.prog 34 #[.slice a l.length c, .int .u16 cart] w (fun e w' => ∃ x : Option Addr × Nat, e = .returned (.agg [.int .u16 (viewP l cart).cart, .slice x.1 (viewP l cart).lines.length x.2, .bool (viewP l cart).out, .int .u32 (viewP l cart).tick].toArray) ∧ Own w no w' [row (.slice x.1 (viewP l cart).lines.length x.2) ((viewP l cart).lines.map lc) 67 2] ∧ True) := by
  refine calls_of_Wn (n := 78) Try.func34 rfl Try.ntmps34 rfl ?_
  have hs := Own.start w
  have hn := hr.sml
  refine W_seq ?_
  refine W_region ?_
  refine RW_op (L_alloc (cs := [.int .u16 0, .slice none 0 0, .bool false, .int .u32 0]) ZV_63 rfl hs fun b1 w2 hs => ?_)
  refine RW_nil ?_
  refine W_seq ?_
  refine W_region ?_
  refine RW_op (L_move (V := .int .u16 cart) rfl ?_)
  refine RW_op (L_build (vs := [(0, .int .u16 cart)]) (cs := [.int .u16 cart, .slice none 0 0, .bool false, .int .u32 0]) BT_63 (rfl) rfl ?_)
  refine RW_op (L_alloc (cs := [.int .u16 0, .slice none 0 0, .bool false, .int .u32 0]) ZV_63 rfl hs fun b3 w4 hs => ?_)
  refine RW_op (L_st (V := .agg ([.int .u16 cart, .slice none 0 0, .bool false, .int .u32 0]).toArray) (vs := [.int .u16 cart, .slice none 0 0, .bool false, .int .u32 0]) (cs' := [.int .u16 cart, .slice none 0 0, .bool false, .int .u32 0]) SA_63.1 hs 1 rfl rfl rfl rfl rfl (Nat.le_of_ble_eq_true rfl) (one_cons rfl (one_cons rfl (one_cons rfl (one_cons rfl one_nil)))) (spl_whole rfl) fun w5 hs => ?_)
  refine RW_nil ?_
  refine W_seq ?_
  refine W_region ?_
  refine RW_op (L_makeMap rfl hs (Value.int .u16) tv fun mr6 w7 hs => ?_)
  replace hs : Own w no w7 [blk b1 [.int .u16 0, .slice none 0 0, .bool false, .int .u32 0] 63, blk b3 [.int .u16 cart, .slice none 0 0, .bool false, .int .u32 0] 63, mapR mr6 (Value.int .u16) tv []] := hs
  refine RW_op (L_assign (V := .map (some mr6)) rfl ?_)
  refine RW_nil ?_
  refine W_seq ?_
  refine W_seq ?_
  refine W_region ?_
  refine RW_op (L_move (V := .slice a l.length c) rfl ?_)
  refine RW_op (L_lenR (n := l.length) UD_56 (Rd.own' hr hs) (by simp) rfl ?_)
  refine RW_op (L_move (V := .int .i64 0) rfl ?_)
  refine RW_nil ?_
  refine W_block ?_
  refine W_loopI (fun ρ m ρ' w' => ∃ (ρo : Env) (k : Nat) (s : VSt), ρ' = upd (mix [8, 17, 18, 19, 20, 21, 22, 23, 24, 25, 26, 27, 28, 29, 30, 31, 32, 33, 34, 35, 36, 37, 38, 39, 40, 41, 42, 43, 44, 45, 46, 47, 48, 49, 50] ρo ρ) 17 (.int .i64 (k : Int)) ∧ (k ≤ l.length) ∧ (s = vst l cart k) ∧ m = l.length - k ∧ Own w no w' [blk b1 [.int .u16 0, .slice none 0 0, .bool false, .int .u32 0] 63, blk b3 [.int .u16 cart, .slice none 0 0, .bool s.out, .int .u32 s.tick] 63, mapR mr6 (Value.int .u16) tv s.items]) ?_ ?_
  · exact ⟨_, _, 0, ⟨0, false, []⟩, upd_of (mix_of (ds := [8, 17, 18, 19, 20, 21, 22, 23, 24, 25, 26, 27, 28, 29, 30, 31, 32, 33, 34, 35, 36, 37, 38, 39, 40, 41, 42, 43, 44, 45, 46, 47, 48, 49, 50]) (Agr.refl _ _)) rfl, (by omega), rfl, rfl, hs⟩
  · rintro m ρ' w8 ⟨ρo, k, s, rfl, hk, hs1, rfl, hs⟩
    refine W_seq ?_
    refine W_region ?_
    refine RW_op (L_lss rfl rfl ?_)
    refine RW_nil ?_
    refine W_seq ?_
    refine W_cond (t := decide ((k : Int) < ((l.length : Nat) : Int))) rfl (fun c9 => ?_) (fun c9 => ?_)
    ·
      replace c9 := of_decide_eq_true c9
      refine W_skip ?_
      refine W_seq ?_
      refine W_block ?_
      refine W_seq ?_
      refine W_region ?_
      refine RW_op (L_ixR UD_56 SA_59.1 (Rd.own' hr hs) rfl rfl (by omega) (by rw [List.length_map]; omega) ?_)
      refine RW_op (L_ldRA (j := 0) (vs := oc (gd l k)) k SA_59 (Rd.own' hr hs) (gd_at (by omega)) rfl rfl rfl (by omega) ?_)
      refine RW_op (L_alloc (cs := oc (⟨(⟨0, 0⟩ : Dot), 0, 0, 0, 0, 0, vzero⟩ : Opn)) ZV_59 rfl hs fun b10 w11 hs => ?_)
      refine RW_op (L_st (V := .agg (oc (gd l k)).toArray) (vs := oc (gd l k)) (cs' := oc (gd l k)) SA_59.1 hs 3 rfl rfl rfl rfl rfl (Nat.le_of_ble_eq_true rfl) (oc_one _) (spl_whole rfl) fun w12 hs => ?_)
      refine RW_nil ?_
      refine W_seq ?_
      refine W_seq ?_
      have hok := hl _ (gd_mem (l := l) (i := k) (by omega))
      have hdk := hok.1
      refine W_region ?_
      refine RW_op (L_fieldAddr FA_59_2 rfl ?_)
      refine RW_op (L_ld (V := .int .u16 ((gd l k).cart)) S1_57 hs 3 rfl rfl rfl ?_)
      refine RW_op (L_move (V := .int .u16 cart) rfl ?_)
      refine RW_op (L_neq rfl rfl ?_)
      refine RW_nil ?_
      refine W_cond (t := !decide ((gd l k).cart = cart)) rfl (fun c13 => ?_) (fun c13 => ?_)
      ·
        replace c13 := not_t c13
        replace c13 := of_decide_eq_false c13
        refine W_exit ?_
        refine W_region ?_
        refine RW_op (L_add (a := (k : Int)) (b := 1) (c := (k : Int) + 1) rfl rfl (wr_i64 (by omega) (by omega)) ?_)
        refine RW_op (L_move (V := .int .i64 ((k : Int) + 1)) rfl ?_)
        refine RW_nil ?_
        refine ⟨_, ?_, _, k + 1, s, upd_of (mix_of (ds := [8, 17, 18, 19, 20, 21, 22, 23, 24, 25, 26, 27, 28, 29, 30, 31, 32, 33, 34, 35, 36, 37, 38, 39, 40, 41, 42, 43, 44, 45, 46, 47, 48, 49, 50]) (by repeat (first | exact Agr.refl _ _ | refine Agr.upd ?_ rfl | refine Agr.mix ?_ rfl))) rfl, (by omega), (vs_skip hs1 (by omega) c13), rfl, hs.take 3⟩
        omega
      ·
        replace c13 := not_f c13
        replace c13 := of_decide_eq_true c13
        refine W_skip ?_
        refine W_seq ?_
        refine W_region ?_
        refine RW_op (L_fieldAddr FA_63_3 rfl ?_)
        refine RW_op (L_ld (V := .int .u32 s.tick) S1_22 hs 1 rfl rfl rfl ?_)
        refine RW_op (L_fieldAddr FA_59_5 rfl ?_)
        refine RW_op (L_ld (V := .int .u32 ((gd l k).tick)) S1_22 hs 3 rfl rfl rfl ?_)
        refine RW_op (L_max rfl rfl ?_)
        refine RW_op (L_fieldAddr FA_63_3 rfl ?_)
        refine RW_op (L_st1 (V := .int .u32 (max s.tick ((gd l k).tick))) (cs' := [.int .u16 cart, .slice none 0 0, .bool s.out, .int .u32 (max s.tick ((gd l k).tick))]) S1_22 hs 1 rfl rfl rfl rfl (Nat.le_of_ble_eq_true rfl) rfl fun w14 hs => ?_)
        refine RW_nil ?_
        refine W_block ?_
        refine W_seq ?_
        refine W_region ?_
        refine RW_op (L_move (V := .slice a l.length c) rfl ?_)
        refine RW_op (L_ldW (cs := oc (gd l k)) SA_59 hs 3 rfl rfl rfl ?_)
        refine RW_op (L_callP (vs := [.slice a l.length c, .agg (oc (gd l k)).toArray]) (V := .bool (liveB l (gd l k))) EN_54 rfl rfl ?hc hs fun w15 hs => ?_)
        case hc => exact (fLive_ok _ a c l (gd l k) hdk (Rd.own' hr hs))
        refine RW_op (L_not rfl ?_)
        refine RW_op (L_assign (V := .bool (!(liveB l (gd l k)))) rfl ?_)
        refine RW_nil ?_
        refine W_cond (t := !(liveB l (gd l k))) rfl (fun c16 => ?_) (fun c16 => ?_)
        ·
          replace c16 := not_t c16
          refine W_skip ?_
          refine W_region ?_
          refine RW_op (L_add (a := (k : Int)) (b := 1) (c := (k : Int) + 1) rfl rfl (wr_i64 (by omega) (by omega)) ?_)
          refine RW_op (L_move (V := .int .i64 ((k : Int) + 1)) rfl ?_)
          refine RW_nil ?_
          refine ⟨_, ?_, _, k + 1, (⟨max s.tick ((gd l k).tick), s.out, s.items⟩ : VSt), upd_of (mix_of (ds := [8, 17, 18, 19, 20, 21, 22, 23, 24, 25, 26, 27, 28, 29, 30, 31, 32, 33, 34, 35, 36, 37, 38, 39, 40, 41, 42, 43, 44, 45, 46, 47, 48, 49, 50]) (by repeat (first | exact Agr.refl _ _ | refine Agr.upd ?_ rfl | refine Agr.mix ?_ rfl))) rfl, (by omega), (vs_dead hs1 (by omega) c13 c16), rfl, hs.take 3⟩
          omega
        ·
          replace c16 := not_f c16
          refine W_seq ?_
          refine W_region ?_
          refine RW_op (L_fieldAddr FA_59_1 rfl ?_)
          refine RW_op (L_ld (V := .int .u8 ((gd l k).kind)) S1_5 hs 3 rfl rfl rfl ?_)
          refine RW_op (L_eql rfl rfl ?_)
          refine RW_op (L_assign (V := .bool (decide ((gd l k).kind = 4))) rfl ?_)
          refine RW_nil ?_
          refine W_cond (t := decide ((gd l k).kind = 4)) rfl (fun c17 => ?_) (fun c17 => ?_)
          ·
            replace c17 := of_decide_eq_true c17
            refine W_region ?_
            refine RW_op (L_fieldAddr FA_63_2 rfl ?_)
            refine RW_op (L_st1 (V := .bool true) (cs' := [.int .u16 cart, .slice none 0 0, .bool true, .int .u32 (max s.tick ((gd l k).tick))]) S1_4 hs 1 rfl rfl rfl rfl (Nat.le_of_ble_eq_true rfl) rfl fun w18 hs => ?_)
            replace hs : Own w no w18 [blk b1 [.int .u16 0, .slice none 0 0, .bool false, .int .u32 0] 63, blk b3 [.int .u16 cart, .slice none 0 0, .bool true, .int .u32 (max s.tick ((gd l k).tick))] 63, mapR mr6 (Value.int .u16) tv s.items, blk b10 (oc (gd l k)) 59] := hs
            refine RW_nil ?_
            refine W_region ?_
            refine RW_op (L_add (a := (k : Int)) (b := 1) (c := (k : Int) + 1) rfl rfl (wr_i64 (by omega) (by omega)) ?_)
            refine RW_op (L_move (V := .int .i64 ((k : Int) + 1)) rfl ?_)
            refine RW_nil ?_
            refine ⟨_, ?_, _, k + 1, (⟨max s.tick ((gd l k).tick), true, s.items⟩ : VSt), upd_of (mix_of (ds := [8, 17, 18, 19, 20, 21, 22, 23, 24, 25, 26, 27, 28, 29, 30, 31, 32, 33, 34, 35, 36, 37, 38, 39, 40, 41, 42, 43, 44, 45, 46, 47, 48, 49, 50]) (by repeat (first | exact Agr.refl _ _ | refine Agr.upd ?_ rfl | refine Agr.mix ?_ rfl))) rfl, (by omega), (vs_out hs1 (by omega) c13 c16 c17), rfl, hs.take 3⟩
            omega
          ·
            replace c17 := of_decide_eq_false c17
            have hctx : VecOk ((mget (gd l k).item s.items).getD tz).set.ctx := by rw [hs1]; exact vst_ctx hl k (by omega) _
            replace hs := hs.drew
            refine W_draw2 HM [31, 32, 33, 34, 35, 36, 37, 38, 39] [[], [], [1], [], [], [4], [3, 5], [], [6, 7], [0, 2, 8, 8, 0, 1, 2, 3, 4, 5, 6, 7, 8]] (fun D ρ wx => Own w no wx [blk b1 [.int .u16 0, .slice none 0 0, .bool false, .int .u32 0] 63, blk b3 [.int .u16 cart, .slice none 0 0, .bool s.out, .int .u32 (max s.tick ((gd l k).tick))] 63, cond (D 9) (mapR mr6 (Value.int .u16) tv (mput ((gd l k).item) (takeT ((mget ((gd l k).item) s.items).getD tz) (gd l k)) s.items)) (mapR mr6 (Value.int .u16) tv s.items), blk b10 (oc (gd l k)) 59] ∧ (D 0 = true → ρ 31 = .map (some mr6)) ∧ (D 1 = true → ρ 32 = .pointer (some ⟨b10, 0 + 4, none⟩)) ∧ (D 2 = true → ρ 33 = .int .u16 ((gd l k).item)) ∧ (D 3 = true → ρ 34 = .map (some mr6)) ∧ (D 4 = true → ρ 35 = .pointer (some ⟨b10, 0 + 4, none⟩)) ∧ (D 5 = true → ρ 36 = .int .u16 ((gd l k).item)) ∧ (D 6 = true → ρ 37 = .agg (talc ((mget ((gd l k).item) s.items).getD tz)).toArray) ∧ (D 7 = true → ρ 38 = .agg (oc (gd l k)).toArray) ∧ (D 8 = true → ρ 39 = .agg (talc (takeT ((mget ((gd l k).item) s.items).getD tz) (gd l k))).toArray) ∧ (True)) rfl rfl rfl ⟨hs, fun h => absurd h Bool.false_ne_true, fun h => absurd h Bool.false_ne_true, fun h => absurd h Bool.false_ne_true, fun h => absurd h Bool.false_ne_true, fun h => absurd h Bool.false_ne_true, fun h => absurd h Bool.false_ne_true, fun h => absurd h Bool.false_ne_true, fun h => absurd h Bool.false_ne_true, fun h => absurd h Bool.false_ne_true, trivial⟩ ⟨?_, ?_, ?_, ?_, ?_, ?_, ?_, ?_, ?_, ?_, trivial⟩ ?_
            · rintro D ρ wx hD hd hdc hf ⟨hs, f0, f1, f2, f3, f4, f5, f6, f7, f8, f9⟩
              have r6 : ρ 6 = .map (some mr6) := outD hf 6 rfl
              exact .inl ⟨rfl, L_move (V := .map (some mr6)) r6 ⟨hs, fun _ => rfl, f1, f2, f3, f4, f5, f6, f7, f8, f9⟩⟩
            · rintro D ρ wx hD hd hdc hf ⟨hs, f0, f1, f2, f3, f4, f5, f6, f7, f8, f9⟩
              have r8 : ρ 8 = .pointer (some ⟨b10, 0, none⟩) := outD hf 8 rfl
              exact .inl ⟨rfl, L_fieldAddr FA_59_3 r8 ⟨hs, f0, fun _ => rfl, f2, f3, f4, f5, f6, f7, f8, f9⟩⟩
            · rintro D ρ wx hD hd hdc hf ⟨hs, f0, f1, f2, f3, f4, f5, f6, f7, f8, f9⟩
              have g1 := f1 (doneD hd 1 rfl)
              exact .inl ⟨rfl, L_ld (V := .int .u16 ((gd l k).item)) S1_57 hs 3 rfl g1 rfl ⟨hs, f0, f1, fun _ => rfl, f3, f4, f5, f6, f7, f8, f9⟩⟩
            · rintro D ρ wx hD hd hdc hf ⟨hs, f0, f1, f2, f3, f4, f5, f6, f7, f8, f9⟩
              have r6 : ρ 6 = .map (some mr6) := outD hf 6 rfl
              exact .inl ⟨rfl, L_move (V := .map (some mr6)) r6 ⟨hs, f0, f1, f2, fun _ => rfl, f4, f5, f6, f7, f8, f9⟩⟩
            · rintro D ρ wx hD hd hdc hf ⟨hs, f0, f1, f2, f3, f4, f5, f6, f7, f8, f9⟩
              have r8 : ρ 8 = .pointer (some ⟨b10, 0, none⟩) := outD hf 8 rfl
              exact .inl ⟨rfl, L_fieldAddr FA_59_3 r8 ⟨hs, f0, f1, f2, f3, fun _ => rfl, f5, f6, f7, f8, f9⟩⟩
            · rintro D ρ wx hD hd hdc hf ⟨hs, f0, f1, f2, f3, f4, f5, f6, f7, f8, f9⟩
              have g4 := f4 (doneD hd 4 rfl)
              exact .inl ⟨rfl, L_ld (V := .int .u16 ((gd l k).item)) S1_57 hs 3 rfl g4 rfl ⟨hs, f0, f1, f2, f3, f4, fun _ => rfl, f6, f7, f8, f9⟩⟩
            · rintro D ρ wx hD hd hdc hf ⟨hs, f0, f1, f2, f3, f4, f5, f6, f7, f8, f9⟩
              have g3 := f3 (doneD hd 3 rfl)
              have g5 := f5 (doneD hd 5 rfl)
              have d9 : D 9 = false := (notYetD hdc (j := 9) rfl rfl hD)
              have hs0 := hs; rw [d9] at hs0
              exact .inl ⟨rfl, L_lookupV (k := (gd l k).item) (z := tz) UD_92 KO_57 ZV_94 (hs0.mapf 2 rfl) g3 g5 ⟨hs, f0, f1, f2, f3, f4, f5, fun _ => rfl, f7, f8, f9⟩⟩
            · rintro D ρ wx hD hd hdc hf ⟨hs, f0, f1, f2, f3, f4, f5, f6, f7, f8, f9⟩
              have r8 : ρ 8 = .pointer (some ⟨b10, 0, none⟩) := outD hf 8 rfl
              exact .inl ⟨rfl, L_ldW (cs := oc (gd l k)) SA_59 hs 3 rfl r8 rfl ⟨hs, f0, f1, f2, f3, f4, f5, f6, fun _ => rfl, f8, f9⟩⟩
            · rintro D ρ wx hD hd hdc hf ⟨hs, f0, f1, f2, f3, f4, f5, f6, f7, f8, f9⟩
              have g6 := f6 (doneD hd 6 rfl)
              have g7 := f7 (doneD hd 7 rfl)
              exact .inl ⟨rfl, L_callP (vs := [.agg (talc ((mget ((gd l k).item) s.items).getD tz)).toArray, .agg (oc (gd l k)).toArray]) (V := .agg (talc (takeT ((mget ((gd l k).item) s.items).getD tz) (gd l k))).toArray) EN_55 rfl (mapc g6 (mapc g7 rfl)) (fTake_ok _ ((mget ((gd l k).item) s.items).getD tz) (gd l k) (by assumption) (by assumption)) hs fun _ hs0 => ⟨hs0, f0, f1, f2, f3, f4, f5, f6, f7, fun _ => rfl, f9⟩⟩
            · rintro D ρ wx hD hd hdc hf ⟨hs, f0, f1, f2, f3, f4, f5, f6, f7, f8, f9⟩
              have g0 := f0 (doneD hd 0 rfl)
              have g2 := f2 (doneD hd 2 rfl)
              have g8 := f8 (doneD hd 8 rfl)
              have d9 : D 9 = false := hD
              have hs0 := hs; rw [d9] at hs0
              refine .inl ⟨rfl, L_mapSet (k := (gd l k).item) (v := takeT ((mget ((gd l k).item) s.items).getD tz) (gd l k)) UD_92 KO_57 hs0 2 rfl g0 g2 g8 fun _ hs0 => ⟨?_, f0, f1, f2, f3, f4, f5, f6, f7, f8, trivial⟩⟩
              exact hs0
            · rintro ρ1 w1 D hD hf ⟨hs, f0, f1, f2, f3, f4, f5, f6, f7, f8, f9⟩
              rw [hD 9 rfl] at hs
              clear f0 f1 f2 f3 f4 f5 f6 f7 f8 f9
              obtain ⟨ρ2, hρ⟩ : ∃ ρ2, ρ1 = mix [31, 32, 33, 34, 35, 36, 37, 38, 39] ρ2 _ := ⟨ρ1, mix_of (ds := [31, 32, 33, 34, 35, 36, 37, 38, 39]) hf⟩
              clear hf hD
              subst hρ
              refine W_region ?_
              refine RW_op (L_add (a := (k : Int)) (b := 1) (c := (k : Int) + 1) rfl rfl (wr_i64 (by omega) (by omega)) ?_)
              refine RW_op (L_move (V := .int .i64 ((k : Int) + 1)) rfl ?_)
              refine RW_nil ?_
              refine ⟨_, ?_, _, k + 1, (⟨max s.tick ((gd l k).tick), s.out, mput ((gd l k).item) (takeT ((mget ((gd l k).item) s.items).getD tz) (gd l k)) s.items⟩ : VSt), upd_of (mix_of (ds := [8, 17, 18, 19, 20, 21, 22, 23, 24, 25, 26, 27, 28, 29, 30, 31, 32, 33, 34, 35, 36, 37, 38, 39, 40, 41, 42, 43, 44, 45, 46, 47, 48, 49, 50]) (by repeat (first | exact Agr.refl _ _ | refine Agr.upd ?_ rfl | refine Agr.mix ?_ rfl))) rfl, (by omega), (vs_take hs1 (by omega) c13 c16 c17), rfl, hs.take 3⟩
              omega
    ·
      replace c9 := of_decide_eq_false c9
      refine W_exit ?_
      refine W_seq ?_
      refine W_seq ?_
      have hitl : s.items.length ≤ 1000 := by rw [hs1]; exact Nat.le_trans (vst_items k hk) (by omega)
      refine W_region ?_
      refine RW_op (L_move (V := .map (some mr6)) rfl ?_)
      refine RW_op (L_callX (vs := [.map (some mr6)]) (V := fun x : Nat => .func (.func 77) #[] #[.pointer (some ⟨x, 0, none⟩)]) EN_57 rfl rfl (keysT_ok _ mr6) hs fun x22 w23 hs _ => ?_)
      refine RW_op (L_callX (vs := [.func (.func 77) #[] #[.pointer (some ⟨x22, 0, none⟩)]]) (V := fun x : Option Addr × Nat => .slice x.1 (sortI (s.items.map (·.1))).length x.2) (Lo := fun x => [row (.slice x.1 (sortI (s.items.map (·.1))).length x.2) ((sortI (s.items.map (·.1))).map (ic .u16)) 57 1]) (F := fun _ _ => True) EN_56 rfl rfl ?hc hs fun x24 w25 hs hF26 => ?_)
      case hc => exact ((sortedU_ok _ 77 1000000 [.pointer (some ⟨x22, 0, none⟩)] EN_77 (by decide) (fun xs => xs.Perm ((s.items.map (·.1)).map (Value.int .u16))) (givesT (hs.cellsf 3 rfl) (hs.mapf 2 rfl) (by omega)) hsortU).mono fun e w' ⟨y, he, ho, m0, hm0, hy⟩ => by
      have hy2 : y.1 = sortI (s.items.map (·.1)) := by rw [hy]; exact sorted_of hm0
      rw [hy2] at he ho
      exact ⟨(y.2.1, y.2.2), he, ho, trivial⟩)
      refine RW_op (L_lenR (n := (sortI (s.items.map (·.1))).length) UD_72 (hs.rd 4 rfl) (by simp) rfl ?_)
      refine RW_op (L_move (V := .int .i64 0) rfl ?_)
      refine RW_nil ?_
      refine W_block ?_
      replace hs := hs.more (row (.slice none 0 0) (List.map lc []) 67 2) (row_nil _ _ _ _)
      have hksl : (sortI (s.items.map (·.1))).length ≤ 1000 := by rw [sortI_len, List.length_map]; omega
      refine W_loopI (fun ρ m ρ' w' => ∃ (ρo : Env) (i2 : Nat) (a1 : Option Addr) (c1 : Nat) (out : List Line), ρ' = upd (mix [10, 11, 55, 56, 57, 58, 59, 60, 61, 62, 63, 64, 65, 66, 67, 68, 69, 70, 71, 72, 73, 74, 75, 76] ρo ρ) 55 (.int .i64 (i2 : Int)) ∧ (i2 ≤ (sortI (s.items.map (·.1))).length) ∧ (out.length ≤ i2) ∧ (out = ((sortI (s.items.map (·.1))).take i2).map (lineOf s.items)) ∧ m = (sortI (s.items.map (·.1))).length - i2 ∧ Own w no w' [blk b1 [.int .u16 0, .slice none 0 0, .bool false, .int .u32 0] 63, blk b3 [.int .u16 cart, .slice a1 out.length c1, .bool s.out, .int .u32 s.tick] 63, mapR mr6 (Value.int .u16) tv s.items, blk x22 [.map (some mr6)] 92, row (.slice x24.1 ((sortI (s.items.map (·.1))).length) x24.2) ((sortI (s.items.map (·.1))).map (ic .u16)) 57 1, row (.slice a1 out.length c1) (out.map lc) 67 2]) ?_ ?_
      · exact ⟨_, _, 0, none, 0, [], upd_of (mix_of (ds := [10, 11, 55, 56, 57, 58, 59, 60, 61, 62, 63, 64, 65, 66, 67, 68, 69, 70, 71, 72, 73, 74, 75, 76]) (Agr.refl _ _)) rfl, (by omega), (Nat.le_refl _), rfl, rfl, hs⟩
      · rintro m ρ' w27 ⟨ρo, i2, a1, c1, out, rfl, hi2, hol, hout, rfl, hs⟩
        refine W_seq ?_
        refine W_region ?_
        refine RW_op (L_lss rfl rfl ?_)
        refine RW_nil ?_
        refine W_seq ?_
        refine W_cond (t := decide ((i2 : Int) < (((sortI (s.items.map (·.1))).length : Nat) : Int))) rfl (fun c28 => ?_) (fun c28 => ?_)
        ·
          replace c28 := of_decide_eq_true c28
          refine W_skip ?_
          refine W_seq ?_
          refine W_block ?_
          refine W_seq ?_
          refine W_region ?_
          refine RW_op (L_ixR UD_72 S1_57.1 (hs.rd 4 rfl) rfl rfl (by omega) (by rw [List.length_map]; omega) ?_)
          refine RW_op (L_ldR (j := 0) (V := .int .u16 (gd (sortI (s.items.map (·.1))) i2)) i2 S1_57 (hs.rd 4 rfl) (gd_at (by omega)) rfl rfl (by omega) ?_)
          refine RW_op (L_assign (V := .int .u16 (gd (sortI (s.items.map (·.1))) i2)) rfl ?_)
          refine RW_nil ?_
          refine W_seq ?_
          obtain ⟨tt, htt⟩ : ∃ t, (mget (gd (sortI (s.items.map (·.1))) i2) s.items).getD tz = t := ⟨_, rfl⟩
          have ⟨hqa, hqb⟩ : 0 ≤ tt.set.qty ∧ tt.set.qty < 65536 := by rw [← htt, hs1]; exact vst_qty hl k (by omega) _
          refine W_region ?_
          refine RW_op (L_move (V := .map (some mr6)) rfl ?_)
          refine RW_op (L_move (V := .int .u16 (gd (sortI (s.items.map (·.1))) i2)) rfl ?_)
          refine RW_op (opW_to (V := .agg (talc ((mget (gd (sortI (s.items.map (·.1))) i2) s.items).getD tz)).toArray) (V' := .agg (talc tt).toArray) (L_lookupV (k := gd (sortI (s.items.map (·.1))) i2) (z := tz) UD_92 KO_57 ZV_94 (hs.mapf 2 rfl) rfl rfl ⟨rfl, rfl⟩) (by rw [htt]) ?_)
          refine RW_op (L_alloc (cs := talc (⟨0, (⟨(⟨0, 0⟩ : Dot), 0, 0, 0, 0, 0, vzero⟩ : Opn), false⟩ : Tal)) ZV_94 rfl hs fun b29 w30 hs => ?_)
          refine RW_op (L_st (V := .agg (talc tt).toArray) (vs := talc tt) (cs' := talc tt) SA_94.1 hs 6 rfl rfl rfl rfl rfl (Nat.le_of_ble_eq_true rfl) (talc_one _) (spl_whole rfl) fun w31 hs => ?_)
          replace hs : Own w no w31 [blk b1 [.int .u16 0, .slice none 0 0, .bool false, .int .u32 0] 63, blk b3 [.int .u16 cart, .slice a1 out.length c1, .bool s.out, .int .u32 s.tick] 63, mapR mr6 (Value.int .u16) tv s.items, blk x22 [.map (some mr6)] 92, row (.slice x24.1 ((sortI (s.items.map (·.1))).length) x24.2) ((sortI (s.items.map (·.1))).map (ic .u16)) 57 1, row (.slice a1 out.length c1) (out.map lc) 67 2, blk b29 (talc tt) 94] := hs
          refine RW_nil ?_
          refine W_region ?_
          refine RW_op (L_fieldAddr FA_63_1 rfl ?_)
          refine RW_op (L_ld (V := .slice a1 out.length c1) S1_61 hs 1 rfl rfl rfl ?_)
          refine RW_op (L_move (V := .int .u16 (gd (sortI (s.items.map (·.1))) i2)) rfl ?_)
          refine RW_op (L_fieldAddr FA_94_0 rfl ?_)
          refine RW_op (L_ld (V := .int .u32 tt.sum) S1_22 hs 6 rfl rfl rfl ?_)
          refine RW_op (L_fieldAddr FA_94_1 rfl ?_)
          refine RW_op (L_fieldAddr FA_59_4 rfl ?_)
          refine RW_op (L_ld (V := .int .u16 tt.set.qty) S1_57 hs 6 rfl rfl rfl ?_)
          refine RW_op (L_conv UD_57 UD_22 rfl (wr_u32 (by omega) (by omega)) ?_)
          refine RW_op (L_add (a := tt.sum) (b := tt.set.qty) (c := (tt.sum + tt.set.qty) % 4294967296) rfl rfl (wm_u32 _) ?_)
          refine RW_op (L_build (vs := [(0, .int .u16 (gd (sortI (s.items.map (·.1))) i2)), (1, .int .u32 ((tt.sum + tt.set.qty) % 4294967296))]) (cs := lc (⟨gd (sortI (s.items.map (·.1))) i2, (tt.sum + tt.set.qty) % 4294967296⟩ : Line)) BT_67 (rfl) rfl ?_)
          refine RW_op (L_bs (vals := [.agg (lc (⟨gd (sortI (s.items.map (·.1))) i2, (tt.sum + tt.set.qty) % 4294967296⟩ : Line)).toArray]) (ls := List.map lc ([(⟨gd (sortI (s.items.map (·.1))) i2, (tt.sum + tt.set.qty) % 4294967296⟩ : Line)] : List Line)) EL_61 rfl rfl rfl (len_map (enc := lc) (fun _ => rfl) _) (one_map lc_one _) (Nat.le_of_ble_eq_true rfl) hs fun b32 w33 hs => ?_)
          refine RW_op (L_appN (ls' := (out ++ [(⟨gd (sortI (s.items.map (·.1))) i2, (tt.sum + tt.set.qty) % 4294967296⟩ : Line)]).map lc) (n := (out ++ [(⟨gd (sortI (s.items.map (·.1))) i2, (tt.sum + tt.set.qty) % 4294967296⟩ : Line)]).length) EL_61 hs 5 rfl rfl rfl (hs.rd 7 rfl) (one_map lc_one _) (by simp only [List.length_map, List.length_append, List.length_cons, List.length_nil]; omega) (by simp) (by simp) fun a34 c34 w35 hs => ?_)
          refine RW_op (L_fieldAddr FA_63_1 rfl ?_)
          refine RW_op (L_st1 (V := .slice a34 ((out ++ [(⟨gd (sortI (s.items.map (·.1))) i2, (tt.sum + tt.set.qty) % 4294967296⟩ : Line)]).length) c34) (cs' := [.int .u16 cart, .slice a34 ((out ++ [(⟨gd (sortI (s.items.map (·.1))) i2, (tt.sum + tt.set.qty) % 4294967296⟩ : Line)]).length) c34, .bool s.out, .int .u32 s.tick]) S1_61 hs 1 rfl rfl rfl rfl (Nat.le_of_ble_eq_true rfl) rfl fun w36 hs => ?_)
          refine RW_nil ?_
          refine W_region ?_
          refine RW_op (L_add (a := (i2 : Int)) (b := 1) (c := (i2 : Int) + 1) rfl rfl (wr_i64 (by omega) (by omega)) ?_)
          refine RW_op (L_move (V := .int .i64 ((i2 : Int) + 1)) rfl ?_)
          refine RW_nil ?_
          refine ⟨_, ?_, _, i2 + 1, a34, c34, out ++ [(⟨gd (sortI (s.items.map (·.1))) i2, (tt.sum + tt.set.qty) % 4294967296⟩ : Line)], upd_of (mix_of (ds := [10, 11, 55, 56, 57, 58, 59, 60, 61, 62, 63, 64, 65, 66, 67, 68, 69, 70, 71, 72, 73, 74, 75, 76]) (by repeat (first | exact Agr.refl _ _ | refine Agr.upd ?_ rfl | refine Agr.mix ?_ rfl))) rfl, (by omega), (by simp only [List.length_append, List.length_cons, List.length_nil]; omega), (by rw [show (⟨gd (sortI (s.items.map (·.1))) i2, (tt.sum + tt.set.qty) % 4294967296⟩ : Line) = lineOf s.items (gd (sortI (s.items.map (·.1))) i2) by unfold lineOf qtyT; rw [htt]]; exact map_next (f := lineOf s.items) hout (by omega)), rfl, hs.take 6⟩
          omega
        ·
          replace c28 := of_decide_eq_false c28
          refine W_exit ?_
          refine W_seq ?_
          refine W_region ?_
          refine RW_op (L_ldW (cs := [.int .u16 cart, .slice a1 out.length c1, .bool s.out, .int .u32 s.tick]) SA_63 hs 1 rfl rfl rfl ?_)
          refine RW_op (L_st (V := .agg ([.int .u16 cart, .slice a1 out.length c1, .bool s.out, .int .u32 s.tick]).toArray) (vs := [.int .u16 cart, .slice a1 out.length c1, .bool s.out, .int .u32 s.tick]) (cs' := [.int .u16 cart, .slice a1 out.length c1, .bool s.out, .int .u32 s.tick]) SA_63.1 hs 0 rfl rfl rfl rfl rfl (Nat.le_of_ble_eq_true rfl) (one_cons rfl (one_cons rfl (one_cons rfl (one_cons rfl one_nil)))) (spl_whole rfl) fun w37 hs => ?_)
          refine RW_nil ?_
          refine W_ret ?_
          refine ⟨_, res_cell (cs := [.int .u16 cart, .slice a1 out.length c1, .bool s.out, .int .u32 s.tick]) Try.results34 SA_63 hs 0 rfl rfl rfl, ?_⟩
          have hV : viewP l cart = ⟨cart, out, s.out, s.tick⟩ := by
            have hk9 : k = l.length := by omega
            unfold viewP; dsimp only; rw [← hk9, ← hs1, hout, take_all (by omega)]
          rw [hV]
          exact ⟨(a1, c1), rfl, hs.only 5 rfl, trivial⟩
end Tf
end Go.Proofs
namespace Go.Proofs
open Go Go.Vx Go.RowKit
open Tt
namespace Tf
theorem UDR_56 : Try.prog.underlying 56 = some (.slice 59) := Try.underlying56
end Tf
end Go.Proofs
namespace Go.Proofs
open Go Go.Vx Go.RowKit
open Tt
namespace Tf
theorem SA_67 : TA Try.prog 67 2 := ⟨Try.sizeOf67, Try.isAgg67⟩
set_option maxRecDepth 20000 in
theorem EQ_67 (a b : Line) : EqF Try.prog 2 67 (.agg (lc a).toArray) (.agg (lc b).toArray) (decide (a = b)) := by
  rw [← dec_line]
  exact EqF_struct (D := 1) Try.underlying67 Try.stoodInHeld67 (.cons (by decide) (PartF_one ⟨Try.sizeOf57, Try.isAgg57⟩ rfl) (PartF_one ⟨Try.sizeOf57, Try.isAgg57⟩ rfl) ((EqF_int Try.runUnderlying57).up (by decide)) (.cons (by decide) (PartF_one ⟨Try.sizeOf22, Try.isAgg22⟩ rfl) (PartF_one ⟨Try.sizeOf22, Try.isAgg22⟩ rfl) ((EqF_int Try.runUnderlying22).up (by decide)) .nil))
theorem EN_34 : En Try.prog 34 := Try.call34
theorem FA_63_0 : FA Try.prog 63 0 0 := fun b o w => by simp [Instr.fieldAt, Instr.sureAddr, fieldPlace, add_eq]
theorem UD_61 : Ud Try.prog 61 (.slice 67) := Try.runUnderlying61
section
variable {α : Type} [Inhabited α] {l m : List α}
theorem eqG_step {k : Nat} (h : ∀ j : Nat, j < k → gd l j = gd m j) (hk : gd l k = gd m k) : ∀ j : Nat, j < k + 1 → gd l j = gd m j := by
  intro j hj
  by_cases e : j = k
  · subst e; exact hk
  · exact h j (by omega)
theorem sameG_yes (hn : l.length = m.length) (h : ∀ j : Nat, j < l.length → gd l j = gd m j) : l = m := by
  apply List.ext_getElem hn
  intro j h1 h2
  have := h j h1
  simpa [gd, h1, h2] using this
end
set_option maxRecDepth 20000 in
set_option maxHeartbeats 4000000 in
theorem eqU_ok (w : World) (a b : Option Addr) (c e : Nat) (l l2 : List Int) (hr : Rd w (.slice a l.length c) 1 (l.map (ic .u16))) (hq : Rd w (.slice b l2.length e) 1 (l2.map (ic .u16))) : Calls Try.prog 35 #[.slice a l.length c, .slice b l2.length e] w (fun e w' => e = .returned (.bool (decide (l = l2))) ∧ Own w no w' []) := by
  refine calls_of_Wn (n := 26) Try.func35 rfl Try.ntmps35 rfl ?_
  have hs := Own.start w
  have hn := hr.sml
  refine W_seq ?_
  refine W_region ?_
  refine RW_op (L_assign (V := .bool false) rfl ?_)
  refine RW_nil ?_
  refine W_seq ?_
  refine W_seq ?_
  refine W_region ?_
  refine RW_op (L_move (V := .slice a l.length c) rfl ?_)
  refine RW_op (L_lenR (n := l.length) UD_72 (Rd.own' hr hs) (by simp) rfl ?_)
  refine RW_op (L_move (V := .slice b l2.length e) rfl ?_)
  refine RW_op (L_lenR (n := l2.length) UD_72 (Rd.own' hq hs) (by simp) rfl ?_)
  refine RW_op (L_neq rfl rfl ?_)
  refine RW_nil ?_
  refine W_cond (t := !decide (((l.length : Nat) : Int) = ((l2.length : Nat) : Int))) rfl (fun c1 => ?_) (fun c1 => ?_)
  ·
    replace c1 := not_t c1
    replace c1 := of_decide_eq_false c1
    refine W_seq ?_
    refine W_region ?_
    refine RW_op (L_assign (V := .bool false) rfl ?_)
    refine RW_nil ?_
    refine W_ret ?_
    refine ⟨_, res_one (V := .bool false) Try.results35 rfl, ?_⟩
    refine ⟨congrArg Ending.returned ?_, hs.take 0⟩
    refine congrArg Value.bool (decide_eq_false fun e => ?_).symm
    subst e
    omega
  ·
    replace c1 := not_f c1
    replace c1 := of_decide_eq_true c1
    refine W_skip ?_
    refine W_seq ?_
    refine W_seq ?_
    refine W_region ?_
    refine RW_op (L_move (V := .slice a l.length c) rfl ?_)
    refine RW_op (L_lenR (n := l.length) UD_72 (Rd.own' hr hs) (by simp) rfl ?_)
    refine RW_op (L_move (V := .int .i64 0) rfl ?_)
    refine RW_nil ?_
    refine W_block ?_
    refine W_loopI (fun ρ m ρ' w' => ∃ (ρo : Env) (k : Nat), ρ' = upd (mix [4, 5, 13, 14, 15, 16, 17, 18, 19, 20, 21, 22, 23, 24, 25] ρo ρ) 13 (.int .i64 (k : Int)) ∧ (k ≤ l.length) ∧ (∀ j : Nat, j < k → gd l j = gd l2 j) ∧ m = l.length - k ∧ Own w no w' []) ?_ ?_
    · exact ⟨_, _, 0, upd_of (mix_of (ds := [4, 5, 13, 14, 15, 16, 17, 18, 19, 20, 21, 22, 23, 24, 25]) (Agr.refl _ _)) rfl, (by omega), (fun j hj => absurd hj (Nat.not_lt_zero j)), rfl, hs⟩
    · rintro m ρ' w2 ⟨ρo, k, rfl, hk, heq, rfl, hs⟩
      refine W_seq ?_
      refine W_region ?_
      refine RW_op (L_lss rfl rfl ?_)
      refine RW_nil ?_
      refine W_seq ?_
      refine W_cond (t := decide ((k : Int) < ((l.length : Nat) : Int))) rfl (fun c3 => ?_) (fun c3 => ?_)
      ·
        replace c3 := of_decide_eq_true c3
        refine W_skip ?_
        refine W_seq ?_
        refine W_block ?_
        refine W_seq ?_
        refine W_region ?_
        refine RW_op (L_move (V := .int .i64 (k : Int)) rfl ?_)
        refine RW_op (L_assign (V := .int .i64 (k : Int)) rfl ?_)
        refine RW_nil ?_
        refine W_seq ?_
        replace hs := hs.drew
        refine W_draw2 HM [16, 17, 18, 19, 20, 21, 22, 23, 24] [[], [], [0, 1], [2], [], [], [4, 5], [6], [3, 7]] (fun D ρ wx => Own w no wx [] ∧ (D 0 = true → ρ 16 = .slice a l.length c) ∧ (D 1 = true → ρ 17 = .int .i64 (k : Int)) ∧ (D 2 = true → ρ 18 = .pointer (some ⟨bkS (.slice a l.length c), ofS (.slice a l.length c) + (k : Int).toNat * 1, none⟩)) ∧ (D 3 = true → ρ 19 = .int .u16 (gd l k)) ∧ (D 4 = true → ρ 20 = .slice b l2.length e) ∧ (D 5 = true → ρ 21 = .int .i64 (k : Int)) ∧ (D 6 = true → ρ 22 = .pointer (some ⟨bkS (.slice b l2.length e), ofS (.slice b l2.length e) + (k : Int).toNat * 1, none⟩)) ∧ (D 7 = true → ρ 23 = .int .u16 (gd l2 k)) ∧ (D 8 = true → ρ 24 = .bool (!decide (gd l k = gd l2 k)))) rfl rfl rfl ⟨hs, fun h => absurd h Bool.false_ne_true, fun h => absurd h Bool.false_ne_true, fun h => absurd h Bool.false_ne_true, fun h => absurd h Bool.false_ne_true, fun h => absurd h Bool.false_ne_true, fun h => absurd h Bool.false_ne_true, fun h => absurd h Bool.false_ne_true, fun h => absurd h Bool.false_ne_true, fun h => absurd h Bool.false_ne_true⟩ ⟨?_, ?_, ?_, ?_, ?_, ?_, ?_, ?_, ?_, trivial⟩ ?_
        · rintro D ρ wx hD hd hdc hf ⟨hs, f0, f1, f2, f3, f4, f5, f6, f7, f8⟩
          have r0 : ρ 0 = .slice a l.length c := outD hf 0 rfl
          exact .inl ⟨rfl, L_move (V := .slice a l.length c) r0 ⟨hs, fun _ => rfl, f1, f2, f3, f4, f5, f6, f7, f8⟩⟩
        · rintro D ρ wx hD hd hdc hf ⟨hs, f0, f1, f2, f3, f4, f5, f6, f7, f8⟩
          have r5 : ρ 5 = .int .i64 (k : Int) := outD hf 5 rfl
          exact .inl ⟨rfl, L_move (V := .int .i64 (k : Int)) r5 ⟨hs, f0, fun _ => rfl, f2, f3, f4, f5, f6, f7, f8⟩⟩
        · rintro D ρ wx hD hd hdc hf ⟨hs, f0, f1, f2, f3, f4, f5, f6, f7, f8⟩
          have g0 := f0 (doneD hd 0 rfl)
          have g1 := f1 (doneD hd 1 rfl)
          exact .inl ⟨rfl, L_ixR UD_72 S1_57.1 (Rd.own' hr hs) g0 g1 (by omega) (by rw [List.length_map]; omega) ⟨hs, f0, f1, fun _ => rfl, f3, f4, f5, f6, f7, f8⟩⟩
        · rintro D ρ wx hD hd hdc hf ⟨hs, f0, f1, f2, f3, f4, f5, f6, f7, f8⟩
          have g2 := f2 (doneD hd 2 rfl)
          exact .inl ⟨rfl, L_ldR (j := 0) (V := .int .u16 (gd l k)) k S1_57 (Rd.own' hr hs) (gd_at (by omega)) rfl g2 (by omega) ⟨hs, f0, f1, f2, fun _ => rfl, f4, f5, f6, f7, f8⟩⟩
        · rintro D ρ wx hD hd hdc hf ⟨hs, f0, f1, f2, f3, f4, f5, f6, f7, f8⟩
          have r1 : ρ 1 = .slice b l2.length e := outD hf 1 rfl
          exact .inl ⟨rfl, L_move (V := .slice b l2.length e) r1 ⟨hs, f0, f1, f2, f3, fun _ => rfl, f5, f6, f7, f8⟩⟩
        · rintro D ρ wx hD hd hdc hf ⟨hs, f0, f1, f2, f3, f4, f5, f6, f7, f8⟩
          have r5 : ρ 5 = .int .i64 (k : Int) := outD hf 5 rfl
          exact .inl ⟨rfl, L_move (V := .int .i64 (k : Int)) r5 ⟨hs, f0, f1, f2, f3, f4, fun _ => rfl, f6, f7, f8⟩⟩
        · rintro D ρ wx hD hd hdc hf ⟨hs, f0, f1, f2, f3, f4, f5, f6, f7, f8⟩
          have g4 := f4 (doneD hd 4 rfl)
          have g5 := f5 (doneD hd 5 rfl)
          exact .inl ⟨rfl, L_ixR UD_72 S1_57.1 (Rd.own' hq hs) g4 g5 (by omega) (by rw [List.length_map]; omega) ⟨hs, f0, f1, f2, f3, f4, f5, fun _ => rfl, f7, f8⟩⟩
        · rintro D ρ wx hD hd hdc hf ⟨hs, f0, f1, f2, f3, f4, f5, f6, f7, f8⟩
          have g6 := f6 (doneD hd 6 rfl)
          exact .inl ⟨rfl, L_ldR (j := 0) (V := .int .u16 (gd l2 k)) k S1_57 (Rd.own' hq hs) (gd_at (by omega)) rfl g6 (by omega) ⟨hs, f0, f1, f2, f3, f4, f5, f6, fun _ => rfl, f8⟩⟩
        · rintro D ρ wx hD hd hdc hf ⟨hs, f0, f1, f2, f3, f4, f5, f6, f7, f8⟩
          have g3 := f3 (doneD hd 3 rfl)
          have g7 := f7 (doneD hd 7 rfl)
          exact .inl ⟨rfl, L_neq g3 g7 ⟨hs, f0, f1, f2, f3, f4, f5, f6, f7, fun _ => rfl⟩⟩
        · rintro ρ1 w1 D hD hf ⟨hs, f0, f1, f2, f3, f4, f5, f6, f7, f8⟩
          have e8 := f8 (hD 8 rfl)
          clear f0 f1 f2 f3 f4 f5 f6 f7 f8
          obtain ⟨ρ2, hρ⟩ : ∃ ρ2, ρ1 = upd (mix [16, 17, 18, 19, 20, 21, 22, 23, 24] ρ2 _) 24 (.bool (!decide (gd l k = gd l2 k))) := ⟨ρ1, upd_of (mix_of (ds := [16, 17, 18, 19, 20, 21, 22, 23, 24]) hf) e8⟩
          clear hf hD e8
          subst hρ
          refine W_cond (t := !decide (gd l k = gd l2 k)) rfl (fun c5 => ?_) (fun c5 => ?_)
          ·
            replace c5 := not_t c5
            replace c5 := of_decide_eq_false c5
            refine W_seq ?_
            refine W_region ?_
            refine RW_op (L_assign (V := .bool false) rfl ?_)
            refine RW_nil ?_
            refine W_ret ?_
            refine ⟨_, res_one (V := .bool false) Try.results35 rfl, ?_⟩
            refine ⟨congrArg Ending.returned ?_, hs.take 0⟩
            refine congrArg Value.bool (decide_eq_false fun e => ?_).symm
            subst e
            exact c5 rfl
          ·
            replace c5 := not_f c5
            replace c5 := of_decide_eq_true c5
            refine W_skip ?_
            refine W_region ?_
            refine RW_op (L_add (a := (k : Int)) (b := 1) (c := (k : Int) + 1) rfl rfl (wr_i64 (by omega) (by omega)) ?_)
            refine RW_op (L_move (V := .int .i64 ((k : Int) + 1)) rfl ?_)
            refine RW_nil ?_
            refine ⟨_, ?_, _, k + 1, upd_of (mix_of (ds := [4, 5, 13, 14, 15, 16, 17, 18, 19, 20, 21, 22, 23, 24, 25]) (by repeat (first | exact Agr.refl _ _ | refine Agr.upd ?_ rfl | refine Agr.mix ?_ rfl))) rfl, (by omega), (eqG_step heq c5), rfl, hs.take 0⟩
            omega
      ·
        replace c3 := of_decide_eq_false c3
        refine W_exit ?_
        refine W_seq ?_
        refine W_region ?_
        refine RW_op (L_assign (V := .bool true) rfl ?_)
        refine RW_nil ?_
        refine W_ret ?_
        refine ⟨_, res_one (V := .bool true) Try.results35 rfl, ?_⟩
        refine ⟨congrArg Ending.returned ?_, hs.take 0⟩
        exact congrArg Value.bool (decide_eq_true (sameG_yes (by omega) fun j hj => heq j (by omega))).symm
set_option maxRecDepth 20000 in
set_option maxHeartbeats 4000000 in
theorem same7_ok (w : World) (cu cv tu tw : Int) (ou ov : Bool) (a b : Option Addr) (c e : Nat) (l l2 : List Line) (hr : Rd w (.slice a l.length c) 2 (l.map lc)) (hq : Rd w (.slice b l2.length e) 2 (l2.map lc)) : Calls Try.prog 33 #[.agg ([.int .u16 cu, .slice a l.length c, .bool ou, .int .u32 tu]).toArray, .agg ([.int .u16 cv, .slice b l2.length e, .bool ov, .int .u32 tw]).toArray] w (fun e w' => e = .returned (.bool (decide (cu = cv) && (ou == ov) && decide (tu = tw) && decide (l = l2))) ∧ Own w no w' []) := by
  refine calls_of_Wn (n := 52) Try.func33 rfl Try.ntmps33 rfl ?_
  have hs := Own.start w
  have hn := hr.sml
  refine W_seq ?_
  refine W_region ?_
  refine RW_op (L_box (V := .agg ([.int .u16 cu, .slice a l.length c, .bool ou, .int .u32 tu]).toArray) (cs := [.int .u16 cu, .slice a l.length c, .bool ou, .int .u32 tu]) rfl rfl hs fun b1 w2 hs => ?_)
  refine RW_op (L_box (V := .agg ([.int .u16 cv, .slice b l2.length e, .bool ov, .int .u32 tw]).toArray) (cs := [.int .u16 cv, .slice b l2.length e, .bool ov, .int .u32 tw]) rfl rfl hs fun b3 w4 hs => ?_)
  refine RW_op (L_assign (V := .bool false) rfl ?_)
  refine RW_nil ?_
  refine W_seq ?_
  refine W_seq ?_
  refine W_inv2 [6, 7, 8, 9, 10, 11, 12, 13, 14, 15, 16, 17, 18, 19, 20, 21, 22, 23, 24, 25, 26, 27, 28, 29, 30, 31, 32, 33] [[], [0], [], [2], [1, 3], [4], [5], [6, 5], [5], [8, 5], [7, 9, 5], [5, 10], [11, 5], [12], [13, 12], [12], [15, 12], [14, 16, 12], [12, 17], [18, 12], [19], [20, 19], [21, 19], [19], [23, 19], [24, 19], [22, 25, 19], [19, 26]] (fun D ρ wx => Own w no wx [blk b1 [.int .u16 cu, .slice a l.length c, .bool ou, .int .u32 tu] 63, blk b3 [.int .u16 cv, .slice b l2.length e, .bool ov, .int .u32 tw] 63] ∧ (D 0 = true → ρ 6 = .pointer (some ⟨b1, 0 + 0, none⟩)) ∧ (D 1 = true → ρ 7 = .int .u16 cu) ∧ (D 2 = true → ρ 8 = .pointer (some ⟨b3, 0 + 0, none⟩)) ∧ (D 3 = true → ρ 9 = .int .u16 cv) ∧ (D 4 = true → ρ 10 = .bool (!decide (cu = cv))) ∧ (D 5 = true → ρ 11 = .bool (!decide (cu = cv))) ∧ (D 6 = true → ρ 12 = cond ((!decide (cu = cv)) == false) (.pointer (some ⟨b1, 0 + 2, none⟩)) undef) ∧ (D 7 = true → ρ 13 = cond ((!decide (cu = cv)) == false) (.bool ou) undef) ∧ (D 8 = true → ρ 14 = cond ((!decide (cu = cv)) == false) (.pointer (some ⟨b3, 0 + 2, none⟩)) undef) ∧ (D 9 = true → ρ 15 = cond ((!decide (cu = cv)) == false) (.bool ov) undef) ∧ (D 10 = true → ρ 16 = cond ((!decide (cu = cv)) == false) (.bool (!(ou == ov))) undef) ∧ (D 11 = true → ρ 17 = .bool ((!decide (cu = cv)) || (!(ou == ov)))) ∧ (D 12 = true → ρ 18 = .bool ((!decide (cu = cv)) || (!(ou == ov)))) ∧ (D 13 = true → ρ 19 = cond (((!decide (cu = cv)) || (!(ou == ov))) == false) (.pointer (some ⟨b1, 0 + 3, none⟩)) undef) ∧ (D 14 = true → ρ 20 = cond (((!decide (cu = cv)) || (!(ou == ov))) == false) (.int .u32 tu) undef) ∧ (D 15 = true → ρ 21 = cond (((!decide (cu = cv)) || (!(ou == ov))) == false) (.pointer (some ⟨b3, 0 + 3, none⟩)) undef) ∧ (D 16 = true → ρ 22 = cond (((!decide (cu = cv)) || (!(ou == ov))) == false) (.int .u32 tw) undef) ∧ (D 17 = true → ρ 23 = cond (((!decide (cu = cv)) || (!(ou == ov))) == false) (.bool (!decide (tu = tw))) undef) ∧ (D 18 = true → ρ 24 = .bool (((!decide (cu = cv)) || (!(ou == ov))) || (!decide (tu = tw)))) ∧ (D 19 = true → ρ 25 = .bool (((!decide (cu = cv)) || (!(ou == ov))) || (!decide (tu = tw)))) ∧ (D 20 = true → ρ 26 = cond ((((!decide (cu = cv)) || (!(ou == ov))) || (!decide (tu = tw))) == false) (.pointer (some ⟨b1, 0 + 1, none⟩)) undef) ∧ (D 21 = true → ρ 27 = cond ((((!decide (cu = cv)) || (!(ou == ov))) || (!decide (tu = tw))) == false) (.slice a l.length c) undef) ∧ (D 22 = true → ρ 28 = cond ((((!decide (cu = cv)) || (!(ou == ov))) || (!decide (tu = tw))) == false) (.int .i64 ((l.length : Nat) : Int)) undef) ∧ (D 23 = true → ρ 29 = cond ((((!decide (cu = cv)) || (!(ou == ov))) || (!decide (tu = tw))) == false) (.pointer (some ⟨b3, 0 + 1, none⟩)) undef) ∧ (D 24 = true → ρ 30 = cond ((((!decide (cu = cv)) || (!(ou == ov))) || (!decide (tu = tw))) == false) (.slice b l2.length e) undef) ∧ (D 25 = true → ρ 31 = cond ((((!decide (cu = cv)) || (!(ou == ov))) || (!decide (tu = tw))) == false) (.int .i64 ((l2.length : Nat) : Int)) undef) ∧ (D 26 = true → ρ 32 = cond ((((!decide (cu = cv)) || (!(ou == ov))) || (!decide (tu = tw))) == false) (.bool (!decide (((l.length : Nat) : Int) = ((l2.length : Nat) : Int)))) undef) ∧ (D 27 = true → ρ 33 = .bool ((((!decide (cu = cv)) || (!(ou == ov))) || (!decide (tu = tw))) || (!decide (((l.length : Nat) : Int) = ((l2.length : Nat) : Int)))))) rfl rfl rfl ⟨hs, fun h => absurd h Bool.false_ne_true, fun h => absurd h Bool.false_ne_true, fun h => absurd h Bool.false_ne_true, fun h => absurd h Bool.false_ne_true, fun h => absurd h Bool.false_ne_true, fun h => absurd h Bool.false_ne_true, fun h => absurd h Bool.false_ne_true, fun h => absurd h Bool.false_ne_true, fun h => absurd h Bool.false_ne_true, fun h => absurd h Bool.false_ne_true, fun h => absurd h Bool.false_ne_true, fun h => absurd h Bool.false_ne_true, fun h => absurd h Bool.false_ne_true, fun h => absurd h Bool.false_ne_true, fun h => absurd h Bool.false_ne_true, fun h => absurd h Bool.false_ne_true, fun h => absurd h Bool.false_ne_true, fun h => absurd h Bool.false_ne_true, fun h => absurd h Bool.false_ne_true, fun h => absurd h Bool.false_ne_true, fun h => absurd h Bool.false_ne_true, fun h => absurd h Bool.false_ne_true, fun h => absurd h Bool.false_ne_true, fun h => absurd h Bool.false_ne_true, fun h => absurd h Bool.false_ne_true, fun h => absurd h Bool.false_ne_true, fun h => absurd h Bool.false_ne_true, fun h => absurd h Bool.false_ne_true⟩ ⟨?_, ?_, ?_, ?_, ?_, ?_, ?_, ?_, ?_, ?_, ?_, ?_, ?_, ?_, ?_, ?_, ?_, ?_, ?_, ?_, ?_, ?_, ?_, ?_, ?_, ?_, ?_, ?_, trivial⟩ ?_
  · rintro D ρ wx hD hd hdc hf ⟨hs, f0, f1, f2, f3, f4, f5, f6, f7, f8, f9, f10, f11, f12, f13, f14, f15, f16, f17, f18, f19, f20, f21, f22, f23, f24, f25, f26, f27⟩
    have r2 : ρ 2 = .pointer (some ⟨b1, 0, none⟩) := outD hf 2 rfl
    exact .inl ⟨rfl, L_fieldAddr FA_63_0 r2 ⟨hs, fun _ => rfl, f1, f2, f3, f4, f5, f6, f7, f8, f9, f10, f11, f12, f13, f14, f15, f16, f17, f18, f19, f20, f21, f22, f23, f24, f25, f26, f27⟩⟩
  · rintro D ρ wx hD hd hdc hf ⟨hs, f0, f1, f2, f3, f4, f5, f6, f7, f8, f9, f10, f11, f12, f13, f14, f15, f16, f17, f18, f19, f20, f21, f22, f23, f24, f25, f26, f27⟩
    have g0 := f0 (doneD hd 0 rfl)
    exact .inl ⟨rfl, L_ld (V := .int .u16 cu) S1_57 hs 0 rfl g0 rfl ⟨hs, f0, fun _ => rfl, f2, f3, f4, f5, f6, f7, f8, f9, f10, f11, f12, f13, f14, f15, f16, f17, f18, f19, f20, f21, f22, f23, f24, f25, f26, f27⟩⟩
  · rintro D ρ wx hD hd hdc hf ⟨hs, f0, f1, f2, f3, f4, f5, f6, f7, f8, f9, f10, f11, f12, f13, f14, f15, f16, f17, f18, f19, f20, f21, f22, f23, f24, f25, f26, f27⟩
    have r3 : ρ 3 = .pointer (some ⟨b3, 0, none⟩) := outD hf 3 rfl
    exact .inl ⟨rfl, L_fieldAddr FA_63_0 r3 ⟨hs, f0, f1, fun _ => rfl, f3, f4, f5, f6, f7, f8, f9, f10, f11, f12, f13, f14, f15, f16, f17, f18, f19, f20, f21, f22, f23, f24, f25, f26, f27⟩⟩
  · rintro D ρ wx hD hd hdc hf ⟨hs, f0, f1, f2, f3, f4, f5, f6, f7, f8, f9, f10, f11, f12, f13, f14, f15, f16, f17, f18, f19, f20, f21, f22, f23, f24, f25, f26, f27⟩
    have g2 := f2 (doneD hd 2 rfl)
    exact .inl ⟨rfl, L_ld (V := .int .u16 cv) S1_57 hs 1 rfl g2 rfl ⟨hs, f0, f1, f2, fun _ => rfl, f4, f5, f6, f7, f8, f9, f10, f11, f12, f13, f14, f15, f16, f17, f18, f19, f20, f21, f22, f23, f24, f25, f26, f27⟩⟩
  · rintro D ρ wx hD hd hdc hf ⟨hs, f0, f1, f2, f3, f4, f5, f6, f7, f8, f9, f10, f11, f12, f13, f14, f15, f16, f17, f18, f19, f20, f21, f22, f23, f24, f25, f26, f27⟩
    have g1 := f1 (doneD hd 1 rfl)
    have g3 := f3 (doneD hd 3 rfl)
    exact .inl ⟨rfl, L_neq g1 g3 ⟨hs, f0, f1, f2, f3, fun _ => rfl, f5, f6, f7, f8, f9, f10, f11, f12, f13, f14, f15, f16, f17, f18, f19, f20, f21, f22, f23, f24, f25, f26, f27⟩⟩
  · rintro D ρ wx hD hd hdc hf ⟨hs, f0, f1, f2, f3, f4, f5, f6, f7, f8, f9, f10, f11, f12, f13, f14, f15, f16, f17, f18, f19, f20, f21, f22, f23, f24, f25, f26, f27⟩
    have g4 := f4 (doneD hd 4 rfl)
    exact .inl ⟨rfl, L_move (V := .bool (!decide (cu = cv))) g4 ⟨hs, f0, f1, f2, f3, f4, fun _ => rfl, f6, f7, f8, f9, f10, f11, f12, f13, f14, f15, f16, f17, f18, f19, f20, f21, f22, f23, f24, f25, f26, f27⟩⟩
  · rintro D ρ wx hD hd hdc hf ⟨hs, f0, f1, f2, f3, f4, f5, f6, f7, f8, f9, f10, f11, f12, f13, f14, f15, f16, f17, f18, f19, f20, f21, f22, f23, f24, f25, f26, f27⟩
    have r2 : ρ 2 = .pointer (some ⟨b1, 0, none⟩) := outD hf 2 rfl
    rcases Bool.eq_false_or_eq_true ((!decide (cu = cv)) == false) with hG | hG
    rotate_left
    · exact .inr ⟨(Eq.trans (wantG1 (j := 5) rfl (f5 (doneD hd 5 rfl))) hG), ⟨hs, f0, f1, f2, f3, f4, f5, fun _ => (condF hG).symm, f7, f8, f9, f10, f11, f12, f13, f14, f15, f16, f17, f18, f19, f20, f21, f22, f23, f24, f25, f26, f27⟩⟩
    ·
      exact .inl ⟨(Eq.trans (wantG1 (j := 5) rfl (f5 (doneD hd 5 rfl))) hG), L_fieldAddr FA_63_2 r2 ⟨hs, f0, f1, f2, f3, f4, f5, fun _ => (condT hG).symm, f7, f8, f9, f10, f11, f12, f13, f14, f15, f16, f17, f18, f19, f20, f21, f22, f23, f24, f25, f26, f27⟩⟩
  · rintro D ρ wx hD hd hdc hf ⟨hs, f0, f1, f2, f3, f4, f5, f6, f7, f8, f9, f10, f11, f12, f13, f14, f15, f16, f17, f18, f19, f20, f21, f22, f23, f24, f25, f26, f27⟩
    have g6 := f6 (doneD hd 6 rfl)
    rcases Bool.eq_false_or_eq_true ((!decide (cu = cv)) == false) with hG | hG
    rotate_left
    · exact .inr ⟨(Eq.trans (wantG1 (j := 5) rfl (f5 (doneD hd 5 rfl))) hG), ⟨hs, f0, f1, f2, f3, f4, f5, f6, fun _ => (condF hG).symm, f8, f9, f10, f11, f12, f13, f14, f15, f16, f17, f18, f19, f20, f21, f22, f23, f24, f25, f26, f27⟩⟩
    ·
      exact .inl ⟨(Eq.trans (wantG1 (j := 5) rfl (f5 (doneD hd 5 rfl))) hG), L_ld (V := .bool ou) S1_4 hs 0 rfl ((g6).trans (condT (by exact hG))) rfl ⟨hs, f0, f1, f2, f3, f4, f5, f6, fun _ => (condT hG).symm, f8, f9, f10, f11, f12, f13, f14, f15, f16, f17, f18, f19, f20, f21, f22, f23, f24, f25, f26, f27⟩⟩
  · rintro D ρ wx hD hd hdc hf ⟨hs, f0, f1, f2, f3, f4, f5, f6, f7, f8, f9, f10, f11, f12, f13, f14, f15, f16, f17, f18, f19, f20, f21, f22, f23, f24, f25, f26, f27⟩
    have r3 : ρ 3 = .pointer (some ⟨b3, 0, none⟩) := outD hf 3 rfl
    rcases Bool.eq_false_or_eq_true ((!decide (cu = cv)) == false) with hG | hG
    rotate_left
    · exact .inr ⟨(Eq.trans (wantG1 (j := 5) rfl (f5 (doneD hd 5 rfl))) hG), ⟨hs, f0, f1, f2, f3, f4, f5, f6, f7, fun _ => (condF hG).symm, f9, f10, f11, f12, f13, f14, f15, f16, f17, f18, f19, f20, f21, f22, f23, f24, f25, f26, f27⟩⟩
    ·
      exact .inl ⟨(Eq.trans (wantG1 (j := 5) rfl (f5 (doneD hd 5 rfl))) hG), L_fieldAddr FA_63_2 r3 ⟨hs, f0, f1, f2, f3, f4, f5, f6, f7, fun _ => (condT hG).symm, f9, f10, f11, f12, f13, f14, f15, f16, f17, f18, f19, f20, f21, f22, f23, f24, f25, f26, f27⟩⟩
  · rintro D ρ wx hD hd hdc hf ⟨hs, f0, f1, f2, f3, f4, f5, f6, f7, f8, f9, f10, f11, f12, f13, f14, f15, f16, f17, f18, f19, f20, f21, f22, f23, f24, f25, f26, f27⟩
    have g8 := f8 (doneD hd 8 rfl)
    rcases Bool.eq_false_or_eq_true ((!decide (cu = cv)) == false) with hG | hG
    rotate_left
    · exact .inr ⟨(Eq.trans (wantG1 (j := 5) rfl (f5 (doneD hd 5 rfl))) hG), ⟨hs, f0, f1, f2, f3, f4, f5, f6, f7, f8, fun _ => (condF hG).symm, f10, f11, f12, f13, f14, f15, f16, f17, f18, f19, f20, f21, f22, f23, f24, f25, f26, f27⟩⟩
    ·
      exact .inl ⟨(Eq.trans (wantG1 (j := 5) rfl (f5 (doneD hd 5 rfl))) hG), L_ld (V := .bool ov) S1_4 hs 1 rfl ((g8).trans (condT (by exact hG))) rfl ⟨hs, f0, f1, f2, f3, f4, f5, f6, f7, f8, fun _ => (condT hG).symm, f10, f11, f12, f13, f14, f15, f16, f17, f18, f19, f20, f21, f22, f23, f24, f25, f26, f27⟩⟩
  · rintro D ρ wx hD hd hdc hf ⟨hs, f0, f1, f2, f3, f4, f5, f6, f7, f8, f9, f10, f11, f12, f13, f14, f15, f16, f17, f18, f19, f20, f21, f22, f23, f24, f25, f26, f27⟩
    have g7 := f7 (doneD hd 7 rfl)
    have g9 := f9 (doneD hd 9 rfl)
    rcases Bool.eq_false_or_eq_true ((!decide (cu = cv)) == false) with hG | hG
    rotate_left
    · exact .inr ⟨(Eq.trans (wantG1 (j := 5) rfl (f5 (doneD hd 5 rfl))) hG), ⟨hs, f0, f1, f2, f3, f4, f5, f6, f7, f8, f9, fun _ => (condF hG).symm, f11, f12, f13, f14, f15, f16, f17, f18, f19, f20, f21, f22, f23, f24, f25, f26, f27⟩⟩
    ·
      exact .inl ⟨(Eq.trans (wantG1 (j := 5) rfl (f5 (doneD hd 5 rfl))) hG), L_neb UDR_4 ((g7).trans (condT (by exact hG))) ((g9).trans (condT (by exact hG))) ⟨hs, f0, f1, f2, f3, f4, f5, f6, f7, f8, f9, fun _ => (condT hG).symm, f11, f12, f13, f14, f15, f16, f17, f18, f19, f20, f21, f22, f23, f24, f25, f26, f27⟩⟩
  · rintro D ρ wx hD hd hdc hf ⟨hs, f0, f1, f2, f3, f4, f5, f6, f7, f8, f9, f10, f11, f12, f13, f14, f15, f16, f17, f18, f19, f20, f21, f22, f23, f24, f25, f26, f27⟩
    have g5 := f5 (doneD hd 5 rfl)
    have g10 := f10 (doneD hd 10 rfl)
    exact .inl ⟨rfl, L_or g5 rfl (fun hg => ((g10).trans (condT (by first | exact beqT hg | rfl)))) ⟨hs, f0, f1, f2, f3, f4, f5, f6, f7, f8, f9, f10, fun _ => rfl, f12, f13, f14, f15, f16, f17, f18, f19, f20, f21, f22, f23, f24, f25, f26, f27⟩⟩
  · rintro D ρ wx hD hd hdc hf ⟨hs, f0, f1, f2, f3, f4, f5, f6, f7, f8, f9, f10, f11, f12, f13, f14, f15, f16, f17, f18, f19, f20, f21, f22, f23, f24, f25, f26, f27⟩
    have g11 := f11 (doneD hd 11 rfl)
    exact .inl ⟨rfl, L_move (V := .bool ((!decide (cu = cv)) || (!(ou == ov)))) g11 ⟨hs, f0, f1, f2, f3, f4, f5, f6, f7, f8, f9, f10, f11, fun _ => rfl, f13, f14, f15, f16, f17, f18, f19, f20, f21, f22, f23, f24, f25, f26, f27⟩⟩
  · rintro D ρ wx hD hd hdc hf ⟨hs, f0, f1, f2, f3, f4, f5, f6, f7, f8, f9, f10, f11, f12, f13, f14, f15, f16, f17, f18, f19, f20, f21, f22, f23, f24, f25, f26, f27⟩
    have r2 : ρ 2 = .pointer (some ⟨b1, 0, none⟩) := outD hf 2 rfl
    rcases Bool.eq_false_or_eq_true (((!decide (cu = cv)) || (!(ou == ov))) == false) with hG | hG
    rotate_left
    · exact .inr ⟨(Eq.trans (wantG1 (j := 12) rfl (f12 (doneD hd 12 rfl))) hG), ⟨hs, f0, f1, f2, f3, f4, f5, f6, f7, f8, f9, f10, f11, f12, fun _ => (condF hG).symm, f14, f15, f16, f17, f18, f19, f20, f21, f22, f23, f24, f25, f26, f27⟩⟩
    ·
      exact .inl ⟨(Eq.trans (wantG1 (j := 12) rfl (f12 (doneD hd 12 rfl))) hG), L_fieldAddr FA_63_3 r2 ⟨hs, f0, f1, f2, f3, f4, f5, f6, f7, f8, f9, f10, f11, f12, fun _ => (condT hG).symm, f14, f15, f16, f17, f18, f19, f20, f21, f22, f23, f24, f25, f26, f27⟩⟩
  · rintro D ρ wx hD hd hdc hf ⟨hs, f0, f1, f2, f3, f4, f5, f6, f7, f8, f9, f10, f11, f12, f13, f14, f15, f16, f17, f18, f19, f20, f21, f22, f23, f24, f25, f26, f27⟩
    have g13 := f13 (doneD hd 13 rfl)
    rcases Bool.eq_false_or_eq_true (((!decide (cu = cv)) || (!(ou == ov))) == false) with hG | hG
    rotate_left
    · exact .inr ⟨(Eq.trans (wantG1 (j := 12) rfl (f12 (doneD hd 12 rfl))) hG), ⟨hs, f0, f1, f2, f3, f4, f5, f6, f7, f8, f9, f10, f11, f12, f13, fun _ => (condF hG).symm, f15, f16, f17, f18, f19, f20, f21, f22, f23, f24, f25, f26, f27⟩⟩
    ·
      exact .inl ⟨(Eq.trans (wantG1 (j := 12) rfl (f12 (doneD hd 12 rfl))) hG), L_ld (V := .int .u32 tu) S1_22 hs 0 rfl ((g13).trans (condT (by exact hG))) rfl ⟨hs, f0, f1, f2, f3, f4, f5, f6, f7, f8, f9, f10, f11, f12, f13, fun _ => (condT hG).symm, f15, f16, f17, f18, f19, f20, f21, f22, f23, f24, f25, f26, f27⟩⟩
  · rintro D ρ wx hD hd hdc hf ⟨hs, f0, f1, f2, f3, f4, f5, f6, f7, f8, f9, f10, f11, f12, f13, f14, f15, f16, f17, f18, f19, f20, f21, f22, f23, f24, f25, f26, f27⟩
    have r3 : ρ 3 = .pointer (some ⟨b3, 0, none⟩) := outD hf 3 rfl
    rcases Bool.eq_false_or_eq_true (((!decide (cu = cv)) || (!(ou == ov))) == false) with hG | hG
    rotate_left
    · exact .inr ⟨(Eq.trans (wantG1 (j := 12) rfl (f12 (doneD hd 12 rfl))) hG), ⟨hs, f0, f1, f2, f3, f4, f5, f6, f7, f8, f9, f10, f11, f12, f13, f14, fun _ => (condF hG).symm, f16, f17, f18, f19, f20, f21, f22, f23, f24, f25, f26, f27⟩⟩
    ·
      exact .inl ⟨(Eq.trans (wantG1 (j := 12) rfl (f12 (doneD hd 12 rfl))) hG), L_fieldAddr FA_63_3 r3 ⟨hs, f0, f1, f2, f3, f4, f5, f6, f7, f8, f9, f10, f11, f12, f13, f14, fun _ => (condT hG).symm, f16, f17, f18, f19, f20, f21, f22, f23, f24, f25, f26, f27⟩⟩
  · rintro D ρ wx hD hd hdc hf ⟨hs, f0, f1, f2, f3, f4, f5, f6, f7, f8, f9, f10, f11, f12, f13, f14, f15, f16, f17, f18, f19, f20, f21, f22, f23, f24, f25, f26, f27⟩
    have g15 := f15 (doneD hd 15 rfl)
    rcases Bool.eq_false_or_eq_true (((!decide (cu = cv)) || (!(ou == ov))) == false) with hG | hG
    rotate_left
    · exact .inr ⟨(Eq.trans (wantG1 (j := 12) rfl (f12 (doneD hd 12 rfl))) hG), ⟨hs, f0, f1, f2, f3, f4, f5, f6, f7, f8, f9, f10, f11, f12, f13, f14, f15, fun _ => (condF hG).symm, f17, f18, f19, f20, f21, f22, f23, f24, f25, f26, f27⟩⟩
    ·
      exact .inl ⟨(Eq.trans (wantG1 (j := 12) rfl (f12 (doneD hd 12 rfl))) hG), L_ld (V := .int .u32 tw) S1_22 hs 1 rfl ((g15).trans (condT (by exact hG))) rfl ⟨hs, f0, f1, f2, f3, f4, f5, f6, f7, f8, f9, f10, f11, f12, f13, f14, f15, fun _ => (condT hG).symm, f17, f18, f19, f20, f21, f22, f23, f24, f25, f26, f27⟩⟩
  · rintro D ρ wx hD hd hdc hf ⟨hs, f0, f1, f2, f3, f4, f5, f6, f7, f8, f9, f10, f11, f12, f13, f14, f15, f16, f17, f18, f19, f20, f21, f22, f23, f24, f25, f26, f27⟩
    have g14 := f14 (doneD hd 14 rfl)
    have g16 := f16 (doneD hd 16 rfl)
    rcases Bool.eq_false_or_eq_true (((!decide (cu = cv)) || (!(ou == ov))) == false) with hG | hG
    rotate_left
    · exact .inr ⟨(Eq.trans (wantG1 (j := 12) rfl (f12 (doneD hd 12 rfl))) hG), ⟨hs, f0, f1, f2, f3, f4, f5, f6, f7, f8, f9, f10, f11, f12, f13, f14, f15, f16, fun _ => (condF hG).symm, f18, f19, f20, f21, f22, f23, f24, f25, f26, f27⟩⟩
    ·
      exact .inl ⟨(Eq.trans (wantG1 (j := 12) rfl (f12 (doneD hd 12 rfl))) hG), L_neq ((g14).trans (condT (by exact hG))) ((g16).trans (condT (by exact hG))) ⟨hs, f0, f1, f2, f3, f4, f5, f6, f7, f8, f9, f10, f11, f12, f13, f14, f15, f16, fun _ => (condT hG).symm, f18, f19, f20, f21, f22, f23, f24, f25, f26, f27⟩⟩
  · rintro D ρ wx hD hd hdc hf ⟨hs, f0, f1, f2, f3, f4, f5, f6, f7, f8, f9, f10, f11, f12, f13, f14, f15, f16, f17, f18, f19, f20, f21, f22, f23, f24, f25, f26, f27⟩
    have g12 := f12 (doneD hd 12 rfl)
    have g17 := f17 (doneD hd 17 rfl)
    exact .inl ⟨rfl, L_or g12 rfl (fun hg => ((g17).trans (condT (by first | exact beqT hg | rfl)))) ⟨hs, f0, f1, f2, f3, f4, f5, f6, f7, f8, f9, f10, f11, f12, f13, f14, f15, f16, f17, fun _ => rfl, f19, f20, f21, f22, f23, f24, f25, f26, f27⟩⟩
  · rintro D ρ wx hD hd hdc hf ⟨hs, f0, f1, f2, f3, f4, f5, f6, f7, f8, f9, f10, f11, f12, f13, f14, f15, f16, f17, f18, f19, f20, f21, f22, f23, f24, f25, f26, f27⟩
    have g18 := f18 (doneD hd 18 rfl)
    exact .inl ⟨rfl, L_move (V := .bool (((!decide (cu = cv)) || (!(ou == ov))) || (!decide (tu = tw)))) g18 ⟨hs, f0, f1, f2, f3, f4, f5, f6, f7, f8, f9, f10, f11, f12, f13, f14, f15, f16, f17, f18, fun _ => rfl, f20, f21, f22, f23, f24, f25, f26, f27⟩⟩
  · rintro D ρ wx hD hd hdc hf ⟨hs, f0, f1, f2, f3, f4, f5, f6, f7, f8, f9, f10, f11, f12, f13, f14, f15, f16, f17, f18, f19, f20, f21, f22, f23, f24, f25, f26, f27⟩
    have r2 : ρ 2 = .pointer (some ⟨b1, 0, none⟩) := outD hf 2 rfl
    rcases Bool.eq_false_or_eq_true ((((!decide (cu = cv)) || (!(ou == ov))) || (!decide (tu = tw))) == false) with hG | hG
    rotate_left
    · exact .inr ⟨(Eq.trans (wantG1 (j := 19) rfl (f19 (doneD hd 19 rfl))) hG), ⟨hs, f0, f1, f2, f3, f4, f5, f6, f7, f8, f9, f10, f11, f12, f13, f14, f15, f16, f17, f18, f19, fun _ => (condF hG).symm, f21, f22, f23, f24, f25, f26, f27⟩⟩
    ·
      exact .inl ⟨(Eq.trans (wantG1 (j := 19) rfl (f19 (doneD hd 19 rfl))) hG), L_fieldAddr FA_63_1 r2 ⟨hs, f0, f1, f2, f3, f4, f5, f6, f7, f8, f9, f10, f11, f12, f13, f14, f15, f16, f17, f18, f19, fun _ => (condT hG).symm, f21, f22, f23, f24, f25, f26, f27⟩⟩
  · rintro D ρ wx hD hd hdc hf ⟨hs, f0, f1, f2, f3, f4, f5, f6, f7, f8, f9, f10, f11, f12, f13, f14, f15, f16, f17, f18, f19, f20, f21, f22, f23, f24, f25, f26, f27⟩
    have g20 := f20 (doneD hd 20 rfl)
    rcases Bool.eq_false_or_eq_true ((((!decide (cu = cv)) || (!(ou == ov))) || (!decide (tu = tw))) == false) with hG | hG
    rotate_left
    · exact .inr ⟨(Eq.trans (wantG1 (j := 19) rfl (f19 (doneD hd 19 rfl))) hG), ⟨hs, f0, f1, f2, f3, f4, f5, f6, f7, f8, f9, f10, f11, f12, f13, f14, f15, f16, f17, f18, f19, f20, fun _ => (condF hG).symm, f22, f23, f24, f25, f26, f27⟩⟩
    ·
      exact .inl ⟨(Eq.trans (wantG1 (j := 19) rfl (f19 (doneD hd 19 rfl))) hG), L_ld (V := .slice a l.length c) S1_61 hs 0 rfl ((g20).trans (condT (by exact hG))) rfl ⟨hs, f0, f1, f2, f3, f4, f5, f6, f7, f8, f9, f10, f11, f12, f13, f14, f15, f16, f17, f18, f19, f20, fun _ => (condT hG).symm, f22, f23, f24, f25, f26, f27⟩⟩
  · rintro D ρ wx hD hd hdc hf ⟨hs, f0, f1, f2, f3, f4, f5, f6, f7, f8, f9, f10, f11, f12, f13, f14, f15, f16, f17, f18, f19, f20, f21, f22, f23, f24, f25, f26, f27⟩
    have g21 := f21 (doneD hd 21 rfl)
    rcases Bool.eq_false_or_eq_true ((((!decide (cu = cv)) || (!(ou == ov))) || (!decide (tu = tw))) == false) with hG | hG
    rotate_left
    · exact .inr ⟨(Eq.trans (wantG1 (j := 19) rfl (f19 (doneD hd 19 rfl))) hG), ⟨hs, f0, f1, f2, f3, f4, f5, f6, f7, f8, f9, f10, f11, f12, f13, f14, f15, f16, f17, f18, f19, f20, f21, fun _ => (condF hG).symm, f23, f24, f25, f26, f27⟩⟩
    ·
      exact .inl ⟨(Eq.trans (wantG1 (j := 19) rfl (f19 (doneD hd 19 rfl))) hG), L_lenR (n := l.length) UD_61 (Rd.own' hr hs) (by simp) ((g21).trans (condT (by exact hG))) ⟨hs, f0, f1, f2, f3, f4, f5, f6, f7, f8, f9, f10, f11, f12, f13, f14, f15, f16, f17, f18, f19, f20, f21, fun _ => (condT hG).symm, f23, f24, f25, f26, f27⟩⟩
  · rintro D ρ wx hD hd hdc hf ⟨hs, f0, f1, f2, f3, f4, f5, f6, f7, f8, f9, f10, f11, f12, f13, f14, f15, f16, f17, f18, f19, f20, f21, f22, f23, f24, f25, f26, f27⟩
    have r3 : ρ 3 = .pointer (some ⟨b3, 0, none⟩) := outD hf 3 rfl
    rcases Bool.eq_false_or_eq_true ((((!decide (cu = cv)) || (!(ou == ov))) || (!decide (tu = tw))) == false) with hG | hG
    rotate_left
    · exact .inr ⟨(Eq.trans (wantG1 (j := 19) rfl (f19 (doneD hd 19 rfl))) hG), ⟨hs, f0, f1, f2, f3, f4, f5, f6, f7, f8, f9, f10, f11, f12, f13, f14, f15, f16, f17, f18, f19, f20, f21, f22, fun _ => (condF hG).symm, f24, f25, f26, f27⟩⟩
    ·
      exact .inl ⟨(Eq.trans (wantG1 (j := 19) rfl (f19 (doneD hd 19 rfl))) hG), L_fieldAddr FA_63_1 r3 ⟨hs, f0, f1, f2, f3, f4, f5, f6, f7, f8, f9, f10, f11, f12, f13, f14, f15, f16, f17, f18, f19, f20, f21, f22, fun _ => (condT hG).symm, f24, f25, f26, f27⟩⟩
  · rintro D ρ wx hD hd hdc hf ⟨hs, f0, f1, f2, f3, f4, f5, f6, f7, f8, f9, f10, f11, f12, f13, f14, f15, f16, f17, f18, f19, f20, f21, f22, f23, f24, f25, f26, f27⟩
    have g23 := f23 (doneD hd 23 rfl)
    rcases Bool.eq_false_or_eq_true ((((!decide (cu = cv)) || (!(ou == ov))) || (!decide (tu = tw))) == false) with hG | hG
    rotate_left
    · exact .inr ⟨(Eq.trans (wantG1 (j := 19) rfl (f19 (doneD hd 19 rfl))) hG), ⟨hs, f0, f1, f2, f3, f4, f5, f6, f7, f8, f9, f10, f11, f12, f13, f14, f15, f16, f17, f18, f19, f20, f21, f22, f23, fun _ => (condF hG).symm, f25, f26, f27⟩⟩
    ·
      exact .inl ⟨(Eq.trans (wantG1 (j := 19) rfl (f19 (doneD hd 19 rfl))) hG), L_ld (V := .slice b l2.length e) S1_61 hs 1 rfl ((g23).trans (condT (by exact hG))) rfl ⟨hs, f0, f1, f2, f3, f4, f5, f6, f7, f8, f9, f10, f11, f12, f13, f14, f15, f16, f17, f18, f19, f20, f21, f22, f23, fun _ => (condT hG).symm, f25, f26, f27⟩⟩
  · rintro D ρ wx hD hd hdc hf ⟨hs, f0, f1, f2, f3, f4, f5, f6, f7, f8, f9, f10, f11, f12, f13, f14, f15, f16, f17, f18, f19, f20, f21, f22, f23, f24, f25, f26, f27⟩
    have g24 := f24 (doneD hd 24 rfl)
    rcases Bool.eq_false_or_eq_true ((((!decide (cu = cv)) || (!(ou == ov))) || (!decide (tu = tw))) == false) with hG | hG
    rotate_left
    · exact .inr ⟨(Eq.trans (wantG1 (j := 19) rfl (f19 (doneD hd 19 rfl))) hG), ⟨hs, f0, f1, f2, f3, f4, f5, f6, f7, f8, f9, f10, f11, f12, f13, f14, f15, f16, f17, f18, f19, f20, f21, f22, f23, f24, fun _ => (condF hG).symm, f26, f27⟩⟩
    ·
      exact .inl ⟨(Eq.trans (wantG1 (j := 19) rfl (f19 (doneD hd 19 rfl))) hG), L_lenR (n := l2.length) UD_61 (Rd.own' hq hs) (by simp) ((g24).trans (condT (by exact hG))) ⟨hs, f0, f1, f2, f3, f4, f5, f6, f7, f8, f9, f10, f11, f12, f13, f14, f15, f16, f17, f18, f19, f20, f21, f22, f23, f24, fun _ => (condT hG).symm, f26, f27⟩⟩
  · rintro D ρ wx hD hd hdc hf ⟨hs, f0, f1, f2, f3, f4, f5, f6, f7, f8, f9, f10, f11, f12, f13, f14, f15, f16, f17, f18, f19, f20, f21, f22, f23, f24, f25, f26, f27⟩
    have g22 := f22 (doneD hd 22 rfl)
    have g25 := f25 (doneD hd 25 rfl)
    rcases Bool.eq_false_or_eq_true ((((!decide (cu = cv)) || (!(ou == ov))) || (!decide (tu = tw))) == false) with hG | hG
    rotate_left
    · exact .inr ⟨(Eq.trans (wantG1 (j := 19) rfl (f19 (doneD hd 19 rfl))) hG), ⟨hs, f0, f1, f2, f3, f4, f5, f6, f7, f8, f9, f10, f11, f12, f13, f14, f15, f16, f17, f18, f19, f20, f21, f22, f23, f24, f25, fun _ => (condF hG).symm, f27⟩⟩
    ·
      exact .inl ⟨(Eq.trans (wantG1 (j := 19) rfl (f19 (doneD hd 19 rfl))) hG), L_neq ((g22).trans (condT (by exact hG))) ((g25).trans (condT (by exact hG))) ⟨hs, f0, f1, f2, f3, f4, f5, f6, f7, f8, f9, f10, f11, f12, f13, f14, f15, f16, f17, f18, f19, f20, f21, f22, f23, f24, f25, fun _ => (condT hG).symm, f27⟩⟩
  · rintro D ρ wx hD hd hdc hf ⟨hs, f0, f1, f2, f3, f4, f5, f6, f7, f8, f9, f10, f11, f12, f13, f14, f15, f16, f17, f18, f19, f20, f21, f22, f23, f24, f25, f26, f27⟩
    have g19 := f19 (doneD hd 19 rfl)
    have g26 := f26 (doneD hd 26 rfl)
    exact .inl ⟨rfl, L_or g19 rfl (fun hg => ((g26).trans (condT (by first | exact beqT hg | rfl)))) ⟨hs, f0, f1, f2, f3, f4, f5, f6, f7, f8, f9, f10, f11, f12, f13, f14, f15, f16, f17, f18, f19, f20, f21, f22, f23, f24, f25, f26, fun _ => rfl⟩⟩
  · rintro ρ1 w1 D hD hf ⟨hs, f0, f1, f2, f3, f4, f5, f6, f7, f8, f9, f10, f11, f12, f13, f14, f15, f16, f17, f18, f19, f20, f21, f22, f23, f24, f25, f26, f27⟩
    have e27 := f27 (hD 27 rfl)
    clear f0 f1 f2 f3 f4 f5 f6 f7 f8 f9 f10 f11 f12 f13 f14 f15 f16 f17 f18 f19 f20 f21 f22 f23 f24 f25 f26 f27
    obtain ⟨ρ2, hρ⟩ : ∃ ρ2, ρ1 = upd (mix [6, 7, 8, 9, 10, 11, 12, 13, 14, 15, 16, 17, 18, 19, 20, 21, 22, 23, 24, 25, 26, 27, 28, 29, 30, 31, 32, 33] ρ2 _) 33 (.bool ((((!decide (cu = cv)) || (!(ou == ov))) || (!decide (tu = tw))) || (!decide (((l.length : Nat) : Int) = ((l2.length : Nat) : Int))))) := ⟨ρ1, upd_of (mix_of (ds := [6, 7, 8, 9, 10, 11, 12, 13, 14, 15, 16, 17, 18, 19, 20, 21, 22, 23, 24, 25, 26, 27, 28, 29, 30, 31, 32, 33]) hf) e27⟩
    clear hf hD e27
    subst hρ
    refine W_cond (t := (((!decide (cu = cv)) || (!(ou == ov))) || (!decide (tu = tw))) || (!decide (((l.length : Nat) : Int) = ((l2.length : Nat) : Int)))) rfl (fun c6 => ?_) (fun c6 => ?_)
    ·
      refine W_seq ?_
      refine W_region ?_
      refine RW_op (L_assign (V := .bool false) rfl ?_)
      refine RW_nil ?_
      refine W_ret ?_
      refine ⟨_, res_one (V := .bool false) Try.results33 rfl, ?_⟩
      refine ⟨congrArg Ending.returned ?_, hs.take 0⟩
      refine congrArg Value.bool ?_
      have hc := c6
      by_cases hll : l = l2
      · subst hll; simp at hc ⊢; grind
      · rw [decide_eq_false hll, Bool.and_false]
    ·
      have c6r := or_r c6
      replace c6 := or_l c6
      have c6rr := or_r c6
      replace c6 := or_l c6
      have c6rrr := or_r c6
      replace c6 := or_l c6
      replace c6 := not_f c6
      replace c6 := of_decide_eq_true c6
      replace c6rrr := not_f c6rrr
      replace c6rr := not_f c6rr
      replace c6rr := of_decide_eq_true c6rr
      replace c6r := not_f c6r
      replace c6r := of_decide_eq_true c6r
      refine W_skip ?_
      refine W_seq ?_
      refine W_seq ?_
      refine W_region ?_
      refine RW_op (L_assign (V := .int .i64 0) rfl ?_)
      refine RW_nil ?_
      refine W_block ?_
      refine W_loopI (fun ρ m ρ' w' => ∃ (ρo : Env) (k : Nat), ρ' = upd (mix [4, 5, 34, 35, 36, 37, 38, 39, 40, 41, 42, 43, 44, 45, 46, 47, 48, 49, 50, 51] ρo ρ) 5 (.int .i64 (k : Int)) ∧ (k ≤ l.length) ∧ (∀ j : Nat, j < k → gd l j = gd l2 j) ∧ m = l.length - k ∧ Own w no w' [blk b1 [.int .u16 cu, .slice a l.length c, .bool ou, .int .u32 tu] 63, blk b3 [.int .u16 cv, .slice b l2.length e, .bool ov, .int .u32 tw] 63]) ?_ ?_
      · exact ⟨_, _, 0, upd_of (mix_of (ds := [4, 5, 34, 35, 36, 37, 38, 39, 40, 41, 42, 43, 44, 45, 46, 47, 48, 49, 50, 51]) (Agr.refl _ _)) rfl, (by omega), (fun j hj => absurd hj (Nat.not_lt_zero j)), rfl, hs⟩
      · rintro m ρ' w7 ⟨ρo, k, rfl, hk, heq, rfl, hs⟩
        refine W_seq ?_
        refine W_seq ?_
        refine W_region ?_
        refine RW_op (L_move (V := .int .i64 (k : Int)) rfl ?_)
        refine RW_op (L_fieldAddr FA_63_1 rfl ?_)
        refine RW_op (L_ld (V := .slice a l.length c) S1_61 hs 0 rfl rfl rfl ?_)
        refine RW_op (L_lenR (n := l.length) UD_61 (Rd.own' hr hs) (by simp) rfl ?_)
        refine RW_op (L_lss rfl rfl ?_)
        refine RW_nil ?_
        refine W_cond (t := decide ((k : Int) < ((l.length : Nat) : Int))) rfl (fun c8 => ?_) (fun c8 => ?_)
        ·
          replace c8 := of_decide_eq_true c8
          refine W_skip ?_
          refine W_seq ?_
          refine W_block ?_
          refine W_seq ?_
          replace hs := hs.drew
          refine W_draw2 HM [41, 42, 43, 44, 45, 46, 47, 48, 49, 50, 51] [[], [0], [], [1, 2], [3], [], [5], [], [6, 7], [8], [4, 9]] (fun D ρ wx => Own w no wx [blk b1 [.int .u16 cu, .slice a l.length c, .bool ou, .int .u32 tu] 63, blk b3 [.int .u16 cv, .slice b l2.length e, .bool ov, .int .u32 tw] 63] ∧ (D 0 = true → ρ 41 = .pointer (some ⟨b1, 0 + 1, none⟩)) ∧ (D 1 = true → ρ 42 = .slice a l.length c) ∧ (D 2 = true → ρ 43 = .int .i64 (k : Int)) ∧ (D 3 = true → ρ 44 = .pointer (some ⟨bkS (.slice a l.length c), ofS (.slice a l.length c) + (k : Int).toNat * 2, none⟩)) ∧ (D 4 = true → ρ 45 = .agg (lc (gd l k)).toArray) ∧ (D 5 = true → ρ 46 = .pointer (some ⟨b3, 0 + 1, none⟩)) ∧ (D 6 = true → ρ 47 = .slice b l2.length e) ∧ (D 7 = true → ρ 48 = .int .i64 (k : Int)) ∧ (D 8 = true → ρ 49 = .pointer (some ⟨bkS (.slice b l2.length e), ofS (.slice b l2.length e) + (k : Int).toNat * 2, none⟩)) ∧ (D 9 = true → ρ 50 = .agg (lc (gd l2 k)).toArray) ∧ (D 10 = true → ρ 51 = .bool (!decide (gd l k = gd l2 k)))) rfl rfl rfl ⟨hs, fun h => absurd h Bool.false_ne_true, fun h => absurd h Bool.false_ne_true, fun h => absurd h Bool.false_ne_true, fun h => absurd h Bool.false_ne_true, fun h => absurd h Bool.false_ne_true, fun h => absurd h Bool.false_ne_true, fun h => absurd h Bool.false_ne_true, fun h => absurd h Bool.false_ne_true, fun h => absurd h Bool.false_ne_true, fun h => absurd h Bool.false_ne_true, fun h => absurd h Bool.false_ne_true⟩ ⟨?_, ?_, ?_, ?_, ?_, ?_, ?_, ?_, ?_, ?_, ?_, trivial⟩ ?_
          · rintro D ρ wx hD hd hdc hf ⟨hs, f0, f1, f2, f3, f4, f5, f6, f7, f8, f9, f10⟩
            have r2 : ρ 2 = .pointer (some ⟨b1, 0, none⟩) := outD hf 2 rfl
            exact .inl ⟨rfl, L_fieldAddr FA_63_1 r2 ⟨hs, fun _ => rfl, f1, f2, f3, f4, f5, f6, f7, f8, f9, f10⟩⟩
          · rintro D ρ wx hD hd hdc hf ⟨hs, f0, f1, f2, f3, f4, f5, f6, f7, f8, f9, f10⟩
            have g0 := f0 (doneD hd 0 rfl)
            exact .inl ⟨rfl, L_ld (V := .slice a l.length c) S1_61 hs 0 rfl g0 rfl ⟨hs, f0, fun _ => rfl, f2, f3, f4, f5, f6, f7, f8, f9, f10⟩⟩
          · rintro D ρ wx hD hd hdc hf ⟨hs, f0, f1, f2, f3, f4, f5, f6, f7, f8, f9, f10⟩
            have r5 : ρ 5 = .int .i64 (k : Int) := outD hf 5 rfl
            exact .inl ⟨rfl, L_move (V := .int .i64 (k : Int)) r5 ⟨hs, f0, f1, fun _ => rfl, f3, f4, f5, f6, f7, f8, f9, f10⟩⟩
          · rintro D ρ wx hD hd hdc hf ⟨hs, f0, f1, f2, f3, f4, f5, f6, f7, f8, f9, f10⟩
            have g1 := f1 (doneD hd 1 rfl)
            have g2 := f2 (doneD hd 2 rfl)
            exact .inl ⟨rfl, L_ixR UD_61 SA_67.1 (Rd.own' hr hs) g1 g2 (by omega) (by rw [List.length_map]; omega) ⟨hs, f0, f1, f2, fun _ => rfl, f4, f5, f6, f7, f8, f9, f10⟩⟩
          · rintro D ρ wx hD hd hdc hf ⟨hs, f0, f1, f2, f3, f4, f5, f6, f7, f8, f9, f10⟩
            have g3 := f3 (doneD hd 3 rfl)
            exact .inl ⟨rfl, L_ldRA (j := 0) (vs := lc (gd l k)) k SA_67 (Rd.own' hr hs) (gd_at (by omega)) rfl rfl g3 (by omega) ⟨hs, f0, f1, f2, f3, fun _ => rfl, f5, f6, f7, f8, f9, f10⟩⟩
          · rintro D ρ wx hD hd hdc hf ⟨hs, f0, f1, f2, f3, f4, f5, f6, f7, f8, f9, f10⟩
            have r3 : ρ 3 = .pointer (some ⟨b3, 0, none⟩) := outD hf 3 rfl
            exact .inl ⟨rfl, L_fieldAddr FA_63_1 r3 ⟨hs, f0, f1, f2, f3, f4, fun _ => rfl, f6, f7, f8, f9, f10⟩⟩
          · rintro D ρ wx hD hd hdc hf ⟨hs, f0, f1, f2, f3, f4, f5, f6, f7, f8, f9, f10⟩
            have g5 := f5 (doneD hd 5 rfl)
            exact .inl ⟨rfl, L_ld (V := .slice b l2.length e) S1_61 hs 1 rfl g5 rfl ⟨hs, f0, f1, f2, f3, f4, f5, fun _ => rfl, f7, f8, f9, f10⟩⟩
          · rintro D ρ wx hD hd hdc hf ⟨hs, f0, f1, f2, f3, f4, f5, f6, f7, f8, f9, f10⟩
            have r5 : ρ 5 = .int .i64 (k : Int) := outD hf 5 rfl
            exact .inl ⟨rfl, L_move (V := .int .i64 (k : Int)) r5 ⟨hs, f0, f1, f2, f3, f4, f5, f6, fun _ => rfl, f8, f9, f10⟩⟩
          · rintro D ρ wx hD hd hdc hf ⟨hs, f0, f1, f2, f3, f4, f5, f6, f7, f8, f9, f10⟩
            have g6 := f6 (doneD hd 6 rfl)
            have g7 := f7 (doneD hd 7 rfl)
            exact .inl ⟨rfl, L_ixR UD_61 SA_67.1 (Rd.own' hq hs) g6 g7 (by omega) (by rw [List.length_map]; omega) ⟨hs, f0, f1, f2, f3, f4, f5, f6, f7, fun _ => rfl, f9, f10⟩⟩
          · rintro D ρ wx hD hd hdc hf ⟨hs, f0, f1, f2, f3, f4, f5, f6, f7, f8, f9, f10⟩
            have g8 := f8 (doneD hd 8 rfl)
            exact .inl ⟨rfl, L_ldRA (j := 0) (vs := lc (gd l2 k)) k SA_67 (Rd.own' hq hs) (gd_at (by omega)) rfl rfl g8 (by omega) ⟨hs, f0, f1, f2, f3, f4, f5, f6, f7, f8, fun _ => rfl, f10⟩⟩
          · rintro D ρ wx hD hd hdc hf ⟨hs, f0, f1, f2, f3, f4, f5, f6, f7, f8, f9, f10⟩
            have g4 := f4 (doneD hd 4 rfl)
            have g9 := f9 (doneD hd 9 rfl)
            exact .inl ⟨rfl, L_neA (xs := lc (gd l k)) (ys := lc (gd l2 k)) Try.eqGuardType67 (EQ_67 (gd l k) (gd l2 k)) rfl g4 g9 ⟨hs, f0, f1, f2, f3, f4, f5, f6, f7, f8, f9, fun _ => rfl⟩⟩
          · rintro ρ1 w1 D hD hf ⟨hs, f0, f1, f2, f3, f4, f5, f6, f7, f8, f9, f10⟩
            have e10 := f10 (hD 10 rfl)
            clear f0 f1 f2 f3 f4 f5 f6 f7 f8 f9 f10
            obtain ⟨ρ2, hρ⟩ : ∃ ρ2, ρ1 = upd (mix [41, 42, 43, 44, 45, 46, 47, 48, 49, 50, 51] ρ2 _) 51 (.bool (!decide (gd l k = gd l2 k))) := ⟨ρ1, upd_of (mix_of (ds := [41, 42, 43, 44, 45, 46, 47, 48, 49, 50, 51]) hf) e10⟩
            clear hf hD e10
            subst hρ
            refine W_cond (t := !decide (gd l k = gd l2 k)) rfl (fun c10 => ?_) (fun c10 => ?_)
            ·
              replace c10 := not_t c10
              replace c10 := of_decide_eq_false c10
              refine W_seq ?_
              refine W_region ?_
              refine RW_op (L_assign (V := .bool false) rfl ?_)
              refine RW_nil ?_
              refine W_ret ?_
              refine ⟨_, res_one (V := .bool false) Try.results33 rfl, ?_⟩
              refine ⟨congrArg Ending.returned ?_, hs.take 0⟩
              refine congrArg Value.bool ?_
              have hne : ¬ l = l2 := fun e => by subst e; exact c10 rfl
              rw [decide_eq_false hne, Bool.and_false]
            ·
              replace c10 := not_f c10
              replace c10 := of_decide_eq_true c10
              refine W_skip ?_
              refine W_region ?_
              refine RW_op (L_move (V := .int .i64 (k : Int)) rfl ?_)
              refine RW_op (L_add (a := (k : Int)) (b := 1) (c := (k : Int) + 1) rfl rfl (wr_i64 (by omega) (by omega)) ?_)
              refine RW_op (L_assign (V := .int .i64 ((k : Int) + 1)) rfl ?_)
              refine RW_nil ?_
              refine ⟨_, ?_, _, k + 1, upd_of (mix_of (ds := [4, 5, 34, 35, 36, 37, 38, 39, 40, 41, 42, 43, 44, 45, 46, 47, 48, 49, 50, 51]) (by repeat (first | exact Agr.refl _ _ | refine Agr.upd ?_ rfl | refine Agr.mix ?_ rfl))) rfl, (by omega), (eqG_step heq c10), rfl, hs.take 2⟩
              omega
        ·
          replace c8 := of_decide_eq_false c8
          refine W_exit ?_
          refine W_seq ?_
          refine W_region ?_
          refine RW_op (L_assign (V := .bool true) rfl ?_)
          refine RW_nil ?_
          refine W_ret ?_
          refine ⟨_, res_one (V := .bool true) Try.results33 rfl, ?_⟩
          refine ⟨congrArg Ending.returned ?_, hs.take 0⟩
          refine congrArg Value.bool ?_
          have hll := sameG_yes (l := l) (m := l2) (by omega) fun j hj => heq j (by omega)
          rw [decide_eq_true hll, decide_eq_true c6, decide_eq_true c6rr, c6rrr]; rfl
theorem fViewE_ok (w : World) (a : Option Addr) (c : Nat) (l : List Opn) (cart : Int) (V : Vw) (hV : viewP l cart = V) (hl : ∀ o ∈ l, OpnOk o) (hlen : l.length ≤ 1000) (hr : Rd w (.slice a l.length c) 23 (l.map oc)) (hsortU : SortI Try.prog 76 .u16 57) : Calls Try.prog 34 #[.slice a l.length c, .int .u16 cart] w (fun e w' => ∃ x : Option Addr × Nat, e = .returned (.agg [.int .u16 (V).cart, .slice x.1 (V).lines.length x.2, .bool (V).out, .int .u32 (V).tick].toArray) ∧ Own w no w' [row (.slice x.1 (V).lines.length x.2) ((V).lines.map lc) 67 2] ∧ True) := by
  subst hV; exact fView_ok w a c l cart hl hlen hr hsortU
end Tf
end Go.Proofs
namespace Go.Proofs
open Go Go.Vx Go.RowKit
open Tt
namespace Tf
set_option maxRecDepth 20000 in
theorem BT_59 : Bt Try.prog 59 [(0, 2), (2, 1), (3, 1), (4, 1), (5, 1), (6, 1), (7, 16)] (oc (⟨(⟨0, 0⟩ : Dot), 0, 0, 0, 0, 0, vzero⟩ : Opn)) := Bt_struct Try.type59 rfl rfl Try.underlying59 (by kernel_rfl)
theorem EN_37 : En Try.prog 37 := Try.call37
theorem EN_53 : En Try.prog 53 := Try.call53
theorem FA_67_1 : FA Try.prog 67 1 1 := fun b o w => by simp [Instr.fieldAt, Instr.sureAddr, fieldPlace, add_eq]
theorem UD_90 : Ud Try.prog 90 (.slice 4) := Try.runUnderlying90
theorem alive_all {o : Opn} (h : o = aliveA ∨ o = aliveB ∨ o = aliveC) : OpnOk o := by
  obtain ⟨h1, h2, h3⟩ := alive_ok
  rcases h with rfl | rfl | rfl <;> assumption
set_option maxRecDepth 20000 in
set_option maxHeartbeats 4000000 in
theorem alive7_ok (w : World) (hsortU : SortI Try.prog 76 .u16 57) : Calls Try.prog 32 #[] w (fun e w' => e = .returned (.bool true) ∧ Own w no w' []) := by
  refine calls_of_Wn (n := 80) Try.func32 rfl Try.ntmps32 rfl ?_
  have hs := Own.start w
  have ⟨hoA, hoB, hoC⟩ := alive_ok
  refine W_seq ?_
  refine W_region ?_
  refine RW_op (L_assign (V := .bool false) rfl ?_)
  refine RW_nil ?_
  refine W_seq ?_
  refine W_region ?_
  refine RW_op (L_build (vs := [(1, .int .u32 1)]) (cs := dc (⟨0, 1⟩ : Dot)) BT_34 (rfl) rfl ?_)
  refine RW_op (opW_to (V := .agg (oc (⟨(⟨0, 1⟩ : Dot), 1, 3, 4, 2, 5, vzero⟩ : Opn)).toArray) (V' := .agg (oc aliveA).toArray) (L_build (vs := [(0, .agg (dc (⟨0, 1⟩ : Dot)).toArray), (1, .int .u8 1), (2, .int .u16 3), (3, .int .u16 4), (4, .int .u16 2), (5, .int .u32 5)]) (cs := oc (⟨(⟨0, 1⟩ : Dot), 1, 3, 4, 2, 5, vzero⟩ : Opn)) BT_59 (rfl) rfl ⟨rfl, rfl⟩) rfl ?_)
  refine RW_op (L_alloc (cs := oc (⟨(⟨0, 0⟩ : Dot), 0, 0, 0, 0, 0, vzero⟩ : Opn)) ZV_59 rfl hs fun b1 w2 hs => ?_)
  refine RW_op (L_st (V := .agg (oc aliveA).toArray) (vs := oc aliveA) (cs' := oc aliveA) SA_59.1 hs 0 rfl rfl rfl rfl rfl (Nat.le_of_ble_eq_true rfl) (oc_one _) (spl_whole rfl) fun w3 hs => ?_)
  refine RW_nil ?_
  refine W_seq ?_
  refine W_region ?_
  refine RW_op (L_build (vs := [(0, .int .u8 1), (1, .int .u32 1)]) (cs := dc (⟨1, 1⟩ : Dot)) BT_34 (rfl) rfl ?_)
  refine RW_op (opW_to (V := .agg (oc (⟨(⟨1, 1⟩ : Dot), 1, 3, 4, 3, 9, vzero⟩ : Opn)).toArray) (V' := .agg (oc aliveB).toArray) (L_build (vs := [(0, .agg (dc (⟨1, 1⟩ : Dot)).toArray), (1, .int .u8 1), (2, .int .u16 3), (3, .int .u16 4), (4, .int .u16 3), (5, .int .u32 9)]) (cs := oc (⟨(⟨1, 1⟩ : Dot), 1, 3, 4, 3, 9, vzero⟩ : Opn)) BT_59 (rfl) rfl ⟨rfl, rfl⟩) rfl ?_)
  refine RW_op (L_alloc (cs := oc (⟨(⟨0, 0⟩ : Dot), 0, 0, 0, 0, 0, vzero⟩ : Opn)) ZV_59 rfl hs fun b4 w5 hs => ?_)
  replace hs : Own w no w5 [blk b1 (oc aliveA) 59, blk b4 (oc (⟨(⟨0, 0⟩ : Dot), 0, 0, 0, 0, 0, vzero⟩ : Opn)) 59] := hs
  refine RW_op (L_st (V := .agg (oc aliveB).toArray) (vs := oc aliveB) (cs' := oc aliveB) SA_59.1 hs 1 rfl rfl rfl rfl rfl (Nat.le_of_ble_eq_true rfl) (oc_one _) (spl_whole rfl) fun w6 hs => ?_)
  refine RW_nil ?_
  refine W_seq ?_
  refine W_region ?_
  refine RW_op (L_build (vs := [(0, .int .u8 2), (1, .int .u32 1)]) (cs := dc (⟨2, 1⟩ : Dot)) BT_34 (rfl) rfl ?_)
  refine RW_op (L_build (vs := [(0, .int .u32 1)]) (cs := vc (vset vzero 0 1)) BT_24 (rfl) rfl ?_)
  refine RW_op (opW_to (V := .agg (oc (⟨(⟨2, 1⟩ : Dot), 2, 3, 4, 1, 7, vset vzero 0 1⟩ : Opn)).toArray) (V' := .agg (oc aliveC).toArray) (L_build (vs := [(0, .agg (dc (⟨2, 1⟩ : Dot)).toArray), (1, .int .u8 2), (2, .int .u16 3), (3, .int .u16 4), (4, .int .u16 1), (5, .int .u32 7), (6, .agg (vc (vset vzero 0 1)).toArray)]) (cs := oc (⟨(⟨2, 1⟩ : Dot), 2, 3, 4, 1, 7, vset vzero 0 1⟩ : Opn)) BT_59 (rfl) rfl ⟨rfl, rfl⟩) rfl ?_)
  refine RW_op (L_alloc (cs := oc (⟨(⟨0, 0⟩ : Dot), 0, 0, 0, 0, 0, vzero⟩ : Opn)) ZV_59 rfl hs fun b7 w8 hs => ?_)
  refine RW_op (L_st (V := .agg (oc aliveC).toArray) (vs := oc aliveC) (cs' := oc aliveC) SA_59.1 hs 2 rfl rfl rfl rfl rfl (Nat.le_of_ble_eq_true rfl) (oc_one _) (spl_whole rfl) fun w9 hs => ?_)
  replace hs : Own w no w9 [blk b1 (oc aliveA) 59, blk b4 (oc aliveB) 59, blk b7 (oc aliveC) 59] := hs
  refine RW_nil ?_
  refine W_seq ?_
  refine W_region ?_
  refine RW_op (L_ldW (cs := oc aliveA) SA_59 hs 0 rfl rfl rfl ?_)
  refine RW_op (L_ldW (cs := oc aliveB) SA_59 hs 1 rfl rfl rfl ?_)
  refine RW_op (L_bs (vals := [.agg (oc aliveA).toArray, .agg (oc aliveB).toArray]) (ls := List.map oc ([aliveA, aliveB] : List Opn)) EL_56 rfl rfl rfl (len_map (enc := oc) (fun _ => rfl) _) (one_map oc_one _) (Nat.le_of_ble_eq_true rfl) hs fun b10 w11 hs => ?_)
  refine RW_op (L_callX (α := Option Addr × Nat) (vs := [.slice (some ⟨b10, 0, none⟩) 2 2, .int .u16 3]) (V := fun x => .agg ([.int .u16 (((⟨3, [⟨4, 5⟩], false, 9⟩ : Vw)).cart), .slice x.1 ([(⟨4, 5⟩ : Line)].length) x.2, .bool false, .int .u32 9]).toArray) (Lo := fun x => [row (.slice x.1 [(⟨4, 5⟩ : Line)].length x.2) ([(⟨4, 5⟩ : Line)].map lc) 67 2]) (F := fun _ _ => True) EN_34 rfl rfl ?hc hs fun x13 w12 hs _ => ?_)
  case hc => exact (fViewE_ok _ (some ⟨b10, 0, none⟩) 2 [aliveA, aliveB] 3 (⟨3, [⟨4, 5⟩], false, 9⟩ : Vw) (aliveV1) (fun o ho => alive_all (by simp only [List.mem_cons, List.not_mem_nil, or_false] at ho; grind)) (by decide) (hs.rd 3 rfl) hsortU)
  refine RW_op (L_alloc (cs := [.int .u16 0, .slice none 0 0, .bool false, .int .u32 0]) ZV_63 rfl hs fun b14 w15 hs => ?_)
  replace hs : Own w no w15 [blk b1 (oc aliveA) 59, blk b4 (oc aliveB) 59, blk b7 (oc aliveC) 59, row (.slice (some ⟨b10, 0, none⟩) 2 2) ([aliveA, aliveB].map oc) 59 23, row (.slice x13.1 ([(⟨4, 5⟩ : Line)].length) x13.2) ([(⟨4, 5⟩ : Line)].map lc) 67 2, blk b14 [.int .u16 0, .slice none 0 0, .bool false, .int .u32 0] 63] := hs
  refine RW_op (L_st (V := .agg ([.int .u16 (((⟨3, [⟨4, 5⟩], false, 9⟩ : Vw)).cart), .slice x13.1 ([(⟨4, 5⟩ : Line)].length) x13.2, .bool false, .int .u32 9]).toArray) (vs := [.int .u16 (((⟨3, [⟨4, 5⟩], false, 9⟩ : Vw)).cart), .slice x13.1 ([(⟨4, 5⟩ : Line)].length) x13.2, .bool false, .int .u32 9]) (cs' := [.int .u16 (((⟨3, [⟨4, 5⟩], false, 9⟩ : Vw)).cart), .slice x13.1 ([(⟨4, 5⟩ : Line)].length) x13.2, .bool false, .int .u32 9]) SA_63.1 hs 5 rfl rfl rfl rfl rfl (Nat.le_of_ble_eq_true rfl) (one_cons rfl (one_cons rfl (one_cons rfl (one_cons rfl one_nil)))) (spl_whole rfl) fun w16 hs => ?_)
  refine RW_nil ?_
  refine W_seq ?_
  refine W_region ?_
  refine RW_op (L_ldW (cs := oc aliveA) SA_59 hs 0 rfl rfl rfl ?_)
  refine RW_op (L_ldW (cs := oc aliveB) SA_59 hs 1 rfl rfl rfl ?_)
  refine RW_op (L_ldW (cs := oc aliveC) SA_59 hs 2 rfl rfl rfl ?_)
  refine RW_op (L_bs (vals := [.agg (oc aliveA).toArray, .agg (oc aliveB).toArray, .agg (oc aliveC).toArray]) (ls := List.map oc ([aliveA, aliveB, aliveC] : List Opn)) EL_56 rfl rfl rfl (len_map (enc := oc) (fun _ => rfl) _) (one_map oc_one _) (Nat.le_of_ble_eq_true rfl) hs fun b17 w18 hs => ?_)
  refine RW_op (L_callX (α := Option Addr × Nat) (vs := [.slice (some ⟨b17, 0, none⟩) 3 3, .int .u16 3]) (V := fun x => .agg ([.int .u16 (((⟨3, [⟨4, 4⟩], false, 9⟩ : Vw)).cart), .slice x.1 ([(⟨4, 4⟩ : Line)].length) x.2, .bool false, .int .u32 9]).toArray) (Lo := fun x => [row (.slice x.1 [(⟨4, 4⟩ : Line)].length x.2) ([(⟨4, 4⟩ : Line)].map lc) 67 2]) (F := fun _ _ => True) EN_34 rfl rfl ?hc hs fun x20 w19 hs _ => ?_)
  case hc => exact (fViewE_ok _ (some ⟨b17, 0, none⟩) 3 [aliveA, aliveB, aliveC] 3 (⟨3, [⟨4, 4⟩], false, 9⟩ : Vw) (aliveV2) (fun o ho => alive_all (by simp only [List.mem_cons, List.not_mem_nil, or_false] at ho; grind)) (by decide) (hs.rd 6 rfl) hsortU)
  replace hs : Own w no w19 [blk b1 (oc aliveA) 59, blk b4 (oc aliveB) 59, blk b7 (oc aliveC) 59, row (.slice (some ⟨b10, 0, none⟩) 2 2) ([aliveA, aliveB].map oc) 59 23, row (.slice x13.1 ([(⟨4, 5⟩ : Line)].length) x13.2) ([(⟨4, 5⟩ : Line)].map lc) 67 2, blk b14 [.int .u16 (((⟨3, [⟨4, 5⟩], false, 9⟩ : Vw)).cart), .slice x13.1 ([(⟨4, 5⟩ : Line)].length) x13.2, .bool false, .int .u32 9] 63, row (.slice (some ⟨b17, 0, none⟩) 3 3) ([aliveA, aliveB, aliveC].map oc) 59 23, row (.slice x20.1 ([(⟨4, 4⟩ : Line)].length) x20.2) ([(⟨4, 4⟩ : Line)].map lc) 67 2] := hs
  refine RW_op (L_alloc (cs := [.int .u16 0, .slice none 0 0, .bool false, .int .u32 0]) ZV_63 rfl hs fun b21 w22 hs => ?_)
  refine RW_op (L_st (V := .agg ([.int .u16 (((⟨3, [⟨4, 4⟩], false, 9⟩ : Vw)).cart), .slice x20.1 ([(⟨4, 4⟩ : Line)].length) x20.2, .bool false, .int .u32 9]).toArray) (vs := [.int .u16 (((⟨3, [⟨4, 4⟩], false, 9⟩ : Vw)).cart), .slice x20.1 ([(⟨4, 4⟩ : Line)].length) x20.2, .bool false, .int .u32 9]) (cs' := [.int .u16 (((⟨3, [⟨4, 4⟩], false, 9⟩ : Vw)).cart), .slice x20.1 ([(⟨4, 4⟩ : Line)].length) x20.2, .bool false, .int .u32 9]) SA_63.1 hs 8 rfl rfl rfl rfl rfl (Nat.le_of_ble_eq_true rfl) (one_cons rfl (one_cons rfl (one_cons rfl (one_cons rfl one_nil)))) (spl_whole rfl) fun w23 hs => ?_)
  refine RW_nil ?_
  refine W_seq ?_
  refine W_region ?_
  refine RW_op (L_fieldAddr FA_63_1 rfl ?_)
  refine RW_op (L_ld (V := .slice x13.1 ([(⟨4, 5⟩ : Line)].length) x13.2) S1_61 hs 5 rfl rfl rfl ?_)
  refine RW_op (L_lenR (n := [(⟨4, 5⟩ : Line)].length) UD_61 (hs.rd 4 rfl) (by simp) rfl ?_)
  refine RW_op (opW_to (V := .bool (decide ((([(⟨4, 5⟩ : Line)].length : Nat) : Int) = 1))) (V' := .bool true) (L_eql rfl rfl ⟨rfl, rfl⟩) (congrArg Value.bool (by decide)) ?_)
  refine RW_op (L_move (V := .bool true) rfl ?_)
  refine RW_gy rfl (L_fieldAddr FA_63_1 rfl ?_)
  refine RW_gy rfl (L_ld (V := .slice x13.1 ([(⟨4, 5⟩ : Line)].length) x13.2) S1_61 hs 5 rfl rfl rfl ?_)
  refine RW_gy rfl (L_ixR UD_61 SA_67.1 (hs.rd 4 rfl) rfl rfl (by decide) (by simp only [List.length_map, List.length_cons, List.length_nil]; omega) ?_)
  refine RW_gy rfl (L_ldRA (j := 0) (vs := lc (gd [(⟨4, 5⟩ : Line)] 0)) 0 SA_67 (hs.rd 4 rfl) (gd_at (by simp only [List.length_cons, List.length_nil]; omega)) rfl rfl rfl (by omega) ?_)
  refine RW_gy rfl (L_build (vs := [(0, .int .u16 4), (1, .int .u32 5)]) (cs := lc (⟨4, 5⟩ : Line)) BT_67 (rfl) rfl ?_)
  refine RW_gy rfl (opW_to (V := .bool (decide (gd [(⟨4, 5⟩ : Line)] 0 = (⟨4, 5⟩ : Line)))) (V' := .bool true) (L_eqA (xs := lc (gd [(⟨4, 5⟩ : Line)] 0)) (ys := lc (⟨4, 5⟩ : Line)) Try.eqGuardType67 (EQ_67 (gd [(⟨4, 5⟩ : Line)] 0) (⟨4, 5⟩ : Line)) rfl rfl rfl ⟨rfl, rfl⟩) (congrArg Value.bool (by decide)) ?_)
  refine RW_op (L_pick (V := .bool true) rfl rfl ?_)
  refine RW_op (L_move (V := .bool true) rfl ?_)
  refine RW_gy rfl (L_fieldAddr FA_63_3 rfl ?_)
  refine RW_gy rfl (L_ld (V := .int .u32 9) S1_22 hs 5 rfl rfl rfl ?_)
  refine RW_gy rfl (opW_to (V := .bool (decide ((9 : Int) = 9))) (V' := .bool true) (L_eql rfl rfl ⟨rfl, rfl⟩) (congrArg Value.bool (by decide)) ?_)
  refine RW_op (L_pick (V := .bool true) rfl rfl ?_)
  refine RW_op (L_move (V := .bool true) rfl ?_)
  refine RW_gy rfl (L_fieldAddr FA_63_1 rfl ?_)
  refine RW_gy rfl (L_ld (V := .slice x20.1 ([(⟨4, 4⟩ : Line)].length) x20.2) S1_61 hs 8 rfl rfl rfl ?_)
  refine RW_gy rfl (L_lenR (n := [(⟨4, 4⟩ : Line)].length) UD_61 (hs.rd 7 rfl) (by simp) rfl ?_)
  refine RW_gy rfl (opW_to (V := .bool (decide ((([(⟨4, 4⟩ : Line)].length : Nat) : Int) = 1))) (V' := .bool true) (L_eql rfl rfl ⟨rfl, rfl⟩) (congrArg Value.bool (by decide)) ?_)
  refine RW_op (L_pick (V := .bool true) rfl rfl ?_)
  refine RW_op (L_move (V := .bool true) rfl ?_)
  refine RW_gy rfl (L_fieldAddr FA_63_1 rfl ?_)
  refine RW_gy rfl (L_ld (V := .slice x20.1 ([(⟨4, 4⟩ : Line)].length) x20.2) S1_61 hs 8 rfl rfl rfl ?_)
  refine RW_gy rfl (L_ixR UD_61 SA_67.1 (hs.rd 7 rfl) rfl rfl (by decide) (by simp only [List.length_map, List.length_cons, List.length_nil]; omega) ?_)
  refine RW_gy rfl (L_fieldAddr FA_67_1 rfl ?_)
  refine RW_gy rfl (L_ldR (j := 1) (V := .int .u32 ((gd [(⟨4, 4⟩ : Line)] 0).qty)) 0 S1_22 (hs.rd 7 rfl) (gd_at (by simp only [List.length_cons, List.length_nil]; omega)) rfl rfl (by omega) ?_)
  refine RW_gy rfl (opW_to (V := .bool (decide ((gd [(⟨4, 4⟩ : Line)] 0).qty = 4))) (V' := .bool true) (L_eql rfl rfl ⟨rfl, rfl⟩) (congrArg Value.bool (by decide)) ?_)
  refine RW_op (L_pick (V := .bool true) rfl rfl ?_)
  refine RW_op (L_move (V := .bool true) rfl ?_)
  refine RW_gy rfl (L_ldW (cs := oc aliveA) SA_59 hs 0 rfl rfl rfl ?_)
  refine RW_gy rfl (L_bs (vals := [.agg (oc aliveA).toArray]) (ls := List.map oc ([aliveA] : List Opn)) EL_56 rfl rfl rfl (len_map (enc := oc) (fun _ => rfl) _) (one_map oc_one _) (Nat.le_of_ble_eq_true rfl) hs fun b24 w25 hs => ?_)
  replace hs : Own w no w25 [blk b1 (oc aliveA) 59, blk b4 (oc aliveB) 59, blk b7 (oc aliveC) 59, row (.slice (some ⟨b10, 0, none⟩) 2 2) ([aliveA, aliveB].map oc) 59 23, row (.slice x13.1 ([(⟨4, 5⟩ : Line)].length) x13.2) ([(⟨4, 5⟩ : Line)].map lc) 67 2, blk b14 [.int .u16 (((⟨3, [⟨4, 5⟩], false, 9⟩ : Vw)).cart), .slice x13.1 ([(⟨4, 5⟩ : Line)].length) x13.2, .bool false, .int .u32 9] 63, row (.slice (some ⟨b17, 0, none⟩) 3 3) ([aliveA, aliveB, aliveC].map oc) 59 23, row (.slice x20.1 ([(⟨4, 4⟩ : Line)].length) x20.2) ([(⟨4, 4⟩ : Line)].map lc) 67 2, blk b21 [.int .u16 (((⟨3, [⟨4, 4⟩], false, 9⟩ : Vw)).cart), .slice x20.1 ([(⟨4, 4⟩ : Line)].length) x20.2, .bool false, .int .u32 9] 63, row (.slice (some ⟨b24, 0, none⟩) 1 1) ([aliveA].map oc) 59 23] := hs
  refine RW_gy rfl (L_callX (α := Option Addr × Nat) (vs := [.slice (some ⟨b24, 0, none⟩) 1 1, .int .u16 2]) (V := fun x => .agg ([.int .u16 (((⟨2, [], false, 0⟩ : Vw)).cart), .slice x.1 (([] : List Line).length) x.2, .bool false, .int .u32 0]).toArray) (Lo := fun x => [row (.slice x.1 ([] : List Line).length x.2) (([] : List Line).map lc) 67 2]) (F := fun _ _ => True) EN_34 rfl rfl ?hc hs fun x27 w26 hs _ => ?_)
  case hc => exact (fViewE_ok _ (some ⟨b24, 0, none⟩) 1 [aliveA] 2 (⟨2, [], false, 0⟩ : Vw) (aliveV3) (fun o ho => alive_all (by simp only [List.mem_cons, List.not_mem_nil, or_false] at ho; grind)) (by decide) (hs.rd 9 rfl) hsortU)
  refine RW_gy rfl (L_fieldV (V := .bool false) (fun w => by simp [Instr.field, part, asAgg]) rfl ?_)
  refine RW_gy rfl (L_not rfl ?_)
  refine RW_op (L_pick (V := .bool true) rfl rfl ?_)
  refine RW_op (L_move (V := .bool true) rfl ?_)
  refine RW_gy rfl (L_ldW (cs := oc aliveC) SA_59 hs 2 rfl rfl rfl ?_)
  refine RW_gy rfl (L_ldW (cs := oc aliveA) SA_59 hs 0 rfl rfl rfl ?_)
  refine RW_gy rfl (L_bs (vals := [.agg (oc aliveC).toArray, .agg (oc aliveA).toArray]) (ls := List.map oc ([aliveC, aliveA] : List Opn)) EL_56 rfl rfl rfl (len_map (enc := oc) (fun _ => rfl) _) (one_map oc_one _) (Nat.le_of_ble_eq_true rfl) hs fun b28 w29 hs => ?_)
  refine RW_gy rfl (L_callPV (V' := .bool true) (congrArg Value.bool (aliveC1)) (vs := [.slice (some ⟨b28, 0, none⟩) 2 2]) (V := .bool (closedP [aliveC, aliveA])) EN_37 rfl rfl ?hc hs fun w30 hs => ?_)
  case hc => exact (fClosed_ok _ (some ⟨b28, 0, none⟩) 2 [aliveC, aliveA] (fun o ho => alive_all (by simp only [List.mem_cons, List.not_mem_nil, or_false] at ho; grind)) (by decide) (hs.rd 11 rfl))
  refine RW_op (L_pick (V := .bool true) rfl rfl ?_)
  refine RW_op (L_move (V := .bool true) rfl ?_)
  refine RW_gy rfl (L_ldW (cs := oc aliveC) SA_59 hs 2 rfl rfl rfl ?_)
  refine RW_gy rfl (L_bs (vals := [.agg (oc aliveC).toArray]) (ls := List.map oc ([aliveC] : List Opn)) EL_56 rfl rfl rfl (len_map (enc := oc) (fun _ => rfl) _) (one_map oc_one _) (Nat.le_of_ble_eq_true rfl) hs fun b31 w32 hs => ?_)
  replace hs : Own w no w32 [blk b1 (oc aliveA) 59, blk b4 (oc aliveB) 59, blk b7 (oc aliveC) 59, row (.slice (some ⟨b10, 0, none⟩) 2 2) ([aliveA, aliveB].map oc) 59 23, row (.slice x13.1 ([(⟨4, 5⟩ : Line)].length) x13.2) ([(⟨4, 5⟩ : Line)].map lc) 67 2, blk b14 [.int .u16 (((⟨3, [⟨4, 5⟩], false, 9⟩ : Vw)).cart), .slice x13.1 ([(⟨4, 5⟩ : Line)].length) x13.2, .bool false, .int .u32 9] 63, row (.slice (some ⟨b17, 0, none⟩) 3 3) ([aliveA, aliveB, aliveC].map oc) 59 23, row (.slice x20.1 ([(⟨4, 4⟩ : Line)].length) x20.2) ([(⟨4, 4⟩ : Line)].map lc) 67 2, blk b21 [.int .u16 (((⟨3, [⟨4, 4⟩], false, 9⟩ : Vw)).cart), .slice x20.1 ([(⟨4, 4⟩ : Line)].length) x20.2, .bool false, .int .u32 9] 63, row (.slice (some ⟨b24, 0, none⟩) 1 1) ([aliveA].map oc) 59 23, row (.slice x27.1 (([] : List Line).length) x27.2) (([] : List Line).map lc) 67 2, row (.slice (some ⟨b28, 0, none⟩) 2 2) ([aliveC, aliveA].map oc) 59 23, row (.slice (some ⟨b31, 0, none⟩) 1 1) ([aliveC].map oc) 59 23] := hs
  refine RW_gy rfl (L_callPV (V' := .bool false) (congrArg Value.bool aliveC2) (vs := [.slice (some ⟨b31, 0, none⟩) 1 1]) (V := .bool (closedP [aliveC])) EN_37 rfl rfl ?hc hs fun w33 hs => ?_)
  case hc => exact (fClosed_ok _ (some ⟨b31, 0, none⟩) 1 [aliveC] (fun o ho => alive_all (by simp only [List.mem_cons, List.not_mem_nil, or_false] at ho; grind)) (by decide) (hs.rd 12 rfl))
  refine RW_gy rfl (L_not rfl ?_)
  refine RW_op (L_pick (V := .bool true) rfl rfl ?_)
  refine RW_op (L_move (V := .bool true) rfl ?_)
  refine RW_gy rfl (L_ldW (cs := oc aliveA) SA_59 hs 0 rfl rfl rfl ?_)
  refine RW_gy rfl (L_ldW (cs := oc aliveC) SA_59 hs 2 rfl rfl rfl ?_)
  refine RW_gy rfl (L_bs (vals := [.agg (oc aliveA).toArray, .agg (oc aliveC).toArray]) (ls := List.map oc ([aliveA, aliveC] : List Opn)) EL_56 rfl rfl rfl (len_map (enc := oc) (fun _ => rfl) _) (one_map oc_one _) (Nat.le_of_ble_eq_true rfl) hs fun b34 w35 hs => ?_)
  refine RW_gy rfl (L_callX (vs := [.slice (some ⟨b34, 0, none⟩) 2 2]) EN_53 rfl rfl (fLives_ok _ (some ⟨b34, 0, none⟩) 2 [aliveA, aliveC] (fun o ho => alive_all (by simp only [List.mem_cons, List.not_mem_nil, or_false] at ho; grind)) (by decide) (hs.rd 13 rfl) ) hs fun x37 w36 hs _ => ?_)
  refine RW_gy rfl (L_lenR (n := ([aliveA, aliveC].map (liveB [aliveA, aliveC])).length) UD_90 (hs.rd 14 rfl) (by simp) rfl ?_)
  refine RW_gy rfl (opW_to (V := .bool (decide (((([aliveA, aliveC].map (liveB [aliveA, aliveC])).length : Nat) : Int) = 2))) (V' := .bool true) (L_eql rfl rfl ⟨rfl, rfl⟩) (congrArg Value.bool (by decide)) ?_)
  refine RW_op (L_pick (V := .bool true) rfl rfl ?_)
  refine RW_op (L_assign (V := .bool true) rfl ?_)
  refine RW_nil ?_
  refine W_ret ?_
  refine ⟨_, res_one (V := .bool true) Try.results32 rfl, ?_⟩
  refine ⟨congrArg Ending.returned ?_, hs.take 0⟩
  rfl
end Tf
end Go.Proofs
namespace Go.Proofs
open Go Go.Vx Go.RowKit
open Tt
namespace Tf
theorem EN_32 : En Try.prog 32 := Try.call32
theorem EN_35 : En Try.prog 35 := Try.call35
theorem EN_36 : En Try.prog 36 := Try.call36
end Tf
end Go.Proofs
namespace Go.Proofs
open Go Go.Vx Go.RowKit
open Tt
namespace Tf
theorem EN_33 : En Try.prog 33 := Try.call33
theorem UD_69 : Ud Try.prog 69 (.array 2 5) := Try.runUnderlying69
theorem UD_70 : Ud Try.prog 70 (.map 34 3) := Try.runUnderlying70
theorem ZV_3 : Zv Try.prog 3 (.int .i64 0) := Try.zeroValue3
set_option maxRecDepth 20000 in
set_option maxHeartbeats 4000000 in
theorem foldAny_ok (w : World) (a : Option Addr) (c : Nat) (l : List Opn) (hl : ∀ o ∈ l, OpnOk o) (hr : Rd w (.slice a l.length c) 23 (l.map oc)) (hsortU : SortI Try.prog 76 .u16 57) (cart at0 at1 : Int) (h0 : 0 ≤ at0 ∧ at0 < 256) (h1 : 0 ≤ at1 ∧ at1 < 256) : Calls Try.prog 12 #[.slice a l.length c, .int .u16 cart, .agg ([.int .u8 at0, .int .u8 at1]).toArray] w (fun e w' => e = .returned (.bool true) ∧ Own w no w' []) := by
  refine calls_of_Wn (n := 103) Try.func12 rfl Try.ntmps12 rfl ?_
  have hs := Own.start w
  have hn := hr.sml
  have ⟨h0a, h0b⟩ := h0
  have ⟨h1a, h1b⟩ := h1
  refine W_seq ?_
  refine W_region ?_
  refine RW_op (L_box (V := .agg ([.int .u8 at0, .int .u8 at1]).toArray) (cs := [.int .u8 at0, .int .u8 at1]) rfl rfl hs fun b1 w2 hs => ?_)
  refine RW_op (L_assign (V := .bool false) rfl ?_)
  refine RW_nil ?_
  refine W_seq ?_
  refine W_seq ?_
  refine W_region ?_
  refine RW_op (L_callP (vs := []) (V := .bool true) EN_32 rfl rfl ?hc hs fun w3 hs => ?_)
  case hc => exact (alive7_ok _ hsortU)
  refine RW_op (L_not rfl ?_)
  refine RW_nil ?_
  refine W_condF rfl ?_
  refine W_skip ?_
  refine W_seq ?_
  refine W_seq ?_
  refine W_inv2 [15, 16, 17, 18, 19, 20, 21, 22] [[], [0], [1], [2], [3], [4, 3], [5, 3], [3, 6]] (fun D ρ wx => Own w no wx [blk b1 [.int .u8 at0, .int .u8 at1] 69] ∧ (D 0 = true → ρ 15 = .slice a l.length c) ∧ (D 1 = true → ρ 16 = .int .i64 ((l.length : Nat) : Int)) ∧ (D 2 = true → ρ 17 = .bool (decide (40 < ((l.length : Nat) : Int)))) ∧ (D 3 = true → ρ 18 = .bool (decide (40 < ((l.length : Nat) : Int)))) ∧ (D 4 = true → ρ 19 = cond ((decide (40 < ((l.length : Nat) : Int))) == false) (.slice a l.length c) undef) ∧ (D 5 = true → ρ 20 = cond ((decide (40 < ((l.length : Nat) : Int))) == false) (.int .i64 ((l.length : Nat) : Int)) undef) ∧ (D 6 = true → ρ 21 = cond ((decide (40 < ((l.length : Nat) : Int))) == false) (.bool (decide (((l.length : Nat) : Int) = 0))) undef) ∧ (D 7 = true → ρ 22 = .bool ((decide (40 < ((l.length : Nat) : Int))) || (decide (((l.length : Nat) : Int) = 0))))) rfl rfl rfl ⟨hs, fun h => absurd h Bool.false_ne_true, fun h => absurd h Bool.false_ne_true, fun h => absurd h Bool.false_ne_true, fun h => absurd h Bool.false_ne_true, fun h => absurd h Bool.false_ne_true, fun h => absurd h Bool.false_ne_true, fun h => absurd h Bool.false_ne_true, fun h => absurd h Bool.false_ne_true⟩ ⟨?_, ?_, ?_, ?_, ?_, ?_, ?_, ?_, trivial⟩ ?_
  · rintro D ρ wx hD hd hdc hf ⟨hs, f0, f1, f2, f3, f4, f5, f6, f7⟩
    have r0 : ρ 0 = .slice a l.length c := outD hf 0 rfl
    exact .inl ⟨rfl, L_move (V := .slice a l.length c) r0 ⟨hs, fun _ => rfl, f1, f2, f3, f4, f5, f6, f7⟩⟩
  · rintro D ρ wx hD hd hdc hf ⟨hs, f0, f1, f2, f3, f4, f5, f6, f7⟩
    have g0 := f0 (doneD hd 0 rfl)
    exact .inl ⟨rfl, L_lenR (n := l.length) UD_56 (Rd.own' hr hs) (by simp [anyM_len]) g0 ⟨hs, f0, fun _ => rfl, f2, f3, f4, f5, f6, f7⟩⟩
  · rintro D ρ wx hD hd hdc hf ⟨hs, f0, f1, f2, f3, f4, f5, f6, f7⟩
    have g1 := f1 (doneD hd 1 rfl)
    exact .inl ⟨rfl, L_gtr g1 rfl ⟨hs, f0, f1, fun _ => rfl, f3, f4, f5, f6, f7⟩⟩
  · rintro D ρ wx hD hd hdc hf ⟨hs, f0, f1, f2, f3, f4, f5, f6, f7⟩
    have g2 := f2 (doneD hd 2 rfl)
    exact .inl ⟨rfl, L_move (V := .bool (decide (40 < ((l.length : Nat) : Int)))) g2 ⟨hs, f0, f1, f2, fun _ => rfl, f4, f5, f6, f7⟩⟩
  · rintro D ρ wx hD hd hdc hf ⟨hs, f0, f1, f2, f3, f4, f5, f6, f7⟩
    have r0 : ρ 0 = .slice a l.length c := outD hf 0 rfl
    rcases Bool.eq_false_or_eq_true ((decide (40 < ((l.length : Nat) : Int))) == false) with hG | hG
    rotate_left
    · exact .inr ⟨(Eq.trans (wantG1 (j := 3) rfl (f3 (doneD hd 3 rfl))) hG), ⟨hs, f0, f1, f2, f3, fun _ => (condF hG).symm, f5, f6, f7⟩⟩
    ·
      exact .inl ⟨(Eq.trans (wantG1 (j := 3) rfl (f3 (doneD hd 3 rfl))) hG), L_move (V := .slice a l.length c) r0 ⟨hs, f0, f1, f2, f3, fun _ => (condT hG).symm, f5, f6, f7⟩⟩
  · rintro D ρ wx hD hd hdc hf ⟨hs, f0, f1, f2, f3, f4, f5, f6, f7⟩
    have g4 := f4 (doneD hd 4 rfl)
    rcases Bool.eq_false_or_eq_true ((decide (40 < ((l.length : Nat) : Int))) == false) with hG | hG
    rotate_left
    · exact .inr ⟨(Eq.trans (wantG1 (j := 3) rfl (f3 (doneD hd 3 rfl))) hG), ⟨hs, f0, f1, f2, f3, f4, fun _ => (condF hG).symm, f6, f7⟩⟩
    ·
      exact .inl ⟨(Eq.trans (wantG1 (j := 3) rfl (f3 (doneD hd 3 rfl))) hG), L_lenR (n := l.length) UD_56 (Rd.own' hr hs) (by simp [anyM_len]) ((g4).trans (condT (by exact hG))) ⟨hs, f0, f1, f2, f3, f4, fun _ => (condT hG).symm, f6, f7⟩⟩
  · rintro D ρ wx hD hd hdc hf ⟨hs, f0, f1, f2, f3, f4, f5, f6, f7⟩
    have g5 := f5 (doneD hd 5 rfl)
    rcases Bool.eq_false_or_eq_true ((decide (40 < ((l.length : Nat) : Int))) == false) with hG | hG
    rotate_left
    · exact .inr ⟨(Eq.trans (wantG1 (j := 3) rfl (f3 (doneD hd 3 rfl))) hG), ⟨hs, f0, f1, f2, f3, f4, f5, fun _ => (condF hG).symm, f7⟩⟩
    ·
      exact .inl ⟨(Eq.trans (wantG1 (j := 3) rfl (f3 (doneD hd 3 rfl))) hG), L_eql ((g5).trans (condT (by exact hG))) rfl ⟨hs, f0, f1, f2, f3, f4, f5, fun _ => (condT hG).symm, f7⟩⟩
  · rintro D ρ wx hD hd hdc hf ⟨hs, f0, f1, f2, f3, f4, f5, f6, f7⟩
    have g3 := f3 (doneD hd 3 rfl)
    have g6 := f6 (doneD hd 6 rfl)
    exact .inl ⟨rfl, L_or g3 rfl (fun hg => ((g6).trans (condT (by first | exact beqT hg | rfl)))) ⟨hs, f0, f1, f2, f3, f4, f5, f6, fun _ => rfl⟩⟩
  · rintro ρ1 w1 D hD hf ⟨hs, f0, f1, f2, f3, f4, f5, f6, f7⟩
    have e7 := f7 (hD 7 rfl)
    clear f0 f1 f2 f3 f4 f5 f6 f7
    obtain ⟨ρ2, hρ⟩ : ∃ ρ2, ρ1 = upd (mix [15, 16, 17, 18, 19, 20, 21, 22] ρ2 _) 22 (.bool ((decide (40 < ((l.length : Nat) : Int))) || (decide (((l.length : Nat) : Int) = 0)))) := ⟨ρ1, upd_of (mix_of (ds := [15, 16, 17, 18, 19, 20, 21, 22]) hf) e7⟩
    clear hf hD e7
    subst hρ
    refine W_cond (t := (decide (40 < ((l.length : Nat) : Int))) || (decide (((l.length : Nat) : Int) = 0))) rfl (fun c5 => ?_) (fun c5 => ?_)
    ·
      refine W_seq ?_
      refine W_region ?_
      refine RW_op (L_assign (V := .bool true) rfl ?_)
      refine RW_nil ?_
      refine W_ret ?_
      refine ⟨_, res_one (V := .bool true) Try.results12 rfl, ?_⟩
      refine ⟨congrArg Ending.returned ?_, hs.take 0⟩
      rfl
    ·
      have c5r := or_r c5
      replace c5 := or_l c5
      replace c5 := of_decide_eq_false c5
      replace c5r := of_decide_eq_false c5r
      refine W_skip ?_
      refine W_seq ?_
      refine W_region ?_
      refine RW_op (L_makeMap rfl hs dv (Value.int .i64) fun mr6 w7 hs => ?_)
      refine RW_op (L_assign (V := .map (some mr6)) rfl ?_)
      refine RW_nil ?_
      refine W_seq ?_
      refine W_seq ?_
      refine W_region ?_
      refine RW_op (L_move (V := .slice a l.length c) rfl ?_)
      refine RW_op (L_lenR (n := l.length) UD_56 (Rd.own' hr hs) (by simp [anyM_len]) rfl ?_)
      refine RW_op (L_move (V := .int .i64 0) rfl ?_)
      refine RW_nil ?_
      refine W_block ?_
      refine W_loopI (fun ρ m ρ' w' => ∃ (ρo : Env) (k : Nat) (sm : List (Dot × Int)), ρ' = upd (mix [6, 9, 26, 27, 28, 29, 30, 31, 32, 33, 34, 35, 36, 37, 38, 39, 40, 41, 42] ρo ρ) 26 (.int .i64 (k : Int)) ∧ (k ≤ l.length) ∧ (sm = seenC (l.take k)) ∧ (((l.take k).map (·.dot)).Nodup) ∧ m = l.length - k ∧ Own w no w' [blk b1 [.int .u8 at0, .int .u8 at1] 69, mapR mr6 dv (Value.int .i64) sm]) ?_ ?_
      · exact ⟨_, _, 0, [], upd_of (mix_of (ds := [6, 9, 26, 27, 28, 29, 30, 31, 32, 33, 34, 35, 36, 37, 38, 39, 40, 41, 42]) (Agr.refl _ _)) rfl, (by omega), rfl, (by simp), rfl, hs⟩
      · rintro m ρ' w8 ⟨ρo, k, sm, rfl, hk, hsm, hnd, rfl, hs⟩
        refine W_seq ?_
        refine W_region ?_
        refine RW_op (L_lss rfl rfl ?_)
        refine RW_nil ?_
        refine W_seq ?_
        refine W_cond (t := decide ((k : Int) < ((l.length : Nat) : Int))) rfl (fun c9 => ?_) (fun c9 => ?_)
        ·
          replace c9 := of_decide_eq_true c9
          refine W_skip ?_
          refine W_seq ?_
          refine W_block ?_
          refine W_seq ?_
          refine W_region ?_
          refine RW_op (L_ixR UD_56 SA_59.1 (Rd.own' hr hs) rfl rfl (by omega) (by rw [List.length_map]; omega) ?_)
          refine RW_op (L_ldRA (j := 0) (vs := oc (gd l k)) k SA_59 (Rd.own' hr hs) (gd_at (by omega)) rfl rfl rfl (by omega) ?_)
          refine RW_op (L_alloc (cs := oc (⟨(⟨0, 0⟩ : Dot), 0, 0, 0, 0, 0, vzero⟩ : Opn)) ZV_59 rfl hs fun b10 w11 hs => ?_)
          refine RW_op (L_st (V := .agg (oc (gd l k)).toArray) (vs := oc (gd l k)) (cs' := oc (gd l k)) SA_59.1 hs 2 rfl rfl rfl rfl rfl (Nat.le_of_ble_eq_true rfl) (oc_one _) (spl_whole rfl) fun w12 hs => ?_)
          replace hs : Own w no w12 [blk b1 [.int .u8 at0, .int .u8 at1] 69, mapR mr6 dv (Value.int .i64) sm, blk b10 (oc (gd l k)) 59] := hs
          refine RW_nil ?_
          refine W_seq ?_
          have hse := seenC_le (l.take k) (gd l k).dot
          rw [← hsm, List.length_take] at hse
          replace hs := hs.drew
          refine W_draw2 HM [30, 31, 32, 33, 34, 35, 36] [[], [], [1], [0, 2], [3], [0, 2, 0, 1, 2], [5], [0, 6, 4, 5, 0, 1, 2, 3, 4, 5, 6]] (fun D ρ wx => Own w no wx [blk b1 [.int .u8 at0, .int .u8 at1] 69, cond (D 7) (mapR mr6 dv (Value.int .i64) (mput ((gd l k).dot) (((mget ((gd l k).dot) sm).getD 0) + 1) sm)) (cond (D 5) (mapE mr6 dv (Value.int .i64) sm ((gd l k).dot) 0 (stOf (ρ 35))) (mapR mr6 dv (Value.int .i64) sm)), blk b10 (oc (gd l k)) 59] ∧ (D 0 = true → ρ 30 = .map (some mr6)) ∧ (D 1 = true → ρ 31 = .pointer (some ⟨b10, 0 + 0, none⟩)) ∧ (D 2 = true → ρ 32 = .agg (dc ((gd l k).dot)).toArray) ∧ (D 3 = true → ρ 33 = .int .i64 ((mget ((gd l k).dot) sm).getD 0)) ∧ (D 4 = true → ρ 34 = .int .i64 (((mget ((gd l k).dot) sm).getD 0) + 1)) ∧ (D 5 = true → ρ 35 = .tuple #[.int .i64 ((mget ((gd l k).dot) sm).getD 0), .int .i64 (((stOf (ρ 35)) : Nat) : Int)]) ∧ (D 6 = true → ρ 36 = .int .i64 (((stOf (ρ 35)) : Nat) : Int)) ∧ (True)) rfl rfl rfl ⟨hs, fun h => absurd h Bool.false_ne_true, fun h => absurd h Bool.false_ne_true, fun h => absurd h Bool.false_ne_true, fun h => absurd h Bool.false_ne_true, fun h => absurd h Bool.false_ne_true, fun h => absurd h Bool.false_ne_true, fun h => absurd h Bool.false_ne_true, trivial⟩ ⟨?_, ?_, ?_, ?_, ?_, ?_, ?_, ?_, trivial⟩ ?_
          · rintro D ρ wx hD hd hdc hf ⟨hs, f0, f1, f2, f3, f4, f5, f6, f7⟩
            have r7 : ρ 7 = .map (some mr6) := outD hf 7 rfl
            exact .inl ⟨rfl, L_move (V := .map (some mr6)) r7 ⟨hs, fun _ => rfl, f1, f2, f3, f4, f5, f6, f7⟩⟩
          · rintro D ρ wx hD hd hdc hf ⟨hs, f0, f1, f2, f3, f4, f5, f6, f7⟩
            have r9 : ρ 9 = .pointer (some ⟨b10, 0, none⟩) := outD hf 9 rfl
            exact .inl ⟨rfl, L_fieldAddr FA_59_0 r9 ⟨hs, f0, fun _ => rfl, f2, f3, f4, f5, f6, f7⟩⟩
          · rintro D ρ wx hD hd hdc hf ⟨hs, f0, f1, f2, f3, f4, f5, f6, f7⟩
            have g1 := f1 (doneD hd 1 rfl)
            exact .inl ⟨rfl, L_ldA (vs := dc ((gd l k).dot)) SA_34 hs 2 rfl g1 rfl rfl ⟨hs, f0, f1, fun _ => rfl, f3, f4, f5, f6, f7⟩⟩
          · rintro D ρ wx hD hd hdc hf ⟨hs, f0, f1, f2, f3, f4, f5, f6, f7⟩
            have g0 := f0 (doneD hd 0 rfl)
            have g2 := f2 (doneD hd 2 rfl)
            have d7 : D 7 = false := (notYetD hdc (j := 7) rfl rfl hD)
            have hs0 := hs; rw [d7] at hs0
            exact .inl ⟨rfl, L_lookupE (k := (gd l k).dot) (z := 0) UD_70 KO_34 ZV_3 hs0 1 rfl g0 g2 ⟨hs, f0, f1, f2, fun _ => rfl, f4, f5, f6, f7⟩⟩
          · rintro D ρ wx hD hd hdc hf ⟨hs, f0, f1, f2, f3, f4, f5, f6, f7⟩
            have g3 := f3 (doneD hd 3 rfl)
            exact .inl ⟨rfl, L_add (a := (mget ((gd l k).dot) sm).getD 0) (b := 1) (c := ((mget ((gd l k).dot) sm).getD 0) + 1) g3 rfl (wr_i64 (by omega) (by omega)) ⟨hs, f0, f1, f2, f3, fun _ => rfl, f5, f6, f7⟩⟩
          · rintro D ρ wx hD hd hdc hf ⟨hs, f0, f1, f2, f3, f4, f5, f6, f7⟩
            have g0 := f0 (doneD hd 0 rfl)
            have g2 := f2 (doneD hd 2 rfl)
            have n6 : D 6 = false := (notYetD hdc (j := 6) rfl rfl hD)
            have d5 : D 5 = false := hD
            have d7 : D 7 = false := (notYetD hdc (j := 7) rfl rfl hD)
            have hs0 := hs; rw [d5, d7] at hs0
            refine .inl ⟨rfl, L_mapEntry (k := (gd l k).dot) (z := 0) UD_70 KO_34 ZV_3 hs0 1 rfl g0 g2 fun _ _ hs0 => ⟨?_, f0, f1, f2, f3, f4, fun _ => rfl, (fun h => absurd (n6.symm.trans h) Bool.false_ne_true), f7⟩⟩
            rw [show Go.Vx.mark D 5 7 = false from d7]
            exact hs0
          · rintro D ρ wx hD hd hdc hf ⟨hs, f0, f1, f2, f3, f4, f5, f6, f7⟩
            have g5 := f5 (doneD hd 5 rfl)
            exact .inl ⟨rfl, L_extract (V := .int .i64 (((stOf (ρ 35)) : Nat) : Int)) g5 rfl ⟨hs, f0, f1, f2, f3, f4, f5, fun _ => rfl, f7⟩⟩
          · rintro D ρ wx hD hd hdc hf ⟨hs, f0, f1, f2, f3, f4, f5, f6, f7⟩
            have g0 := f0 (doneD hd 0 rfl)
            have g4 := f4 (doneD hd 4 rfl)
            have g6 := f6 (doneD hd 6 rfl)
            have d5 : D 5 = true := doneD hd 5 rfl
            have d7 : D 7 = false := hD
            have hs0 := hs; rw [d5, d7] at hs0
            refine .inl ⟨rfl, L_entryStore (z := 0) (v := ((mget ((gd l k).dot) sm).getD 0) + 1) hs0 1 rfl g0 g6 g4 fun _ hs0 => ⟨?_, f0, f1, f2, f3, f4, f5, f6, trivial⟩⟩
            rw [show Go.Vx.mark D 7 5 = true from d5]
            exact hs0
          · rintro ρ1 w1 D hD hf ⟨hs, f0, f1, f2, f3, f4, f5, f6, f7⟩
            rw [hD 5 rfl, hD 7 rfl] at hs
            clear f0 f1 f2 f3 f4 f5 f6 f7
            obtain ⟨ρ2, hρ⟩ : ∃ ρ2, ρ1 = mix [30, 31, 32, 33, 34, 35, 36] ρ2 _ := ⟨ρ1, mix_of (ds := [30, 31, 32, 33, 34, 35, 36]) hf⟩
            clear hf hD
            subst hρ
            refine W_seq ?_
            refine W_region ?_
            refine RW_op (L_move (V := .map (some mr6)) rfl ?_)
            refine RW_op (L_fieldAddr FA_59_0 rfl ?_)
            refine RW_op (L_ldA (vs := dc ((gd l k).dot)) SA_34 hs 2 rfl rfl rfl rfl ?_)
            refine RW_op (opW_to (V := .int .i64 ((mget ((gd l k).dot) (mput ((gd l k).dot) (((mget ((gd l k).dot) sm).getD 0) + 1) sm)).getD 0)) (V' := .int .i64 ((mget (gd l k).dot sm).getD 0 + 1)) (L_lookupV (k := (gd l k).dot) (z := 0) UD_70 KO_34 ZV_3 (hs.mapf 1 rfl) rfl rfl ⟨rfl, rfl⟩) (by rw [mget_put, if_pos rfl]; rfl) ?_)
            refine RW_op (L_gtr rfl rfl ?_)
            refine RW_nil ?_
            refine W_cond (t := decide (1 < (mget (gd l k).dot sm).getD 0 + 1)) rfl (fun c14 => ?_) (fun c14 => ?_)
            ·
              replace c14 := of_decide_eq_true c14
              refine W_seq ?_
              refine W_region ?_
              refine RW_op (L_assign (V := .bool true) rfl ?_)
              refine RW_nil ?_
              refine W_ret ?_
              refine ⟨_, res_one (V := .bool true) Try.results12 rfl, ?_⟩
              refine ⟨congrArg Ending.returned ?_, hs.take 0⟩
              rfl
            ·
              replace c14 := of_decide_eq_false c14
              refine W_skip ?_
              refine W_region ?_
              refine RW_op (L_add (a := (k : Int)) (b := 1) (c := (k : Int) + 1) rfl rfl (wr_i64 (by omega) (by omega)) ?_)
              refine RW_op (L_move (V := .int .i64 ((k : Int) + 1)) rfl ?_)
              refine RW_nil ?_
              refine ⟨_, ?_, _, k + 1, mput ((gd l k).dot) (((mget ((gd l k).dot) sm).getD 0) + 1) sm, upd_of (mix_of (ds := [6, 9, 26, 27, 28, 29, 30, 31, 32, 33, 34, 35, 36, 37, 38, 39, 40, 41, 42]) (by repeat (first | exact Agr.refl _ _ | refine Agr.upd ?_ rfl | refine Agr.mix ?_ rfl))) rfl, (by omega), (by rw [seenC_next (by omega), ← hsm]), (dots_next hnd (by omega) (by rw [← hsm]; exact c14)), rfl, hs.take 2⟩
              omega
        ·
          replace c9 := of_decide_eq_false c9
          refine W_exit ?_
          refine W_seq ?_
          have hlen : l.length ≤ 40 := by omega
          have hnd2 : (l.map (·.dot)).Nodup := by rw [take_all (by omega)] at hnd; exact hnd
          obtain ⟨i0, hi0, hi0l⟩ := mod_nat at0 l.length h0a (by omega)
          obtain ⟨k0, hk0, hk0l⟩ := mod_nat at1 l.length h1a (by omega)
          refine W_region ?_
          refine RW_op (L_move (V := .slice a l.length c) rfl ?_)
          replace hs := hs.more (row (.slice none 0 0) (List.map oc []) 59 23) (row_nil _ _ _ _)
          refine RW_op (L_appN (ls' := l.map oc) (n := l.length) EL_56 hs 2 rfl rfl rfl (Rd.own' hr hs) (one_map oc_one _) (by simp only [List.length_map, List.length_append, List.length_cons, List.length_nil]; omega) (by simp) (by simp) fun a15 c15 w16 hs => ?_)
          refine RW_op (L_assign (V := .slice a15 l.length c15) rfl ?_)
          refine RW_nil ?_
          refine W_seq ?_
          replace hs := hs.drew
          refine W_draw2 HM [45, 46, 47, 48, 49, 50, 51, 52, 53, 54, 55, 56, 11, 12] [[], [0], [1], [], [3], [2, 4], [], [6], [7], [], [9], [8, 10], [5, 0, 1, 2, 3, 4, 5], [11, 12, 0, 1, 2, 3, 4, 5, 6, 7, 8, 9, 10, 11, 12]] (fun D ρ wx => Own w no wx [blk b1 [.int .u8 at0, .int .u8 at1] 69, mapR mr6 dv (Value.int .i64) sm, row (.slice a15 l.length c15) (l.map oc) 59 23] ∧ (D 0 = true → ρ 45 = .pointer (some ⟨b1, 0 + (0 : Int).toNat, none⟩)) ∧ (D 1 = true → ρ 46 = .int .u8 at0) ∧ (D 2 = true → ρ 47 = .int .i64 at0) ∧ (D 3 = true → ρ 48 = .slice a15 l.length c15) ∧ (D 4 = true → ρ 49 = .int .i64 ((l.length : Nat) : Int)) ∧ (D 5 = true → ρ 50 = .int .i64 ((i0 : Nat) : Int)) ∧ (D 6 = true → ρ 51 = .pointer (some ⟨b1, 0 + (1 : Int).toNat, none⟩)) ∧ (D 7 = true → ρ 52 = .int .u8 at1) ∧ (D 8 = true → ρ 53 = .int .i64 at1) ∧ (D 9 = true → ρ 54 = .slice a15 l.length c15) ∧ (D 10 = true → ρ 55 = .int .i64 ((l.length : Nat) : Int)) ∧ (D 11 = true → ρ 56 = .int .i64 ((k0 : Nat) : Int)) ∧ (D 12 = true → ρ 11 = .int .i64 ((i0 : Nat) : Int)) ∧ (D 13 = true → ρ 12 = .int .i64 ((k0 : Nat) : Int))) rfl rfl rfl ⟨hs, fun h => absurd h Bool.false_ne_true, fun h => absurd h Bool.false_ne_true, fun h => absurd h Bool.false_ne_true, fun h => absurd h Bool.false_ne_true, fun h => absurd h Bool.false_ne_true, fun h => absurd h Bool.false_ne_true, fun h => absurd h Bool.false_ne_true, fun h => absurd h Bool.false_ne_true, fun h => absurd h Bool.false_ne_true, fun h => absurd h Bool.false_ne_true, fun h => absurd h Bool.false_ne_true, fun h => absurd h Bool.false_ne_true, fun h => absurd h Bool.false_ne_true, fun h => absurd h Bool.false_ne_true⟩ ⟨?_, ?_, ?_, ?_, ?_, ?_, ?_, ?_, ?_, ?_, ?_, ?_, ?_, ?_, trivial⟩ ?_
          · rintro D ρ wx hD hd hdc hf ⟨hs, f0, f1, f2, f3, f4, f5, f6, f7, f8, f9, f10, f11, f12, f13⟩
            have r5 : ρ 5 = .pointer (some ⟨b1, 0, none⟩) := outD hf 5 rfl
            exact .inl ⟨rfl, L_ixArr1 UD_69 S1_5.1 r5 rfl (by decide) (by decide) ⟨hs, fun _ => rfl, f1, f2, f3, f4, f5, f6, f7, f8, f9, f10, f11, f12, f13⟩⟩
          · rintro D ρ wx hD hd hdc hf ⟨hs, f0, f1, f2, f3, f4, f5, f6, f7, f8, f9, f10, f11, f12, f13⟩
            have g0 := f0 (doneD hd 0 rfl)
            exact .inl ⟨rfl, L_ld (V := .int .u8 at0) S1_5 hs 0 rfl g0 rfl ⟨hs, f0, fun _ => rfl, f2, f3, f4, f5, f6, f7, f8, f9, f10, f11, f12, f13⟩⟩
          · rintro D ρ wx hD hd hdc hf ⟨hs, f0, f1, f2, f3, f4, f5, f6, f7, f8, f9, f10, f11, f12, f13⟩
            have g1 := f1 (doneD hd 1 rfl)
            exact .inl ⟨rfl, L_conv UD_5 UD_3 g1 (wr_i64 (by omega) (by omega)) ⟨hs, f0, f1, fun _ => rfl, f3, f4, f5, f6, f7, f8, f9, f10, f11, f12, f13⟩⟩
          · rintro D ρ wx hD hd hdc hf ⟨hs, f0, f1, f2, f3, f4, f5, f6, f7, f8, f9, f10, f11, f12, f13⟩
            have r10 : ρ 10 = .slice a15 l.length c15 := outD hf 10 rfl
            exact .inl ⟨rfl, L_move (V := .slice a15 l.length c15) r10 ⟨hs, f0, f1, f2, fun _ => rfl, f4, f5, f6, f7, f8, f9, f10, f11, f12, f13⟩⟩
          · rintro D ρ wx hD hd hdc hf ⟨hs, f0, f1, f2, f3, f4, f5, f6, f7, f8, f9, f10, f11, f12, f13⟩
            have g3 := f3 (doneD hd 3 rfl)
            exact .inl ⟨rfl, L_lenR (n := l.length) UD_56 (hs.rd 2 rfl) (by simp [anyM_len]) g3 ⟨hs, f0, f1, f2, f3, fun _ => rfl, f5, f6, f7, f8, f9, f10, f11, f12, f13⟩⟩
          · rintro D ρ wx hD hd hdc hf ⟨hs, f0, f1, f2, f3, f4, f5, f6, f7, f8, f9, f10, f11, f12, f13⟩
            have g2 := f2 (doneD hd 2 rfl)
            have g4 := f4 (doneD hd 4 rfl)
            exact .inl ⟨rfl, opW_to (V := .int .i64 (at0.tmod ((l.length : Nat) : Int))) (V' := .int .i64 ((i0 : Nat) : Int)) (L_rem g2 g4 (by omega) rfl ⟨rfl, rfl⟩) (congrArg (Value.int .i64) hi0) ⟨hs, f0, f1, f2, f3, f4, fun _ => rfl, f6, f7, f8, f9, f10, f11, f12, f13⟩⟩
          · rintro D ρ wx hD hd hdc hf ⟨hs, f0, f1, f2, f3, f4, f5, f6, f7, f8, f9, f10, f11, f12, f13⟩
            have r5 : ρ 5 = .pointer (some ⟨b1, 0, none⟩) := outD hf 5 rfl
            exact .inl ⟨rfl, L_ixArr1 UD_69 S1_5.1 r5 rfl (by decide) (by decide) ⟨hs, f0, f1, f2, f3, f4, f5, fun _ => rfl, f7, f8, f9, f10, f11, f12, f13⟩⟩
          · rintro D ρ wx hD hd hdc hf ⟨hs, f0, f1, f2, f3, f4, f5, f6, f7, f8, f9, f10, f11, f12, f13⟩
            have g6 := f6 (doneD hd 6 rfl)
            exact .inl ⟨rfl, L_ld (V := .int .u8 at1) S1_5 hs 0 rfl g6 rfl ⟨hs, f0, f1, f2, f3, f4, f5, f6, fun _ => rfl, f8, f9, f10, f11, f12, f13⟩⟩
          · rintro D ρ wx hD hd hdc hf ⟨hs, f0, f1, f2, f3, f4, f5, f6, f7, f8, f9, f10, f11, f12, f13⟩
            have g7 := f7 (doneD hd 7 rfl)
            exact .inl ⟨rfl, L_conv UD_5 UD_3 g7 (wr_i64 (by omega) (by omega)) ⟨hs, f0, f1, f2, f3, f4, f5, f6, f7, fun _ => rfl, f9, f10, f11, f12, f13⟩⟩
          · rintro D ρ wx hD hd hdc hf ⟨hs, f0, f1, f2, f3, f4, f5, f6, f7, f8, f9, f10, f11, f12, f13⟩
            have r10 : ρ 10 = .slice a15 l.length c15 := outD hf 10 rfl
            exact .inl ⟨rfl, L_move (V := .slice a15 l.length c15) r10 ⟨hs, f0, f1, f2, f3, f4, f5, f6, f7, f8, fun _ => rfl, f10, f11, f12, f13⟩⟩
          · rintro D ρ wx hD hd hdc hf ⟨hs, f0, f1, f2, f3, f4, f5, f6, f7, f8, f9, f10, f11, f12, f13⟩
            have g9 := f9 (doneD hd 9 rfl)
            exact .inl ⟨rfl, L_lenR (n := l.length) UD_56 (hs.rd 2 rfl) (by simp [anyM_len]) g9 ⟨hs, f0, f1, f2, f3, f4, f5, f6, f7, f8, f9, fun _ => rfl, f11, f12, f13⟩⟩
          · rintro D ρ wx hD hd hdc hf ⟨hs, f0, f1, f2, f3, f4, f5, f6, f7, f8, f9, f10, f11, f12, f13⟩
            have g8 := f8 (doneD hd 8 rfl)
            have g10 := f10 (doneD hd 10 rfl)
            exact .inl ⟨rfl, opW_to (V := .int .i64 (at1.tmod ((l.length : Nat) : Int))) (V' := .int .i64 ((k0 : Nat) : Int)) (L_rem g8 g10 (by omega) rfl ⟨rfl, rfl⟩) (congrArg (Value.int .i64) hk0) ⟨hs, f0, f1, f2, f3, f4, f5, f6, f7, f8, f9, f10, fun _ => rfl, f12, f13⟩⟩
          · rintro D ρ wx hD hd hdc hf ⟨hs, f0, f1, f2, f3, f4, f5, f6, f7, f8, f9, f10, f11, f12, f13⟩
            have g5 := f5 (doneD hd 5 rfl)
            exact .inl ⟨rfl, L_assign (V := .int .i64 ((i0 : Nat) : Int)) g5 ⟨hs, f0, f1, f2, f3, f4, f5, f6, f7, f8, f9, f10, f11, fun _ => rfl, f13⟩⟩
          · rintro D ρ wx hD hd hdc hf ⟨hs, f0, f1, f2, f3, f4, f5, f6, f7, f8, f9, f10, f11, f12, f13⟩
            have g11 := f11 (doneD hd 11 rfl)
            exact .inl ⟨rfl, L_assign (V := .int .i64 ((k0 : Nat) : Int)) g11 ⟨hs, f0, f1, f2, f3, f4, f5, f6, f7, f8, f9, f10, f11, f12, fun _ => rfl⟩⟩
          · rintro ρ1 w1 D hD hf ⟨hs, f0, f1, f2, f3, f4, f5, f6, f7, f8, f9, f10, f11, f12, f13⟩
            have e12 := f12 (hD 12 rfl)
            have e13 := f13 (hD 13 rfl)
            clear f0 f1 f2 f3 f4 f5 f6 f7 f8 f9 f10 f11 f12 f13
            obtain ⟨ρ2, hρ⟩ : ∃ ρ2, ρ1 = upd (upd (mix [45, 46, 47, 48, 49, 50, 51, 52, 53, 54, 55, 56, 11, 12] ρ2 _) 11 (.int .i64 ((i0 : Nat) : Int))) 12 (.int .i64 ((k0 : Nat) : Int)) := ⟨ρ1, upd_of (upd_of (mix_of (ds := [45, 46, 47, 48, 49, 50, 51, 52, 53, 54, 55, 56, 11, 12]) hf) e12) e13⟩
            clear hf hD e12 e13
            subst hρ
            refine W_seq ?_
            replace hs := hs.drew
            refine W_draw2 HM [57, 58, 59, 60, 61, 62, 63, 64, 65, 66, 67, 68, 69, 70] [[], [], [], [], [], [], [4, 5], [6], [], [], [8, 9], [10], [0, 1, 0, 1, 4, 5, 6, 7, 11], [12, 7, 0, 1, 4, 5, 6, 7, 11], [2, 3, 0, 1, 2, 3, 4, 5, 6, 7, 8, 9, 10, 11, 12, 13], [14, 11, 13, 0, 1, 2, 3, 4, 5, 6, 7, 8, 9, 10, 11, 12, 13]] (fun D ρ wx => Own w no wx [blk b1 [.int .u8 at0, .int .u8 at1] 69, mapR mr6 dv (Value.int .i64) sm, cond (D 15) (row (.slice a15 l.length c15) (((l.set i0 (gd l k0)).set k0 (gd l i0)).map oc) 59 23) (cond (D 13) (row (.slice a15 l.length c15) ((l.set i0 (gd l k0)).map oc) 59 23) (row (.slice a15 l.length c15) (l.map oc) 59 23))] ∧ (D 0 = true → ρ 57 = .slice a15 l.length c15) ∧ (D 1 = true → ρ 58 = .int .i64 ((i0 : Nat) : Int)) ∧ (D 2 = true → ρ 59 = .slice a15 l.length c15) ∧ (D 3 = true → ρ 60 = .int .i64 ((k0 : Nat) : Int)) ∧ (D 4 = true → ρ 61 = .slice a15 l.length c15) ∧ (D 5 = true → ρ 62 = .int .i64 ((k0 : Nat) : Int)) ∧ (D 6 = true → ρ 63 = .pointer (some ⟨bkS (.slice a15 l.length c15), ofS (.slice a15 l.length c15) + ((k0 : Nat) : Int).toNat * 23, none⟩)) ∧ (D 7 = true → ρ 64 = .agg (oc (gd l k0)).toArray) ∧ (D 8 = true → ρ 65 = .slice a15 l.length c15) ∧ (D 9 = true → ρ 66 = .int .i64 ((i0 : Nat) : Int)) ∧ (D 10 = true → ρ 67 = .pointer (some ⟨bkS (.slice a15 l.length c15), ofS (.slice a15 l.length c15) + ((i0 : Nat) : Int).toNat * 23, none⟩)) ∧ (D 11 = true → ρ 68 = .agg (oc (gd l i0)).toArray) ∧ (D 12 = true → ρ 69 = .pointer (some ⟨bkS (.slice a15 l.length c15), ofS (.slice a15 l.length c15) + ((i0 : Nat) : Int).toNat * 23, none⟩)) ∧ (True) ∧ (D 14 = true → ρ 70 = .pointer (some ⟨bkS (.slice a15 l.length c15), ofS (.slice a15 l.length c15) + ((k0 : Nat) : Int).toNat * 23, none⟩)) ∧ (True)) rfl rfl rfl ⟨hs, fun h => absurd h Bool.false_ne_true, fun h => absurd h Bool.false_ne_true, fun h => absurd h Bool.false_ne_true, fun h => absurd h Bool.false_ne_true, fun h => absurd h Bool.false_ne_true, fun h => absurd h Bool.false_ne_true, fun h => absurd h Bool.false_ne_true, fun h => absurd h Bool.false_ne_true, fun h => absurd h Bool.false_ne_true, fun h => absurd h Bool.false_ne_true, fun h => absurd h Bool.false_ne_true, fun h => absurd h Bool.false_ne_true, fun h => absurd h Bool.false_ne_true, trivial, fun h => absurd h Bool.false_ne_true, trivial⟩ ⟨?_, ?_, ?_, ?_, ?_, ?_, ?_, ?_, ?_, ?_, ?_, ?_, ?_, ?_, ?_, ?_, trivial⟩ ?_
            · rintro D ρ wx hD hd hdc hf ⟨hs, f0, f1, f2, f3, f4, f5, f6, f7, f8, f9, f10, f11, f12, f13, f14, f15⟩
              have r10 : ρ 10 = .slice a15 l.length c15 := outD hf 10 rfl
              exact .inl ⟨rfl, L_move (V := .slice a15 l.length c15) r10 ⟨hs, fun _ => rfl, f1, f2, f3, f4, f5, f6, f7, f8, f9, f10, f11, f12, f13, f14, f15⟩⟩
            · rintro D ρ wx hD hd hdc hf ⟨hs, f0, f1, f2, f3, f4, f5, f6, f7, f8, f9, f10, f11, f12, f13, f14, f15⟩
              have r11 : ρ 11 = .int .i64 ((i0 : Nat) : Int) := outD hf 11 rfl
              exact .inl ⟨rfl, L_move (V := .int .i64 ((i0 : Nat) : Int)) r11 ⟨hs, f0, fun _ => rfl, f2, f3, f4, f5, f6, f7, f8, f9, f10, f11, f12, f13, f14, f15⟩⟩
            · rintro D ρ wx hD hd hdc hf ⟨hs, f0, f1, f2, f3, f4, f5, f6, f7, f8, f9, f10, f11, f12, f13, f14, f15⟩
              have r10 : ρ 10 = .slice a15 l.length c15 := outD hf 10 rfl
              exact .inl ⟨rfl, L_move (V := .slice a15 l.length c15) r10 ⟨hs, f0, f1, fun _ => rfl, f3, f4, f5, f6, f7, f8, f9, f10, f11, f12, f13, f14, f15⟩⟩
            · rintro D ρ wx hD hd hdc hf ⟨hs, f0, f1, f2, f3, f4, f5, f6, f7, f8, f9, f10, f11, f12, f13, f14, f15⟩
              have r12 : ρ 12 = .int .i64 ((k0 : Nat) : Int) := outD hf 12 rfl
              exact .inl ⟨rfl, L_move (V := .int .i64 ((k0 : Nat) : Int)) r12 ⟨hs, f0, f1, f2, fun _ => rfl, f4, f5, f6, f7, f8, f9, f10, f11, f12, f13, f14, f15⟩⟩
            · rintro D ρ wx hD hd hdc hf ⟨hs, f0, f1, f2, f3, f4, f5, f6, f7, f8, f9, f10, f11, f12, f13, f14, f15⟩
              have r10 : ρ 10 = .slice a15 l.length c15 := outD hf 10 rfl
              exact .inl ⟨rfl, L_move (V := .slice a15 l.length c15) r10 ⟨hs, f0, f1, f2, f3, fun _ => rfl, f5, f6, f7, f8, f9, f10, f11, f12, f13, f14, f15⟩⟩
            · rintro D ρ wx hD hd hdc hf ⟨hs, f0, f1, f2, f3, f4, f5, f6, f7, f8, f9, f10, f11, f12, f13, f14, f15⟩
              have r12 : ρ 12 = .int .i64 ((k0 : Nat) : Int) := outD hf 12 rfl
              exact .inl ⟨rfl, L_move (V := .int .i64 ((k0 : Nat) : Int)) r12 ⟨hs, f0, f1, f2, f3, f4, fun _ => rfl, f6, f7, f8, f9, f10, f11, f12, f13, f14, f15⟩⟩
            · rintro D ρ wx hD hd hdc hf ⟨hs, f0, f1, f2, f3, f4, f5, f6, f7, f8, f9, f10, f11, f12, f13, f14, f15⟩
              have g4 := f4 (doneD hd 4 rfl)
              have g5 := f5 (doneD hd 5 rfl)
              have d13 : D 13 = false := (notYetD hdc (j := 13) rfl rfl hD)
              have d15 : D 15 = false := (notYetD hdc (j := 15) rfl rfl hD)
              have hs0 := hs; rw [d13, d15] at hs0
              exact .inl ⟨rfl, L_ixR UD_56 SA_59.1 (hs0.rd 2 rfl) g4 g5 (by omega) (by rw [List.length_map]; omega) ⟨hs, f0, f1, f2, f3, f4, f5, fun _ => rfl, f7, f8, f9, f10, f11, f12, f13, f14, f15⟩⟩
            · rintro D ρ wx hD hd hdc hf ⟨hs, f0, f1, f2, f3, f4, f5, f6, f7, f8, f9, f10, f11, f12, f13, f14, f15⟩
              have g6 := f6 (doneD hd 6 rfl)
              have d13 : D 13 = false := (notYetD hdc (j := 13) rfl rfl hD)
              have d15 : D 15 = false := (notYetD hdc (j := 15) rfl rfl hD)
              have hs0 := hs; rw [d13, d15] at hs0
              exact .inl ⟨rfl, L_ldRA (j := 0) (vs := oc (gd l k0)) k0 SA_59 (hs0.rd 2 rfl) (gd_at (by omega)) rfl rfl g6 (by omega) ⟨hs, f0, f1, f2, f3, f4, f5, f6, fun _ => rfl, f8, f9, f10, f11, f12, f13, f14, f15⟩⟩
            · rintro D ρ wx hD hd hdc hf ⟨hs, f0, f1, f2, f3, f4, f5, f6, f7, f8, f9, f10, f11, f12, f13, f14, f15⟩
              have r10 : ρ 10 = .slice a15 l.length c15 := outD hf 10 rfl
              exact .inl ⟨rfl, L_move (V := .slice a15 l.length c15) r10 ⟨hs, f0, f1, f2, f3, f4, f5, f6, f7, fun _ => rfl, f9, f10, f11, f12, f13, f14, f15⟩⟩
            · rintro D ρ wx hD hd hdc hf ⟨hs, f0, f1, f2, f3, f4, f5, f6, f7, f8, f9, f10, f11, f12, f13, f14, f15⟩
              have r11 : ρ 11 = .int .i64 ((i0 : Nat) : Int) := outD hf 11 rfl
              exact .inl ⟨rfl, L_move (V := .int .i64 ((i0 : Nat) : Int)) r11 ⟨hs, f0, f1, f2, f3, f4, f5, f6, f7, f8, fun _ => rfl, f10, f11, f12, f13, f14, f15⟩⟩
            · rintro D ρ wx hD hd hdc hf ⟨hs, f0, f1, f2, f3, f4, f5, f6, f7, f8, f9, f10, f11, f12, f13, f14, f15⟩
              have g8 := f8 (doneD hd 8 rfl)
              have g9 := f9 (doneD hd 9 rfl)
              have d13 : D 13 = false := (notYetD hdc (j := 13) rfl rfl (notYetD hdc (j := 11) rfl rfl hD))
              have d15 : D 15 = false := (notYetD hdc (j := 15) rfl rfl hD)
              have hs0 := hs; rw [d13, d15] at hs0
              exact .inl ⟨rfl, L_ixR UD_56 SA_59.1 (hs0.rd 2 rfl) g8 g9 (by omega) (by rw [List.length_map]; omega) ⟨hs, f0, f1, f2, f3, f4, f5, f6, f7, f8, f9, fun _ => rfl, f11, f12, f13, f14, f15⟩⟩
            · rintro D ρ wx hD hd hdc hf ⟨hs, f0, f1, f2, f3, f4, f5, f6, f7, f8, f9, f10, f11, f12, f13, f14, f15⟩
              have g10 := f10 (doneD hd 10 rfl)
              have d13 : D 13 = false := (notYetD hdc (j := 13) rfl rfl hD)
              have d15 : D 15 = false := (notYetD hdc (j := 15) rfl rfl hD)
              have hs0 := hs; rw [d13, d15] at hs0
              exact .inl ⟨rfl, L_ldRA (j := 0) (vs := oc (gd l i0)) i0 SA_59 (hs0.rd 2 rfl) (gd_at (by omega)) rfl rfl g10 (by omega) ⟨hs, f0, f1, f2, f3, f4, f5, f6, f7, f8, f9, f10, fun _ => rfl, f12, f13, f14, f15⟩⟩
            · rintro D ρ wx hD hd hdc hf ⟨hs, f0, f1, f2, f3, f4, f5, f6, f7, f8, f9, f10, f11, f12, f13, f14, f15⟩
              have g0 := f0 (doneD hd 0 rfl)
              have g1 := f1 (doneD hd 1 rfl)
              have d13 : D 13 = false := (notYetD hdc (j := 13) rfl rfl hD)
              have d15 : D 15 = false := (notYetD hdc (j := 15) rfl rfl hD)
              have hs0 := hs; rw [d13, d15] at hs0
              exact .inl ⟨rfl, L_ixR UD_56 SA_59.1 (hs0.rd 2 rfl) g0 g1 (by omega) (by rw [List.length_map]; omega) ⟨hs, f0, f1, f2, f3, f4, f5, f6, f7, f8, f9, f10, f11, fun _ => rfl, f13, f14, f15⟩⟩
            · rintro D ρ wx hD hd hdc hf ⟨hs, f0, f1, f2, f3, f4, f5, f6, f7, f8, f9, f10, f11, f12, f13, f14, f15⟩
              have g7 := f7 (doneD hd 7 rfl)
              have g12 := f12 (doneD hd 12 rfl)
              have d13 : D 13 = false := hD
              have d15 : D 15 = false := (notYetD hdc (j := 15) rfl rfl hD)
              have hs0 := hs; rw [d13, d15] at hs0
              refine .inl ⟨rfl, L_stE (z := gd l k0) i0 SA_59.1 hs0 2 rfl g12 rfl (by first | omega | (simp only [List.length_set]; omega)) g7 rfl rfl (oc_one _) fun _ hs0 => ⟨?_, f0, f1, f2, f3, f4, f5, f6, f7, f8, f9, f10, f11, f12, trivial, f14, f15⟩⟩
              rw [show Go.Vx.mark D 13 15 = false from d15]
              exact hs0
            · rintro D ρ wx hD hd hdc hf ⟨hs, f0, f1, f2, f3, f4, f5, f6, f7, f8, f9, f10, f11, f12, f13, f14, f15⟩
              have g2 := f2 (doneD hd 2 rfl)
              have g3 := f3 (doneD hd 3 rfl)
              have d13 : D 13 = true := doneD hd 13 rfl
              have d15 : D 15 = false := (notYetD hdc (j := 15) rfl rfl hD)
              have hs0 := hs; rw [d13, d15] at hs0
              exact .inl ⟨rfl, L_ixR UD_56 SA_59.1 (hs0.rd 2 rfl) g2 g3 (by omega) (by simp only [List.length_map, List.length_set]; omega) ⟨hs, f0, f1, f2, f3, f4, f5, f6, f7, f8, f9, f10, f11, f12, f13, fun _ => rfl, f15⟩⟩
            · rintro D ρ wx hD hd hdc hf ⟨hs, f0, f1, f2, f3, f4, f5, f6, f7, f8, f9, f10, f11, f12, f13, f14, f15⟩
              have g11 := f11 (doneD hd 11 rfl)
              have g14 := f14 (doneD hd 14 rfl)
              have d13 : D 13 = true := doneD hd 13 rfl
              have d15 : D 15 = false := hD
              have hs0 := hs; rw [d13, d15] at hs0
              refine .inl ⟨rfl, L_stE (z := gd l i0) k0 SA_59.1 hs0 2 rfl g14 rfl (by first | omega | (simp only [List.length_set]; omega)) g11 rfl rfl (oc_one _) fun _ hs0 => ⟨?_, f0, f1, f2, f3, f4, f5, f6, f7, f8, f9, f10, f11, f12, f13, f14, trivial⟩⟩
              rw [show Go.Vx.mark D 15 13 = true from d13]
              exact hs0
            · rintro ρ1 w1 D hD hf ⟨hs, f0, f1, f2, f3, f4, f5, f6, f7, f8, f9, f10, f11, f12, f13, f14, f15⟩
              rw [hD 13 rfl, hD 15 rfl] at hs
              clear f0 f1 f2 f3 f4 f5 f6 f7 f8 f9 f10 f11 f12 f13 f14 f15
              obtain ⟨ρ2, hρ⟩ : ∃ ρ2, ρ1 = mix [57, 58, 59, 60, 61, 62, 63, 64, 65, 66, 67, 68, 69, 70] ρ2 _ := ⟨ρ1, mix_of (ds := [57, 58, 59, 60, 61, 62, 63, 64, 65, 66, 67, 68, 69, 70]) hf⟩
              clear hf hD
              subst hρ
              replace hs : Own w no _ [blk b1 [.int .u8 at0, .int .u8 at1] 69, mapR mr6 dv (Value.int .i64) sm, row (.slice a15 l.length c15) ((anyM l i0 k0).map oc) 59 23] := hs
              refine W_seq ?_
              rcases Nat.eq_zero_or_pos i0 with hk16 | hk16
              ·
                have hml : (anyM l i0 k0).length = l.length := anyM_len
                replace hs := hs.drew
                refine W_draw2 HM [71, 72, 73, 74, 75, 76, 77, 78, 79, 80, 81, 10] [[], [], [], [2], [], [4], [0, 1, 3, 5], [], [], [7, 8], [6, 9], [10, 10, 0, 1, 2, 3, 4, 5, 6, 7, 8, 9, 10]] (fun D ρ wx => Own w no wx [blk b1 [.int .u8 at0, .int .u8 at1] 69, mapR mr6 dv (Value.int .i64) sm, row (.slice a15 l.length c15) ((anyM l i0 k0).map oc) 59 23] ∧ (D 0 = true → ρ 71 = .slice a15 l.length c15) ∧ (D 1 = true → ρ 72 = .int .i64 ((i0 : Nat) : Int)) ∧ (D 2 = true → ρ 73 = .slice a15 l.length c15) ∧ (D 3 = true → ρ 74 = .int .i64 ((l.length : Nat) : Int)) ∧ (D 4 = true → ρ 75 = .slice a15 l.length c15) ∧ (D 5 = true → ρ 76 = .int .i64 ((l.length : Nat) : Int)) ∧ (D 6 = true → ρ 77 = .slice (sla a15 i0 l.length 23) ((((anyM l i0 k0).drop i0).take (l.length - i0)).length) (l.length - i0)) ∧ (D 7 = true → ρ 78 = .slice a15 l.length c15) ∧ (D 8 = true → ρ 79 = .int .i64 ((i0 : Nat) : Int)) ∧ (D 9 = true → ρ 80 = .slice (sla a15 0 c15 23) (((anyM l i0 k0).take i0).length) (c15 - 0)) ∧ (D 10 = true → ρ 81 = .slice (sla a15 i0 l.length 23) ((((anyM l i0 k0).drop i0).take (l.length - i0)).length) (l.length - i0)) ∧ (D 11 = true → ρ 10 = .slice (sla a15 i0 l.length 23) ((((anyM l i0 k0).drop i0).take (l.length - i0)).length) (l.length - i0)) ∧ (D 11 = false → ρ 10 = .slice a15 l.length c15)) rfl rfl rfl ⟨hs, fun h => absurd h Bool.false_ne_true, fun h => absurd h Bool.false_ne_true, fun h => absurd h Bool.false_ne_true, fun h => absurd h Bool.false_ne_true, fun h => absurd h Bool.false_ne_true, fun h => absurd h Bool.false_ne_true, fun h => absurd h Bool.false_ne_true, fun h => absurd h Bool.false_ne_true, fun h => absurd h Bool.false_ne_true, fun h => absurd h Bool.false_ne_true, fun h => absurd h Bool.false_ne_true, fun h => absurd h Bool.false_ne_true, fun _ => rfl⟩ ⟨?_, ?_, ?_, ?_, ?_, ?_, ?_, ?_, ?_, ?_, ?_, ?_, trivial⟩ ?_
                · rintro D ρ wx hD hd hdc hf ⟨hs, f0, f1, f2, f3, f4, f5, f6, f7, f8, f9, f10, f11, q10⟩
                  have r10 : ρ 10 = .slice a15 l.length c15 := q10 (notYetD hdc (j := 11) rfl rfl hD)
                  exact .inl ⟨rfl, L_move (V := .slice a15 l.length c15) r10 ⟨hs, fun _ => rfl, f1, f2, f3, f4, f5, f6, f7, f8, f9, f10, f11, q10⟩⟩
                · rintro D ρ wx hD hd hdc hf ⟨hs, f0, f1, f2, f3, f4, f5, f6, f7, f8, f9, f10, f11, q10⟩
                  have r11 : ρ 11 = .int .i64 ((i0 : Nat) : Int) := outD hf 11 rfl
                  exact .inl ⟨rfl, L_move (V := .int .i64 ((i0 : Nat) : Int)) r11 ⟨hs, f0, fun _ => rfl, f2, f3, f4, f5, f6, f7, f8, f9, f10, f11, q10⟩⟩
                · rintro D ρ wx hD hd hdc hf ⟨hs, f0, f1, f2, f3, f4, f5, f6, f7, f8, f9, f10, f11, q10⟩
                  have r10 : ρ 10 = .slice a15 l.length c15 := q10 (notYetD hdc (j := 11) rfl rfl hD)
                  exact .inl ⟨rfl, L_move (V := .slice a15 l.length c15) r10 ⟨hs, f0, f1, fun _ => rfl, f3, f4, f5, f6, f7, f8, f9, f10, f11, q10⟩⟩
                · rintro D ρ wx hD hd hdc hf ⟨hs, f0, f1, f2, f3, f4, f5, f6, f7, f8, f9, f10, f11, q10⟩
                  have g2 := f2 (doneD hd 2 rfl)
                  exact .inl ⟨rfl, L_lenR (n := l.length) UD_56 (hs.rd 2 rfl) (by simp [anyM_len]) g2 ⟨hs, f0, f1, f2, fun _ => rfl, f4, f5, f6, f7, f8, f9, f10, f11, q10⟩⟩
                · rintro D ρ wx hD hd hdc hf ⟨hs, f0, f1, f2, f3, f4, f5, f6, f7, f8, f9, f10, f11, q10⟩
                  have r10 : ρ 10 = .slice a15 l.length c15 := q10 (notYetD hdc (j := 11) rfl rfl hD)
                  exact .inl ⟨rfl, L_move (V := .slice a15 l.length c15) r10 ⟨hs, f0, f1, f2, f3, fun _ => rfl, f5, f6, f7, f8, f9, f10, f11, q10⟩⟩
                · rintro D ρ wx hD hd hdc hf ⟨hs, f0, f1, f2, f3, f4, f5, f6, f7, f8, f9, f10, f11, q10⟩
                  have g4 := f4 (doneD hd 4 rfl)
                  exact .inl ⟨rfl, L_lenR (n := l.length) UD_56 (hs.rd 2 rfl) (by simp [anyM_len]) g4 ⟨hs, f0, f1, f2, f3, f4, fun _ => rfl, f6, f7, f8, f9, f10, f11, q10⟩⟩
                · rintro D ρ wx hD hd hdc hf ⟨hs, f0, f1, f2, f3, f4, f5, f6, f7, f8, f9, f10, f11, q10⟩
                  have g0 := f0 (doneD hd 0 rfl)
                  have g1 := f1 (doneD hd 1 rfl)
                  have g3 := f3 (doneD hd 3 rfl)
                  have g5 := f5 (doneD hd 5 rfl)
                  exact .inl ⟨rfl, L_sl (l := i0) (h := l.length) (m := l.length) (n' := (((anyM l i0 k0).drop i0).take (l.length - i0)).length) UDR_56 SA_59.1 (hs.rd 2 rfl) g0 (.inr ⟨_, _, rfl, g1⟩) (.inr ⟨_, _, rfl, g3⟩) (.inr ⟨⟨_, rfl⟩, _, _, rfl, g5⟩) (by omega) (by omega) (by omega) (Nat.le_trans (show l.length ≤ (anyM l i0 k0).length by omega) (Rd.roomM (hs.rd 2 rfl))) (by simp only [List.length_take, List.length_drop] <;> omega) ⟨hs, f0, f1, f2, f3, f4, f5, fun _ => rfl, f7, f8, f9, f10, f11, q10⟩⟩
                · rintro D ρ wx hD hd hdc hf ⟨hs, f0, f1, f2, f3, f4, f5, f6, f7, f8, f9, f10, f11, q10⟩
                  have r10 : ρ 10 = .slice a15 l.length c15 := q10 (notYetD hdc (j := 11) rfl rfl hD)
                  exact .inl ⟨rfl, L_move (V := .slice a15 l.length c15) r10 ⟨hs, f0, f1, f2, f3, f4, f5, f6, fun _ => rfl, f8, f9, f10, f11, q10⟩⟩
                · rintro D ρ wx hD hd hdc hf ⟨hs, f0, f1, f2, f3, f4, f5, f6, f7, f8, f9, f10, f11, q10⟩
                  have r11 : ρ 11 = .int .i64 ((i0 : Nat) : Int) := outD hf 11 rfl
                  exact .inl ⟨rfl, L_move (V := .int .i64 ((i0 : Nat) : Int)) r11 ⟨hs, f0, f1, f2, f3, f4, f5, f6, f7, fun _ => rfl, f9, f10, f11, q10⟩⟩
                · rintro D ρ wx hD hd hdc hf ⟨hs, f0, f1, f2, f3, f4, f5, f6, f7, f8, f9, f10, f11, q10⟩
                  have g7 := f7 (doneD hd 7 rfl)
                  have g8 := f8 (doneD hd 8 rfl)
                  exact .inl ⟨rfl, L_sl (l := 0) (h := i0) (m := c15) (n' := ((anyM l i0 k0).take i0).length) UDR_56 SA_59.1 (hs.rd 2 rfl) g7 (.inl ⟨rfl, rfl⟩) (.inr ⟨_, _, rfl, g8⟩) (.inl ⟨rfl, rfl⟩) (by omega) (by omega) (Nat.le_trans (show i0 ≤ (anyM l i0 k0).length by omega) (Rd.roomM (hs.rd 2 rfl))) (Nat.le_refl _) (by simp only [List.length_take, List.length_drop] <;> omega) ⟨hs, f0, f1, f2, f3, f4, f5, f6, f7, f8, fun _ => rfl, f10, f11, q10⟩⟩
                · rintro D ρ wx hD hd hdc hf ⟨hs, f0, f1, f2, f3, f4, f5, f6, f7, f8, f9, f10, f11, q10⟩
                  have g6 := f6 (doneD hd 6 rfl)
                  have g9 := f9 (doneD hd 9 rfl)
                  exact .inl ⟨rfl, L_app0 EL_56 g6 g9 (Rd.subM (hs.rd 2 rfl) i0 l.length l.length (by omega) (by omega) (by omega) (Nat.le_trans (show l.length ≤ (anyM l i0 k0).length by omega) (Rd.roomM (hs.rd 2 rfl))) _ (by simp only [List.length_take, List.length_drop] <;> omega)) (by simp only [List.length_map]) (by simp only [List.length_map, List.length_take, List.length_drop, anyM_len]; omega) (Rd.subM (hs.rd 2 rfl) 0 i0 c15 (by omega) (by omega) (Nat.le_trans (show i0 ≤ (anyM l i0 k0).length by omega) (Rd.roomM (hs.rd 2 rfl))) (Nat.le_refl _) _ (by simp only [List.length_take, List.length_drop] <;> omega)) (by simp only [List.length_map, List.length_take, anyM_len]; omega) (by simp only [List.length_take, anyM_len]; omega) ⟨hs, f0, f1, f2, f3, f4, f5, f6, f7, f8, f9, fun _ => rfl, f11, q10⟩⟩
                · rintro D ρ wx hD hd hdc hf ⟨hs, f0, f1, f2, f3, f4, f5, f6, f7, f8, f9, f10, f11, q10⟩
                  have g10 := f10 (doneD hd 10 rfl)
                  exact .inl ⟨rfl, L_assign (V := .slice (sla a15 i0 l.length 23) ((((anyM l i0 k0).drop i0).take (l.length - i0)).length) (l.length - i0)) g10 ⟨hs, f0, f1, f2, f3, f4, f5, f6, f7, f8, f9, f10, fun _ => rfl, (fun h => nomatch (show true = false from h))⟩⟩
                · rintro ρ1 w1 D hD hf ⟨hs, f0, f1, f2, f3, f4, f5, f6, f7, f8, f9, f10, f11, q10⟩
                  have e11 := f11 (hD 11 rfl)
                  clear f0 f1 f2 f3 f4 f5 f6 f7 f8 f9 f10 f11 q10
                  obtain ⟨ρ2, hρ⟩ : ∃ ρ2, ρ1 = upd (mix [71, 72, 73, 74, 75, 76, 77, 78, 79, 80, 81, 10] ρ2 _) 10 (.slice (sla a15 i0 l.length 23) ((((anyM l i0 k0).drop i0).take (l.length - i0)).length) (l.length - i0)) := ⟨ρ1, upd_of (mix_of (ds := [71, 72, 73, 74, 75, 76, 77, 78, 79, 80, 81, 10]) hf) e11⟩
                  clear hf hD e11
                  subst hρ
                  refine W_seq ?_
                  have hpm : l.Perm ((((anyM l i0 k0).drop i0).take (l.length - i0))) := turned_perm0 hi0l hk0l (by omega)
                  have hVE : viewP ((((anyM l i0 k0).drop i0).take (l.length - i0))) cart = viewP l cart := (view_perm hpm hnd2 cart).symm
                  refine W_region ?_
                  refine RW_op (L_move (V := .slice a l.length c) rfl ?_)
                  refine RW_op (L_move (V := .int .u16 cart) rfl ?_)
                  refine RW_op (L_callX (α := Option Addr × Nat) (vs := [.slice a l.length c, .int .u16 cart]) (V := fun x => .agg ([.int .u16 ((viewP l cart).cart), .slice x.1 (((viewP l cart).lines).length) x.2, .bool ((viewP l cart).out), .int .u32 ((viewP l cart).tick)]).toArray) (Lo := fun x => [row (.slice x.1 ((viewP l cart).lines).length x.2) (((viewP l cart).lines).map lc) 67 2]) (F := fun _ _ => True) EN_34 rfl rfl ?hc hs fun x23 w22 hs _ => ?_)
                  case hc => exact (fViewE_ok _ a c l cart (viewP l cart) (rfl) hl (by omega) (Rd.own' hr hs) hsortU)
                  replace hs : Own w no w22 [blk b1 [.int .u8 at0, .int .u8 at1] 69, mapR mr6 dv (Value.int .i64) sm, row (.slice a15 l.length c15) ((anyM l i0 k0).map oc) 59 23, row (.slice x23.1 (((viewP l cart).lines).length) x23.2) (((viewP l cart).lines).map lc) 67 2] := hs
                  refine RW_op (L_move (V := .slice (sla a15 i0 l.length 23) ((((anyM l i0 k0).drop i0).take (l.length - i0)).length) (l.length - i0)) rfl ?_)
                  refine RW_op (L_move (V := .int .u16 cart) rfl ?_)
                  refine RW_op (L_callX (α := Option Addr × Nat) (vs := [.slice (sla a15 i0 l.length 23) ((((anyM l i0 k0).drop i0).take (l.length - i0)).length) (l.length - i0), .int .u16 cart]) (V := fun x => .agg ([.int .u16 ((viewP (((anyM l i0 k0).drop i0).take (l.length - i0)) cart).cart), .slice x.1 (((viewP (((anyM l i0 k0).drop i0).take (l.length - i0)) cart).lines).length) x.2, .bool ((viewP (((anyM l i0 k0).drop i0).take (l.length - i0)) cart).out), .int .u32 ((viewP (((anyM l i0 k0).drop i0).take (l.length - i0)) cart).tick)]).toArray) (Lo := fun x => [row (.slice x.1 ((viewP (((anyM l i0 k0).drop i0).take (l.length - i0)) cart).lines).length x.2) (((viewP (((anyM l i0 k0).drop i0).take (l.length - i0)) cart).lines).map lc) 67 2]) (F := fun _ _ => True) EN_34 rfl rfl ?hc hs fun x25 w24 hs _ => ?_)
                  case hc => exact (fViewE_ok _ (sla a15 i0 l.length 23) (l.length - i0) (((anyM l i0 k0).drop i0).take (l.length - i0)) cart (viewP (((anyM l i0 k0).drop i0).take (l.length - i0)) cart) (rfl) (fun o ho => hl o (hpm.mem_iff.2 ho)) (by rw [← hpm.length_eq]; omega) (Rd.subM (hs.rd 2 rfl) i0 l.length l.length (by omega) (by omega) (by omega) (Nat.le_trans (show l.length ≤ (anyM l i0 k0).length by omega) (Rd.roomM (hs.rd 2 rfl))) _ (by simp only [List.length_take, List.length_drop] <;> omega)) hsortU)
                  refine RW_op (L_callPV (V' := .bool true) (congrArg Value.bool (by rw [hVE]; exact same_self (viewP l cart))) (vs := [.agg ([.int .u16 ((viewP l cart).cart), .slice x23.1 (((viewP l cart).lines).length) x23.2, .bool ((viewP l cart).out), .int .u32 ((viewP l cart).tick)]).toArray, .agg ([.int .u16 ((viewP (((anyM l i0 k0).drop i0).take (l.length - i0)) cart).cart), .slice x25.1 (((viewP (((anyM l i0 k0).drop i0).take (l.length - i0)) cart).lines).length) x25.2, .bool ((viewP (((anyM l i0 k0).drop i0).take (l.length - i0)) cart).out), .int .u32 ((viewP (((anyM l i0 k0).drop i0).take (l.length - i0)) cart).tick)]).toArray]) (V := .bool (decide ((viewP l cart).cart = (viewP (((anyM l i0 k0).drop i0).take (l.length - i0)) cart).cart) && (((viewP l cart).out) == ((viewP (((anyM l i0 k0).drop i0).take (l.length - i0)) cart).out)) && decide ((viewP l cart).tick = (viewP (((anyM l i0 k0).drop i0).take (l.length - i0)) cart).tick) && decide ((viewP l cart).lines = (viewP (((anyM l i0 k0).drop i0).take (l.length - i0)) cart).lines))) EN_33 rfl rfl ?hc hs fun w26 hs => ?_)
                  case hc => exact (same7_ok _ ((viewP l cart).cart) ((viewP (((anyM l i0 k0).drop i0).take (l.length - i0)) cart).cart) ((viewP l cart).tick) ((viewP (((anyM l i0 k0).drop i0).take (l.length - i0)) cart).tick) ((viewP l cart).out) ((viewP (((anyM l i0 k0).drop i0).take (l.length - i0)) cart).out) x23.1 x25.1 x23.2 x25.2 ((viewP l cart).lines) ((viewP (((anyM l i0 k0).drop i0).take (l.length - i0)) cart).lines) (hs.rd 3 rfl) (hs.rd 4 rfl))
                  refine RW_op (L_move (V := .bool true) rfl ?_)
                  refine RW_gy rfl (L_move (V := .slice a l.length c) rfl ?_)
                  refine RW_gy rfl (L_callX (vs := [.slice a l.length c]) EN_36 rfl rfl (fCarts_ok _ a c l hl (by omega) (Rd.own' hr hs) hsortU) hs fun x28 w27 hs _ => ?_)
                  refine RW_gy rfl (L_move (V := .slice (sla a15 i0 l.length 23) ((((anyM l i0 k0).drop i0).take (l.length - i0)).length) (l.length - i0)) rfl ?_)
                  refine RW_gy rfl (L_callX (vs := [.slice (sla a15 i0 l.length 23) ((((anyM l i0 k0).drop i0).take (l.length - i0)).length) (l.length - i0)]) EN_36 rfl rfl (fCarts_ok _ (sla a15 i0 l.length 23) (l.length - i0) (((anyM l i0 k0).drop i0).take (l.length - i0)) (fun o ho => hl o (hpm.mem_iff.2 ho)) (by rw [← hpm.length_eq]; omega) (Rd.subM (hs.rd 2 rfl) i0 l.length l.length (by omega) (by omega) (by omega) (Nat.le_trans (show l.length ≤ (anyM l i0 k0).length by omega) (Rd.roomM (hs.rd 2 rfl))) _ (by simp only [List.length_take, List.length_drop] <;> omega)) hsortU) hs fun x30 w29 hs _ => ?_)
                  refine RW_gy rfl (L_callPV (V' := .bool true) (congrArg Value.bool (decide_eq_true (carts_perm hpm))) (vs := [.slice x28.1 ((cartsP l).length) x28.2, .slice x30.1 ((cartsP (((anyM l i0 k0).drop i0).take (l.length - i0))).length) x30.2]) (V := .bool (decide (cartsP l = cartsP (((anyM l i0 k0).drop i0).take (l.length - i0))))) EN_35 rfl rfl ?hc hs fun w31 hs => ?_)
                  case hc => exact (eqU_ok _ x28.1 x30.1 x28.2 x30.2 (cartsP l) (cartsP (((anyM l i0 k0).drop i0).take (l.length - i0))) (hs.rd 5 rfl) (hs.rd 6 rfl))
                  refine RW_op (L_pick (V := .bool true) rfl rfl ?_)
                  refine RW_op (L_move (V := .bool true) rfl ?_)
                  refine RW_gy rfl (L_move (V := .slice a l.length c) rfl ?_)
                  refine RW_gy rfl (L_callP (vs := [.slice a l.length c]) (V := .bool (closedP l)) EN_37 rfl rfl ?hc hs fun w32 hs => ?_)
                  case hc => exact (fClosed_ok _ a c l hl (by omega) (Rd.own' hr hs))
                  refine RW_gy rfl (L_move (V := .slice (sla a15 i0 l.length 23) ((((anyM l i0 k0).drop i0).take (l.length - i0)).length) (l.length - i0)) rfl ?_)
                  refine RW_gy rfl (L_callP (vs := [.slice (sla a15 i0 l.length 23) ((((anyM l i0 k0).drop i0).take (l.length - i0)).length) (l.length - i0)]) (V := .bool (closedP (((anyM l i0 k0).drop i0).take (l.length - i0)))) EN_37 rfl rfl ?hc hs fun w33 hs => ?_)
                  case hc => exact (fClosed_ok _ (sla a15 i0 l.length 23) (l.length - i0) (((anyM l i0 k0).drop i0).take (l.length - i0)) (fun o ho => hl o (hpm.mem_iff.2 ho)) (by rw [← hpm.length_eq]; omega) (Rd.subM (hs.rd 2 rfl) i0 l.length l.length (by omega) (by omega) (by omega) (Nat.le_trans (show l.length ≤ (anyM l i0 k0).length by omega) (Rd.roomM (hs.rd 2 rfl))) _ (by simp only [List.length_take, List.length_drop] <;> omega)))
                  refine RW_gy rfl (opW_to (V := .bool ((closedP l) == (closedP (((anyM l i0 k0).drop i0).take (l.length - i0))))) (V' := .bool true) (L_eqb UDR_4 rfl rfl ⟨rfl, rfl⟩) (congrArg Value.bool (by rw [closed_perm hl hpm]; exact beqT rfl)) ?_)
                  refine RW_op (L_pick (V := .bool true) rfl rfl ?_)
                  refine RW_op (L_assign (V := .bool true) rfl ?_)
                  refine RW_nil ?_
                  refine W_ret ?_
                  refine ⟨_, res_one (V := .bool true) Try.results12 rfl, ?_⟩
                  refine ⟨congrArg Ending.returned ?_, hs.take 0⟩
                  rfl
              ·
                have hml : (anyM l i0 k0).length = l.length := anyM_len
                replace hs := hs.more emp trivial
                replace hs := hs.drew
                refine W_draw2 HM [71, 72, 73, 74, 75, 76, 77, 78, 79, 80, 81, 10] [[], [], [], [2], [], [4], [0, 1, 3, 5], [], [], [7, 8], [6, 9], [10, 10, 0, 1, 2, 3, 4, 5, 6, 7, 8, 9, 10]] (fun D ρ wx => Own w no wx [blk b1 [.int .u8 at0, .int .u8 at1] 69, mapR mr6 dv (Value.int .i64) sm, row (.slice a15 l.length c15) ((anyM l i0 k0).map oc) 59 23, cond (D 10) (row (.slice (aOf (ρ 81)) (((((anyM l i0 k0).drop i0).take (l.length - i0)) ++ ((anyM l i0 k0).take i0)).length) (cOf (ρ 81))) (((((anyM l i0 k0).drop i0).take (l.length - i0)) ++ ((anyM l i0 k0).take i0)).map oc) 59 23) (emp)] ∧ (D 0 = true → ρ 71 = .slice a15 l.length c15) ∧ (D 1 = true → ρ 72 = .int .i64 ((i0 : Nat) : Int)) ∧ (D 2 = true → ρ 73 = .slice a15 l.length c15) ∧ (D 3 = true → ρ 74 = .int .i64 ((l.length : Nat) : Int)) ∧ (D 4 = true → ρ 75 = .slice a15 l.length c15) ∧ (D 5 = true → ρ 76 = .int .i64 ((l.length : Nat) : Int)) ∧ (D 6 = true → ρ 77 = .slice (sla a15 i0 l.length 23) ((((anyM l i0 k0).drop i0).take (l.length - i0)).length) (l.length - i0)) ∧ (D 7 = true → ρ 78 = .slice a15 l.length c15) ∧ (D 8 = true → ρ 79 = .int .i64 ((i0 : Nat) : Int)) ∧ (D 9 = true → ρ 80 = .slice (sla a15 0 c15 23) (((anyM l i0 k0).take i0).length) (c15 - 0)) ∧ (D 10 = true → ρ 81 = .slice (aOf (ρ 81)) (((((anyM l i0 k0).drop i0).take (l.length - i0)) ++ ((anyM l i0 k0).take i0)).length) (cOf (ρ 81))) ∧ (D 11 = true → ρ 10 = .slice (aOf (ρ 81)) (((((anyM l i0 k0).drop i0).take (l.length - i0)) ++ ((anyM l i0 k0).take i0)).length) (cOf (ρ 81))) ∧ (D 11 = false → ρ 10 = .slice a15 l.length c15)) rfl rfl rfl ⟨hs, fun h => absurd h Bool.false_ne_true, fun h => absurd h Bool.false_ne_true, fun h => absurd h Bool.false_ne_true, fun h => absurd h Bool.false_ne_true, fun h => absurd h Bool.false_ne_true, fun h => absurd h Bool.false_ne_true, fun h => absurd h Bool.false_ne_true, fun h => absurd h Bool.false_ne_true, fun h => absurd h Bool.false_ne_true, fun h => absurd h Bool.false_ne_true, fun h => absurd h Bool.false_ne_true, fun h => absurd h Bool.false_ne_true, fun _ => rfl⟩ ⟨?_, ?_, ?_, ?_, ?_, ?_, ?_, ?_, ?_, ?_, ?_, ?_, trivial⟩ ?_
                · rintro D ρ wx hD hd hdc hf ⟨hs, f0, f1, f2, f3, f4, f5, f6, f7, f8, f9, f10, f11, q10⟩
                  have r10 : ρ 10 = .slice a15 l.length c15 := q10 (notYetD hdc (j := 11) rfl rfl hD)
                  exact .inl ⟨rfl, L_move (V := .slice a15 l.length c15) r10 ⟨hs, fun _ => rfl, f1, f2, f3, f4, f5, f6, f7, f8, f9, f10, f11, q10⟩⟩
                · rintro D ρ wx hD hd hdc hf ⟨hs, f0, f1, f2, f3, f4, f5, f6, f7, f8, f9, f10, f11, q10⟩
                  have r11 : ρ 11 = .int .i64 ((i0 : Nat) : Int) := outD hf 11 rfl
                  exact .inl ⟨rfl, L_move (V := .int .i64 ((i0 : Nat) : Int)) r11 ⟨hs, f0, fun _ => rfl, f2, f3, f4, f5, f6, f7, f8, f9, f10, f11, q10⟩⟩
                · rintro D ρ wx hD hd hdc hf ⟨hs, f0, f1, f2, f3, f4, f5, f6, f7, f8, f9, f10, f11, q10⟩
                  have r10 : ρ 10 = .slice a15 l.length c15 := q10 (notYetD hdc (j := 11) rfl rfl hD)
                  exact .inl ⟨rfl, L_move (V := .slice a15 l.length c15) r10 ⟨hs, f0, f1, fun _ => rfl, f3, f4, f5, f6, f7, f8, f9, f10, f11, q10⟩⟩
                · rintro D ρ wx hD hd hdc hf ⟨hs, f0, f1, f2, f3, f4, f5, f6, f7, f8, f9, f10, f11, q10⟩
                  have g2 := f2 (doneD hd 2 rfl)
                  exact .inl ⟨rfl, L_lenR (n := l.length) UD_56 (hs.rd 2 rfl) (by simp [anyM_len]) g2 ⟨hs, f0, f1, f2, fun _ => rfl, f4, f5, f6, f7, f8, f9, f10, f11, q10⟩⟩
                · rintro D ρ wx hD hd hdc hf ⟨hs, f0, f1, f2, f3, f4, f5, f6, f7, f8, f9, f10, f11, q10⟩
                  have r10 : ρ 10 = .slice a15 l.length c15 := q10 (notYetD hdc (j := 11) rfl rfl hD)
                  exact .inl ⟨rfl, L_move (V := .slice a15 l.length c15) r10 ⟨hs, f0, f1, f2, f3, fun _ => rfl, f5, f6, f7, f8, f9, f10, f11, q10⟩⟩
                · rintro D ρ wx hD hd hdc hf ⟨hs, f0, f1, f2, f3, f4, f5, f6, f7, f8, f9, f10, f11, q10⟩
                  have g4 := f4 (doneD hd 4 rfl)
                  exact .inl ⟨rfl, L_lenR (n := l.length) UD_56 (hs.rd 2 rfl) (by simp [anyM_len]) g4 ⟨hs, f0, f1, f2, f3, f4, fun _ => rfl, f6, f7, f8, f9, f10, f11, q10⟩⟩
                · rintro D ρ wx hD hd hdc hf ⟨hs, f0, f1, f2, f3, f4, f5, f6, f7, f8, f9, f10, f11, q10⟩
                  have g0 := f0 (doneD hd 0 rfl)
                  have g1 := f1 (doneD hd 1 rfl)
                  have g3 := f3 (doneD hd 3 rfl)
                  have g5 := f5 (doneD hd 5 rfl)
                  exact .inl ⟨rfl, L_sl (l := i0) (h := l.length) (m := l.length) (n' := (((anyM l i0 k0).drop i0).take (l.length - i0)).length) UDR_56 SA_59.1 (hs.rd 2 rfl) g0 (.inr ⟨_, _, rfl, g1⟩) (.inr ⟨_, _, rfl, g3⟩) (.inr ⟨⟨_, rfl⟩, _, _, rfl, g5⟩) (by omega) (by omega) (by omega) (Nat.le_trans (show l.length ≤ (anyM l i0 k0).length by omega) (Rd.roomM (hs.rd 2 rfl))) (by simp only [List.length_take, List.length_drop] <;> omega) ⟨hs, f0, f1, f2, f3, f4, f5, fun _ => rfl, f7, f8, f9, f10, f11, q10⟩⟩
                · rintro D ρ wx hD hd hdc hf ⟨hs, f0, f1, f2, f3, f4, f5, f6, f7, f8, f9, f10, f11, q10⟩
                  have r10 : ρ 10 = .slice a15 l.length c15 := q10 (notYetD hdc (j := 11) rfl rfl hD)
                  exact .inl ⟨rfl, L_move (V := .slice a15 l.length c15) r10 ⟨hs, f0, f1, f2, f3, f4, f5, f6, fun _ => rfl, f8, f9, f10, f11, q10⟩⟩
                · rintro D ρ wx hD hd hdc hf ⟨hs, f0, f1, f2, f3, f4, f5, f6, f7, f8, f9, f10, f11, q10⟩
                  have r11 : ρ 11 = .int .i64 ((i0 : Nat) : Int) := outD hf 11 rfl
                  exact .inl ⟨rfl, L_move (V := .int .i64 ((i0 : Nat) : Int)) r11 ⟨hs, f0, f1, f2, f3, f4, f5, f6, f7, fun _ => rfl, f9, f10, f11, q10⟩⟩
                · rintro D ρ wx hD hd hdc hf ⟨hs, f0, f1, f2, f3, f4, f5, f6, f7, f8, f9, f10, f11, q10⟩
                  have g7 := f7 (doneD hd 7 rfl)
                  have g8 := f8 (doneD hd 8 rfl)
                  exact .inl ⟨rfl, L_sl (l := 0) (h := i0) (m := c15) (n' := ((anyM l i0 k0).take i0).length) UDR_56 SA_59.1 (hs.rd 2 rfl) g7 (.inl ⟨rfl, rfl⟩) (.inr ⟨_, _, rfl, g8⟩) (.inl ⟨rfl, rfl⟩) (by omega) (by omega) (Nat.le_trans (show i0 ≤ (anyM l i0 k0).length by omega) (Rd.roomM (hs.rd 2 rfl))) (Nat.le_refl _) (by simp only [List.length_take, List.length_drop] <;> omega) ⟨hs, f0, f1, f2, f3, f4, f5, f6, f7, f8, fun _ => rfl, f10, f11, q10⟩⟩
                · rintro D ρ wx hD hd hdc hf ⟨hs, f0, f1, f2, f3, f4, f5, f6, f7, f8, f9, f10, f11, q10⟩
                  have g6 := f6 (doneD hd 6 rfl)
                  have g9 := f9 (doneD hd 9 rfl)
                  have n11 : D 11 = false := (notYetD hdc (j := 11) rfl rfl hD)
                  refine .inl ⟨rfl, L_appG (ls' := ((((anyM l i0 k0).drop i0).take (l.length - i0)) ++ ((anyM l i0 k0).take i0)).map oc) (n := ((((anyM l i0 k0).drop i0).take (l.length - i0)) ++ ((anyM l i0 k0).take i0)).length) EL_56 hs g6 g9 (Rd.subM (hs.rd 2 rfl) i0 l.length l.length (by omega) (by omega) (by omega) (Nat.le_trans (show l.length ≤ (anyM l i0 k0).length by omega) (Rd.roomM (hs.rd 2 rfl))) _ (by simp only [List.length_take, List.length_drop] <;> omega)) (Rd.subM (hs.rd 2 rfl) 0 i0 c15 (by omega) (by omega) (Nat.le_trans (show i0 ≤ (anyM l i0 k0).length by omega) (Rd.roomM (hs.rd 2 rfl))) (Nat.le_refl _) _ (by simp only [List.length_take, List.length_drop] <;> omega)) (by simp only [List.length_map]) (by simp only [List.length_map, List.length_take, List.length_drop, anyM_len]; omega) (by simp only [List.length_map, List.length_take, List.length_drop, anyM_len]; omega) (by simp only [List.length_map, List.length_take, List.length_drop, anyM_len]; omega) (one_map oc_one _) (one_map oc_one _) (by simp only [List.length_map, List.length_take, List.length_drop, anyM_len]; omega) (by simp only [List.map_append, List.drop_zero, Nat.sub_zero]) (by simp only [List.length_map]) fun _ _ _ hs0 => ⟨?_, f0, f1, f2, f3, f4, f5, f6, f7, f8, f9, fun _ => rfl, (fun h => absurd (n11.symm.trans h) Bool.false_ne_true), q10⟩⟩
                  exact hs0.put 3 (Nat.le_of_ble_eq_true rfl)
                · rintro D ρ wx hD hd hdc hf ⟨hs, f0, f1, f2, f3, f4, f5, f6, f7, f8, f9, f10, f11, q10⟩
                  have g10 := f10 (doneD hd 10 rfl)
                  exact .inl ⟨rfl, L_assign (V := .slice (aOf (ρ 81)) (((((anyM l i0 k0).drop i0).take (l.length - i0)) ++ ((anyM l i0 k0).take i0)).length) (cOf (ρ 81))) g10 ⟨hs, f0, f1, f2, f3, f4, f5, f6, f7, f8, f9, f10, fun _ => rfl, (fun h => nomatch (show true = false from h))⟩⟩
                · rintro ρ1 w1 D hD hf ⟨hs, f0, f1, f2, f3, f4, f5, f6, f7, f8, f9, f10, f11, q10⟩
                  rw [hD 10 rfl] at hs
                  have e11 := f11 (hD 11 rfl)
                  clear f0 f1 f2 f3 f4 f5 f6 f7 f8 f9 f10 f11 q10
                  obtain ⟨a34, ha34⟩ : ∃ b, aOf (ρ1 81) = b := ⟨_, rfl⟩
                  try rw [ha34] at hs
                  try rw [ha34] at e11
                  obtain ⟨c35, hc35⟩ : ∃ b, cOf (ρ1 81) = b := ⟨_, rfl⟩
                  try rw [hc35] at hs
                  try rw [hc35] at e11
                  obtain ⟨ρ2, hρ⟩ : ∃ ρ2, ρ1 = upd (mix [71, 72, 73, 74, 75, 76, 77, 78, 79, 80, 81, 10] ρ2 _) 10 (.slice a34 (((((anyM l i0 k0).drop i0).take (l.length - i0)) ++ ((anyM l i0 k0).take i0)).length) c35) := ⟨ρ1, upd_of (mix_of (ds := [71, 72, 73, 74, 75, 76, 77, 78, 79, 80, 81, 10]) hf) e11⟩
                  clear hf hD e11
                  subst hρ
                  refine W_seq ?_
                  have hpm : l.Perm ((((anyM l i0 k0).drop i0).take (l.length - i0)) ++ ((anyM l i0 k0).take i0)) := turned_perm2 hi0l hk0l
                  have hVE : viewP ((((anyM l i0 k0).drop i0).take (l.length - i0)) ++ ((anyM l i0 k0).take i0)) cart = viewP l cart := (view_perm hpm hnd2 cart).symm
                  refine W_region ?_
                  refine RW_op (L_move (V := .slice a l.length c) rfl ?_)
                  refine RW_op (L_move (V := .int .u16 cart) rfl ?_)
                  refine RW_op (L_callX (α := Option Addr × Nat) (vs := [.slice a l.length c, .int .u16 cart]) (V := fun x => .agg ([.int .u16 ((viewP l cart).cart), .slice x.1 (((viewP l cart).lines).length) x.2, .bool ((viewP l cart).out), .int .u32 ((viewP l cart).tick)]).toArray) (Lo := fun x => [row (.slice x.1 ((viewP l cart).lines).length x.2) (((viewP l cart).lines).map lc) 67 2]) (F := fun _ _ => True) EN_34 rfl rfl ?hc hs fun x38 w37 hs _ => ?_)
                  case hc => exact (fViewE_ok _ a c l cart (viewP l cart) (rfl) hl (by omega) (Rd.own' hr hs) hsortU)
                  replace hs : Own w no w37 [blk b1 [.int .u8 at0, .int .u8 at1] 69, mapR mr6 dv (Value.int .i64) sm, row (.slice a15 l.length c15) ((anyM l i0 k0).map oc) 59 23, row (.slice a34 (((((anyM l i0 k0).drop i0).take (l.length - i0)) ++ ((anyM l i0 k0).take i0)).length) c35) (((((anyM l i0 k0).drop i0).take (l.length - i0)) ++ ((anyM l i0 k0).take i0)).map oc) 59 23, row (.slice x38.1 (((viewP l cart).lines).length) x38.2) (((viewP l cart).lines).map lc) 67 2] := hs
                  refine RW_op (L_move (V := .slice a34 (((((anyM l i0 k0).drop i0).take (l.length - i0)) ++ ((anyM l i0 k0).take i0)).length) c35) rfl ?_)
                  refine RW_op (L_move (V := .int .u16 cart) rfl ?_)
                  refine RW_op (L_callX (α := Option Addr × Nat) (vs := [.slice a34 (((((anyM l i0 k0).drop i0).take (l.length - i0)) ++ ((anyM l i0 k0).take i0)).length) c35, .int .u16 cart]) (V := fun x => .agg ([.int .u16 ((viewP ((((anyM l i0 k0).drop i0).take (l.length - i0)) ++ ((anyM l i0 k0).take i0)) cart).cart), .slice x.1 (((viewP ((((anyM l i0 k0).drop i0).take (l.length - i0)) ++ ((anyM l i0 k0).take i0)) cart).lines).length) x.2, .bool ((viewP ((((anyM l i0 k0).drop i0).take (l.length - i0)) ++ ((anyM l i0 k0).take i0)) cart).out), .int .u32 ((viewP ((((anyM l i0 k0).drop i0).take (l.length - i0)) ++ ((anyM l i0 k0).take i0)) cart).tick)]).toArray) (Lo := fun x => [row (.slice x.1 ((viewP ((((anyM l i0 k0).drop i0).take (l.length - i0)) ++ ((anyM l i0 k0).take i0)) cart).lines).length x.2) (((viewP ((((anyM l i0 k0).drop i0).take (l.length - i0)) ++ ((anyM l i0 k0).take i0)) cart).lines).map lc) 67 2]) (F := fun _ _ => True) EN_34 rfl rfl ?hc hs fun x40 w39 hs _ => ?_)
                  case hc => exact (fViewE_ok _ a34 c35 ((((anyM l i0 k0).drop i0).take (l.length - i0)) ++ ((anyM l i0 k0).take i0)) cart (viewP ((((anyM l i0 k0).drop i0).take (l.length - i0)) ++ ((anyM l i0 k0).take i0)) cart) (rfl) (fun o ho => hl o (hpm.mem_iff.2 ho)) (by rw [← hpm.length_eq]; omega) (hs.rd 3 rfl) hsortU)
                  refine RW_op (L_callPV (V' := .bool true) (congrArg Value.bool (by rw [hVE]; exact same_self (viewP l cart))) (vs := [.agg ([.int .u16 ((viewP l cart).cart), .slice x38.1 (((viewP l cart).lines).length) x38.2, .bool ((viewP l cart).out), .int .u32 ((viewP l cart).tick)]).toArray, .agg ([.int .u16 ((viewP ((((anyM l i0 k0).drop i0).take (l.length - i0)) ++ ((anyM l i0 k0).take i0)) cart).cart), .slice x40.1 (((viewP ((((anyM l i0 k0).drop i0).take (l.length - i0)) ++ ((anyM l i0 k0).take i0)) cart).lines).length) x40.2, .bool ((viewP ((((anyM l i0 k0).drop i0).take (l.length - i0)) ++ ((anyM l i0 k0).take i0)) cart).out), .int .u32 ((viewP ((((anyM l i0 k0).drop i0).take (l.length - i0)) ++ ((anyM l i0 k0).take i0)) cart).tick)]).toArray]) (V := .bool (decide ((viewP l cart).cart = (viewP ((((anyM l i0 k0).drop i0).take (l.length - i0)) ++ ((anyM l i0 k0).take i0)) cart).cart) && (((viewP l cart).out) == ((viewP ((((anyM l i0 k0).drop i0).take (l.length - i0)) ++ ((anyM l i0 k0).take i0)) cart).out)) && decide ((viewP l cart).tick = (viewP ((((anyM l i0 k0).drop i0).take (l.length - i0)) ++ ((anyM l i0 k0).take i0)) cart).tick) && decide ((viewP l cart).lines = (viewP ((((anyM l i0 k0).drop i0).take (l.length - i0)) ++ ((anyM l i0 k0).take i0)) cart).lines))) EN_33 rfl rfl ?hc hs fun w41 hs => ?_)
                  case hc => exact (same7_ok _ ((viewP l cart).cart) ((viewP ((((anyM l i0 k0).drop i0).take (l.length - i0)) ++ ((anyM l i0 k0).take i0)) cart).cart) ((viewP l cart).tick) ((viewP ((((anyM l i0 k0).drop i0).take (l.length - i0)) ++ ((anyM l i0 k0).take i0)) cart).tick) ((viewP l cart).out) ((viewP ((((anyM l i0 k0).drop i0).take (l.length - i0)) ++ ((anyM l i0 k0).take i0)) cart).out) x38.1 x40.1 x38.2 x40.2 ((viewP l cart).lines) ((viewP ((((anyM l i0 k0).drop i0).take (l.length - i0)) ++ ((anyM l i0 k0).take i0)) cart).lines) (hs.rd 4 rfl) (hs.rd 5 rfl))
                  refine RW_op (L_move (V := .bool true) rfl ?_)
                  refine RW_gy rfl (L_move (V := .slice a l.length c) rfl ?_)
                  refine RW_gy rfl (L_callX (vs := [.slice a l.length c]) EN_36 rfl rfl (fCarts_ok _ a c l hl (by omega) (Rd.own' hr hs) hsortU) hs fun x43 w42 hs _ => ?_)
                  refine RW_gy rfl (L_move (V := .slice a34 (((((anyM l i0 k0).drop i0).take (l.length - i0)) ++ ((anyM l i0 k0).take i0)).length) c35) rfl ?_)
                  refine RW_gy rfl (L_callX (vs := [.slice a34 (((((anyM l i0 k0).drop i0).take (l.length - i0)) ++ ((anyM l i0 k0).take i0)).length) c35]) EN_36 rfl rfl (fCarts_ok _ a34 c35 ((((anyM l i0 k0).drop i0).take (l.length - i0)) ++ ((anyM l i0 k0).take i0)) (fun o ho => hl o (hpm.mem_iff.2 ho)) (by rw [← hpm.length_eq]; omega) (hs.rd 3 rfl) hsortU) hs fun x45 w44 hs _ => ?_)
                  refine RW_gy rfl (L_callPV (V' := .bool true) (congrArg Value.bool (decide_eq_true (carts_perm hpm))) (vs := [.slice x43.1 ((cartsP l).length) x43.2, .slice x45.1 ((cartsP ((((anyM l i0 k0).drop i0).take (l.length - i0)) ++ ((anyM l i0 k0).take i0))).length) x45.2]) (V := .bool (decide (cartsP l = cartsP ((((anyM l i0 k0).drop i0).take (l.length - i0)) ++ ((anyM l i0 k0).take i0))))) EN_35 rfl rfl ?hc hs fun w46 hs => ?_)
                  case hc => exact (eqU_ok _ x43.1 x45.1 x43.2 x45.2 (cartsP l) (cartsP ((((anyM l i0 k0).drop i0).take (l.length - i0)) ++ ((anyM l i0 k0).take i0))) (hs.rd 6 rfl) (hs.rd 7 rfl))
                  refine RW_op (L_pick (V := .bool true) rfl rfl ?_)
                  refine RW_op (L_move (V := .bool true) rfl ?_)
                  refine RW_gy rfl (L_move (V := .slice a l.length c) rfl ?_)
                  refine RW_gy rfl (L_callP (vs := [.slice a l.length c]) (V := .bool (closedP l)) EN_37 rfl rfl ?hc hs fun w47 hs => ?_)
                  case hc => exact (fClosed_ok _ a c l hl (by omega) (Rd.own' hr hs))
                  refine RW_gy rfl (L_move (V := .slice a34 (((((anyM l i0 k0).drop i0).take (l.length - i0)) ++ ((anyM l i0 k0).take i0)).length) c35) rfl ?_)
                  refine RW_gy rfl (L_callP (vs := [.slice a34 (((((anyM l i0 k0).drop i0).take (l.length - i0)) ++ ((anyM l i0 k0).take i0)).length) c35]) (V := .bool (closedP ((((anyM l i0 k0).drop i0).take (l.length - i0)) ++ ((anyM l i0 k0).take i0)))) EN_37 rfl rfl ?hc hs fun w48 hs => ?_)
                  case hc => exact (fClosed_ok _ a34 c35 ((((anyM l i0 k0).drop i0).take (l.length - i0)) ++ ((anyM l i0 k0).take i0)) (fun o ho => hl o (hpm.mem_iff.2 ho)) (by rw [← hpm.length_eq]; omega) (hs.rd 3 rfl))
                  refine RW_gy rfl (opW_to (V := .bool ((closedP l) == (closedP ((((anyM l i0 k0).drop i0).take (l.length - i0)) ++ ((anyM l i0 k0).take i0))))) (V' := .bool true) (L_eqb UDR_4 rfl rfl ⟨rfl, rfl⟩) (congrArg Value.bool (by rw [closed_perm hl hpm]; exact beqT rfl)) ?_)
                  refine RW_op (L_pick (V := .bool true) rfl rfl ?_)
                  refine RW_op (L_assign (V := .bool true) rfl ?_)
                  refine RW_nil ?_
                  refine W_ret ?_
                  refine ⟨_, res_one (V := .bool true) Try.results12 rfl, ?_⟩
                  refine ⟨congrArg Ending.returned ?_, hs.take 0⟩
                  rfl
end Tf
end Go.Proofs
namespace Go.Proofs
open Go.Shelf
def Try.sortD_ren : Go.Shelf.Ren := ⟨fun | 6 => 64 | 15 => 81 | 14 => 80 | 28 => 98 | 29 => 99 | 20 => 90 | 21 => 91 | 22 => 92 | 23 => 93 | 24 => 94 | 25 => 95 | 26 => 96 | 27 => 97 | 46 => 111 | 47 => 112 | 48 => 113 | 49 => 114 | 50 => 115 | 57 => 120 | n => n, fun | 22 => 25 | 24 => 34 | 25 => 88 | 3 => 3 | 39 => 119 | 0 => 0 | 53 => 22 | 55 => 54 | 4 => 4 | 46 => 130 | 45 => 129 | 50 => 134 | 5 => 5 | 9 => 9 | 66 => 145 | 70 => 149 | 76 => 153 | 77 => 154 | n => n, fun | n => n⟩
theorem Try.sortD : Go.Proofs.SlLaysF0.n6 Try.prog Try.sortD_ren := {
  mixed := by kernel_rfl
  f6 := ⟨Try.f64.name, by decide, Try.func64.trans (congrArg some (by kernel_rfl))⟩
  f14 := ⟨Try.f80.name, by decide, Try.func80.trans (congrArg some (by kernel_rfl))⟩
  f15 := Try.func81.trans (congrArg some (by kernel_rfl))
  f20 := ⟨Try.f90.name, by decide, Try.func90.trans (congrArg some (by kernel_rfl))⟩
  f21 := ⟨Try.f91.name, by decide, Try.func91.trans (congrArg some (by kernel_rfl))⟩
  f22 := ⟨Try.f92.name, by decide, Try.func92.trans (congrArg some (by kernel_rfl))⟩
  f23 := ⟨Try.f93.name, by decide, Try.func93.trans (congrArg some (by kernel_rfl))⟩
  f24 := ⟨Try.f94.name, by decide, Try.func94.trans (congrArg some (by kernel_rfl))⟩
  f25 := ⟨Try.f95.name, by decide, Try.func95.trans (congrArg some (by kernel_rfl))⟩
  f26 := ⟨Try.f96.name, by decide, Try.func96.trans (congrArg some (by kernel_rfl))⟩
  f27 := ⟨Try.f97.name, by decide, Try.func97.trans (congrArg some (by kernel_rfl))⟩
  f28 := Try.func98.trans (congrArg some (by kernel_rfl))
  f29 := Try.func99.trans (congrArg some (by kernel_rfl))
  f46 := ⟨Try.f111.name, by decide, Try.func111.trans (congrArg some (by kernel_rfl))⟩
  f47 := Try.func112.trans (congrArg some (by kernel_rfl))
  f48 := Try.func113.trans (congrArg some (by kernel_rfl))
  f49 := ⟨Try.f114.name, by decide, Try.func114.trans (congrArg some (by kernel_rfl))⟩
  f50 := ⟨Try.f115.name, by decide, Try.func115.trans (congrArg some (by kernel_rfl))⟩
  f57 := ⟨Try.f120.name, by decide, Try.func120.trans (congrArg some (by kernel_rfl))⟩
  t0 := Try.underlying0
  a0 := Try.isAgg0
  z0 := Try.sizeOf0
  v0 := Try.zeroValue0
  t3 := Try.underlying3
  a3 := Try.isAgg3
  z3 := Try.sizeOf3
  v3 := Try.zeroValue3
  t4 := Try.underlying4
  a4 := Try.isAgg4
  z4 := Try.sizeOf4
  v4 := Try.zeroValue4
  t5 := Try.underlying5
  a5 := Try.isAgg5
  z5 := Try.sizeOf5
  v5 := Try.zeroValue5
  t9 := Try.underlying9
  a9 := Try.isAgg9
  z9 := Try.sizeOf9
  v9 := Try.zeroValue9
  t22 := Try.underlying25
  a22 := Try.isAgg25
  z22 := Try.sizeOf25
  v22 := Try.zeroValue25
  t25 := Try.underlying88
  a25 := Try.isAgg88
  z25 := Try.sizeOf88
  v25 := Try.zeroValue88
  t39 := Try.underlying119
  a39 := Try.isAgg119
  z39 := Try.sizeOf119
  v39 := Try.zeroValue119
  t45 := Try.underlying129
  a45 := Try.isAgg129
  z45 := Try.sizeOf129
  v45 := Try.zeroValue129
  t46 := Try.underlying130
  a46 := Try.isAgg130
  z46 := Try.sizeOf130
  v46 := Try.zeroValue130
  t50 := Try.underlying134
  a50 := Try.isAgg134
  z50 := Try.sizeOf134
  v50 := Try.zeroValue134
  t53 := Try.underlying22
  a53 := Try.isAgg22
  z53 := Try.sizeOf22
  v53 := Try.zeroValue22
  t55 := Try.underlying54
  a55 := Try.isAgg54
  z55 := Try.sizeOf54
  v55 := Try.zeroValue54
  t66 := Try.underlying145
  a66 := Try.isAgg145
  z66 := Try.sizeOf145
  v66 := Try.zeroValue145
  t70 := Try.underlying149
  a70 := Try.isAgg149
  z70 := Try.sizeOf149
  v70 := Try.zeroValue149
  t76 := Try.underlying153
  a76 := Try.isAgg153
  z76 := Try.sizeOf153
  v76 := Try.zeroValue153
  t77 := Try.underlying154
  a77 := Try.isAgg154
  z77 := Try.sizeOf154
  v77 := Try.zeroValue154 }
end Go.Proofs
namespace Go.Proofs.Ytnanhhiofnohbaa
open Go.Vx Go.Sort Go.Proofs
theorem lenU : LenC Try.prog 81 := fun w n hn => by
  have h := Any.bits_Len (SlLaysF0.n15.bits (P := Try.prog) (ρ := Try.sortD_ren) { Try.sortD with }) (n : Int) w (by omega) (by omega)
  rw [Int.toNat_natCast, bitLen_eq _ (by omega)] at h
  exact h.mono fun e w' ⟨he, hw⟩ => by subst hw; exact ⟨he, Own.start _⟩
theorem xorU : XorC Try.prog 113 145 := fun w S rb X hX hR hlt => xor_ok (P := Try.prog) (ρ := Try.sortD_ren) { Try.sortD with } 145 w S rb X hX hR hlt
theorem powU : PowC Try.prog 112 := fun w n hn => pow_ok (P := Try.prog) (ρ := Try.sortD_ren) { Try.sortD with } w n hn
theorem sortsU : SortI Try.prog 76 .u16 57 := Ts.sort_ok xorU powU lenU
end Go.Proofs.Ytnanhhiofnohbaa
namespace Go.Proofs.Ytnanhhiofnohbaa
open Go.RowKit Go.Vx
theorem Try.own : ownKnob Try.prog.godebug = none := by kernel_rfl
theorem Try.laidOut : laidOutB Try.prog = true := by kernel_rfl
theorem O24 : OpenT Try.prog 24 vc VecOk := O_vec Try.underlying24 Try.underlying22 (by kernel_rfl) (by kernel_rfl)
theorem O34 : OpenT Try.prog 34 dc DotOk := O_dot Try.underlying34 rfl rfl Try.underlying5 Try.underlying22 (by kernel_rfl) (by kernel_rfl) (by kernel_rfl)
end Go.Proofs.Ytnanhhiofnohbaa
namespace Go.Proofs.Ytnanhhiofnohbaa
open Go.RowKit Go.Vx
theorem O59 : OpenT Try.prog 59 oc OpnOk := O_opn Try.underlying59 rfl rfl O34 O24 Try.underlying5 Try.underlying57 Try.underlying57 Try.underlying57 Try.underlying22 (by kernel_rfl) (by kernel_rfl)
theorem O69 : OpenT Try.prog 69 pc2 (fun p => (0 ≤ p.1 ∧ p.1 < 256) ∧ (0 ≤ p.2 ∧ p.2 < 256)) := O_pc2 Try.underlying69 Try.underlying5 (by kernel_rfl) (by kernel_rfl)
end Go.Proofs.Ytnanhhiofnohbaa
