/- A part of a proof: what functions of the program compute, and plain facts on that. -/
import Derived.Test.YtnanhhiofnohbaaFoldAddsP5
import Derived.Shelf.SlLaysF0
import Derived.Ground.SlsfProg
import Derived.Test.YtnanhhiofnohbaaProg
import Derived.KernelRfl
set_option linter.unusedVariables false
set_option linter.unusedSimpArgs false
namespace Go.Proofs
open Go Go.Vx Go.RowKit
open Tt
namespace Tf
theorem S1_61 : T1 Try.prog 61 := ⟨Try.sizeOf61, Try.isAgg61⟩
theorem SA_63 : TA Try.prog 63 4 := ⟨Try.sizeOf63, Try.isAgg63⟩
set_option maxRecDepth 20000 in
theorem BT_63 : Bt Try.prog 63 [(0, 1), (1, 1), (2, 1), (3, 1)] ([.int .u16 0, .slice none 0 0, .bool false, .int .u32 0]) := Bt_struct Try.type63 rfl rfl Try.underlying63 (by kernel_rfl)
set_option maxRecDepth 20000 in
theorem BT_67 : Bt Try.prog 67 [(0, 1), (1, 1)] (lc (⟨0, 0⟩ : Line)) := Bt_struct Try.type67 rfl rfl Try.underlying67 (by kernel_rfl)
set_option maxRecDepth 20000 in
theorem EL_61 : El Try.prog 61 67 2 8 := ⟨Try.underlying61, _, _, Try.type67, rfl, rfl, rfl, rfl, by decide⟩
theorem EN_55 : En Try.prog 55 := Try.call55
theorem EN_57 : En Try.prog 57 := Try.call57
theorem FA_59_5 : FA Try.prog 59 5 6 := fun b o w => by simp [Instr.fieldAt, Instr.sureAddr, fieldPlace, add_eq]
theorem FA_63_1 : FA Try.prog 63 1 1 := fun b o w => by simp [Instr.fieldAt, Instr.sureAddr, fieldPlace, add_eq]
theorem FA_63_2 : FA Try.prog 63 2 2 := fun b o w => by simp [Instr.fieldAt, Instr.sureAddr, fieldPlace, add_eq]
theorem FA_63_3 : FA Try.prog 63 3 3 := fun b o w => by simp [Instr.fieldAt, Instr.sureAddr, fieldPlace, add_eq]
theorem UD_72 : Ud Try.prog 72 (.slice 57) := Try.runUnderlying72
theorem ZV_63 : Zv Try.prog 63 (.agg ([.int .u16 0, .slice none 0 0, .bool false, .int .u32 0]).toArray) := Try.zeroValue63
set_option maxRecDepth 20000 in
set_option maxHeartbeats 4000000 in
theorem fView_ok (w : World) (a : Option Addr) (c : Nat) (l : List Opn) (cart : Int) (hl : ∀ o ∈ l, OpnOk o) (hlen : l.length ≤ 1000) (hr : Rd w (.slice a l.length c) 23 (l.map oc)) (hsortU : SortI Try.prog 76 .u16 57) : Calls Try.prog 34 #[.slice a l.length c, .int .u16 cart] w (fun e w' => ∃ x : Option Addr × Nat, e = .returned (.agg [.int .u16 (viewP l cart).cart, .slice x.1 (viewP l cart).lines.length x.2, .bool (viewP l cart).out, .int .u32 (viewP l cart).tick].toArray) ∧ Own w no w' [row (.slice x.1 (viewP l cart).lines.length x.2) ((viewP l cart).lines.map lc) 67 2] ∧ True) := by
  refine calls_of_Wn (n := 78) Try.func34 rfl Try.ntmps34 rfl ?_
  have hs := Own.start w
  have hn := hr.sml
  refine W_seq ?_
  refine W_region ?_
  refine RW_op (L_alloc (cs := [.int .u16 0, .slice none 0 0, .bool false, .int .u32 0]) ZV_63 rfl hs fun b1 w2 hs => ?_)
  refine RW_nil ?_
  refine W_seq ?_
  refine W_region ?_
  refine RW_op (L_move (V := .int .u16 cart) rfl ?_)
  refine RW_op (L_build (vs := [(0, .int .u16 cart)]) (cs := [.int .u16 cart, .slice none 0 0, .bool false, .int .u32 0]) BT_63 (rfl) rfl ?_)
  refine RW_op (L_alloc (cs := [.int .u16 0, .slice none 0 0, .bool false, .int .u32 0]) ZV_63 rfl hs fun b3 w4 hs => ?_)
  refine RW_op (L_st (V := .agg ([.int .u16 cart, .slice none 0 0, .bool false, .int .u32 0]).toArray) (vs := [.int .u16 cart, .slice none 0 0, .bool false, .int .u32 0]) (cs' := [.int .u16 cart, .slice none 0 0, .bool false, .int .u32 0]) SA_63.1 hs 1 rfl rfl rfl rfl rfl (Nat.le_of_ble_eq_true rfl) (one_cons rfl (one_cons rfl (one_cons rfl (one_cons rfl one_nil)))) (spl_whole rfl) fun w5 hs => ?_)
  refine RW_nil ?_
  refine W_seq ?_
  refine W_region ?_
  refine RW_op (L_makeMap rfl hs (Value.int .u16) tv fun mr6 w7 hs => ?_)
  replace hs : Own w no w7 [blk b1 [.int .u16 0, .slice none 0 0, .bool false, .int .u32 0] 63, blk b3 [.int .u16 cart, .slice none 0 0, .bool false, .int .u32 0] 63, mapR mr6 (Value.int .u16) tv []] := hs
  refine RW_op (L_assign (V := .map (some mr6)) rfl ?_)
  refine RW_nil ?_
  refine W_seq ?_
  refine W_seq ?_
  refine W_region ?_
  refine RW_op (L_move (V := .slice a l.length c) rfl ?_)
  refine RW_op (L_lenR (n := l.length) UD_56 (Rd.own' hr hs) (by simp) rfl ?_)
  refine RW_op (L_move (V := .int .i64 0) rfl ?_)
  refine RW_nil ?_
  refine W_block ?_
  refine W_loopI (fun ρ m ρ' w' => ∃ (ρo : Env) (k : Nat) (s : VSt), ρ' = upd (mix [8, 17, 18, 19, 20, 21, 22, 23, 24, 25, 26, 27, 28, 29, 30, 31, 32, 33, 34, 35, 36, 37, 38, 39, 40, 41, 42, 43, 44, 45, 46, 47, 48, 49, 50] ρo ρ) 17 (.int .i64 (k : Int)) ∧ (k ≤ l.length) ∧ (s = vst l cart k) ∧ m = l.length - k ∧ Own w no w' [blk b1 [.int .u16 0, .slice none 0 0, .bool false, .int .u32 0] 63, blk b3 [.int .u16 cart, .slice none 0 0, .bool s.out, .int .u32 s.tick] 63, mapR mr6 (Value.int .u16) tv s.items]) ?_ ?_
  · exact ⟨_, _, 0, ⟨0, false, []⟩, upd_of (mix_of (ds := [8, 17, 18, 19, 20, 21, 22, 23, 24, 25, 26, 27, 28, 29, 30, 31, 32, 33, 34, 35, 36, 37, 38, 39, 40, 41, 42, 43, 44, 45, 46, 47, 48, 49, 50]) (Agr.refl _ _)) rfl, (by omega), rfl, rfl, hs⟩
  · rintro m ρ' w8 ⟨ρo, k, s, rfl, hk, hs1, rfl, hs⟩
    refine W_seq ?_
    refine W_region ?_
    refine RW_op (L_lss rfl rfl ?_)
    refine RW_nil ?_
    refine W_seq ?_
    refine W_cond (t := decide ((k : Int) < ((l.length : Nat) : Int))) rfl (fun c9 => ?_) (fun c9 => ?_)
    ·
      replace c9 := of_decide_eq_true c9
      refine W_skip ?_
      refine W_seq ?_
      refine W_block ?_
      refine W_seq ?_
      refine W_region ?_
      refine RW_op (L_ixR UD_56 SA_59.1 (Rd.own' hr hs) rfl rfl (by omega) (by rw [List.length_map]; omega) ?_)
      refine RW_op (L_ldRA (j := 0) (vs := oc (gd l k)) k SA_59 (Rd.own' hr hs) (gd_at (by omega)) rfl rfl rfl (by omega) ?_)
      refine RW_op (L_alloc (cs := oc (⟨(⟨0, 0⟩ : Dot), 0, 0, 0, 0, 0, vzero⟩ : Opn)) ZV_59 rfl hs fun b10 w11 hs => ?_)
      refine RW_op (L_st (V := .agg (oc (gd l k)).toArray) (vs := oc (gd l k)) (cs' := oc (gd l k)) SA_59.1 hs 3 rfl rfl rfl rfl rfl (Nat.le_of_ble_eq_true rfl) (oc_one _) (spl_whole rfl) fun w12 hs => ?_)
      refine RW_nil ?_
      refine W_seq ?_
      refine W_seq ?_
      have hok := hl _ (gd_mem (l := l) (i := k) (by omega))
      have hdk := hok.1
      refine W_region ?_
      refine RW_op (L_fieldAddr FA_59_2 rfl ?_)
      refine RW_op (L_ld (V := .int .u16 ((gd l k).cart)) S1_57 hs 3 rfl rfl rfl ?_)
      refine RW_op (L_move (V := .int .u16 cart) rfl ?_)
      refine RW_op (L_neq rfl rfl ?_)
      refine RW_nil ?_
      refine W_cond (t := !decide ((gd l k).cart = cart)) rfl (fun c13 => ?_) (fun c13 => ?_)
      ·
        replace c13 := not_t c13
        replace c13 := of_decide_eq_false c13
        refine W_exit ?_
        refine W_region ?_
        refine RW_op (L_add (a := (k : Int)) (b := 1) (c := (k : Int) + 1) rfl rfl (wr_i64 (by omega) (by omega)) ?_)
        refine RW_op (L_move (V := .int .i64 ((k : Int) + 1)) rfl ?_)
        refine RW_nil ?_
        refine ⟨_, ?_, _, k + 1, s, upd_of (mix_of (ds := [8, 17, 18, 19, 20, 21, 22, 23, 24, 25, 26, 27, 28, 29, 30, 31, 32, 33, 34, 35, 36, 37, 38, 39, 40, 41, 42, 43, 44, 45, 46, 47, 48, 49, 50]) (by repeat (first | exact Agr.refl _ _ | refine Agr.upd ?_ rfl | refine Agr.mix ?_ rfl))) rfl, (by omega), (vs_skip hs1 (by omega) c13), rfl, hs.take 3⟩
        omega
      ·
        replace c13 := not_f c13
        replace c13 := of_decide_eq_true c13
        refine W_skip ?_
        refine W_seq ?_
        refine W_region ?_
        refine RW_op (L_fieldAddr FA_63_3 rfl ?_)
        refine RW_op (L_ld (V := .int .u32 s.tick) S1_22 hs 1 rfl rfl rfl ?_)
        refine RW_op (L_fieldAddr FA_59_5 rfl ?_)
        refine RW_op (L_ld (V := .int .u32 ((gd l k).tick)) S1_22 hs 3 rfl rfl rfl ?_)
        refine RW_op (L_max rfl rfl ?_)
        refine RW_op (L_fieldAddr FA_63_3 rfl ?_)
        refine RW_op (L_st1 (V := .int .u32 (max s.tick ((gd l k).tick))) (cs' := [.int .u16 cart, .slice none 0 0, .bool s.out, .int .u32 (max s.tick ((gd l k).tick))]) S1_22 hs 1 rfl rfl rfl rfl (Nat.le_of_ble_eq_true rfl) rfl fun w14 hs => ?_)
        refine RW_nil ?_
        refine W_block ?_
        refine W_seq ?_
        refine W_region ?_
        refine RW_op (L_move (V := .slice a l.length c) rfl ?_)
        refine RW_op (L_ldW (cs := oc (gd l k)) SA_59 hs 3 rfl rfl rfl ?_)
        refine RW_op (L_callP (vs := [.slice a l.length c, .agg (oc (gd l k)).toArray]) (V := .bool (liveB l (gd l k))) EN_54 rfl rfl ?hc hs fun w15 hs => ?_)
        case hc => exact (fLive_ok _ a c l (gd l k) hdk (Rd.own' hr hs))
        refine RW_op (L_not rfl ?_)
        refine RW_op (L_assign (V := .bool (!(liveB l (gd l k)))) rfl ?_)
        refine RW_nil ?_
        refine W_cond (t := !(liveB l (gd l k))) rfl (fun c16 => ?_) (fun c16 => ?_)
        ·
          replace c16 := not_t c16
          refine W_skip ?_
          refine W_region ?_
          refine RW_op (L_add (a := (k : Int)) (b := 1) (c := (k : Int) + 1) rfl rfl (wr_i64 (by omega) (by omega)) ?_)
          refine RW_op (L_move (V := .int .i64 ((k : Int) + 1)) rfl ?_)
          refine RW_nil ?_
          refine ⟨_, ?_, _, k + 1, (⟨max s.tick ((gd l k).tick), s.out, s.items⟩ : VSt), upd_of (mix_of (ds := [8, 17, 18, 19, 20, 21, 22, 23, 24, 25, 26, 27, 28, 29, 30, 31, 32, 33, 34, 35, 36, 37, 38, 39, 40, 41, 42, 43, 44, 45, 46, 47, 48, 49, 50]) (by repeat (first | exact Agr.refl _ _ | refine Agr.upd ?_ rfl | refine Agr.mix ?_ rfl))) rfl, (by omega), (vs_dead hs1 (by omega) c13 c16), rfl, hs.take 3⟩
          omega
        ·
          replace c16 := not_f c16
          refine W_seq ?_
          refine W_region ?_
          refine RW_op (L_fieldAddr FA_59_1 rfl ?_)
          refine RW_op (L_ld (V := .int .u8 ((gd l k).kind)) S1_5 hs 3 rfl rfl rfl ?_)
          refine RW_op (L_eql rfl rfl ?_)
          refine RW_op (L_assign (V := .bool (decide ((gd l k).kind = 4))) rfl ?_)
          refine RW_nil ?_
          refine W_cond (t := decide ((gd l k).kind = 4)) rfl (fun c17 => ?_) (fun c17 => ?_)
          ·
            replace c17 := of_decide_eq_true c17
            refine W_region ?_
            refine RW_op (L_fieldAddr FA_63_2 rfl ?_)
            refine RW_op (L_st1 (V := .bool true) (cs' := [.int .u16 cart, .slice none 0 0, .bool true, .int .u32 (max s.tick ((gd l k).tick))]) S1_4 hs 1 rfl rfl rfl rfl (Nat.le_of_ble_eq_true rfl) rfl fun w18 hs => ?_)
            replace hs : Own w no w18 [blk b1 [.int .u16 0, .slice none 0 0, .bool false, .int .u32 0] 63, blk b3 [.int .u16 cart, .slice none 0 0, .bool true, .int .u32 (max s.tick ((gd l k).tick))] 63, mapR mr6 (Value.int .u16) tv s.items, blk b10 (oc (gd l k)) 59] := hs
            refine RW_nil ?_
            refine W_region ?_
            refine RW_op (L_add (a := (k : Int)) (b := 1) (c := (k : Int) + 1) rfl rfl (wr_i64 (by omega) (by omega)) ?_)
            refine RW_op (L_move (V := .int .i64 ((k : Int) + 1)) rfl ?_)
            refine RW_nil ?_
            refine ⟨_, ?_, _, k + 1, (⟨max s.tick ((gd l k).tick), true, s.items⟩ : VSt), upd_of (mix_of (ds := [8, 17, 18, 19, 20, 21, 22, 23, 24, 25, 26, 27, 28, 29, 30, 31, 32, 33, 34, 35, 36, 37, 38, 39, 40, 41, 42, 43, 44, 45, 46, 47, 48, 49, 50]) (by repeat (first | exact Agr.refl _ _ | refine Agr.upd ?_ rfl | refine Agr.mix ?_ rfl))) rfl, (by omega), (vs_out hs1 (by omega) c13 c16 c17), rfl, hs.take 3⟩
            omega
          ·
            replace c17 := of_decide_eq_false c17
            have hctx : VecOk ((mget (gd l k).item s.items).getD tz).set.ctx := by rw [hs1]; exact vst_ctx hl k (by omega) _
            replace hs := hs.drew
            refine W_draw2 HM [31, 32, 33, 34, 35, 36, 37, 38, 39] [[], [], [1], [], [], [4], [3, 5], [], [6, 7], [0, 2, 8, 8, 0, 1, 2, 3, 4, 5, 6, 7, 8]] (fun D ρ wx => Own w no wx [blk b1 [.int .u16 0, .slice none 0 0, .bool false, .int .u32 0] 63, blk b3 [.int .u16 cart, .slice none 0 0, .bool s.out, .int .u32 (max s.tick ((gd l k).tick))] 63, cond (D 9) (mapR mr6 (Value.int .u16) tv (mput ((gd l k).item) (takeT ((mget ((gd l k).item) s.items).getD tz) (gd l k)) s.items)) (mapR mr6 (Value.int .u16) tv s.items), blk b10 (oc (gd l k)) 59] ∧ (D 0 = true → ρ 31 = .map (some mr6)) ∧ (D 1 = true → ρ 32 = .pointer (some ⟨b10, 0 + 4, none⟩)) ∧ (D 2 = true → ρ 33 = .int .u16 ((gd l k).item)) ∧ (D 3 = true → ρ 34 = .map (some mr6)) ∧ (D 4 = true → ρ 35 = .pointer (some ⟨b10, 0 + 4, none⟩)) ∧ (D 5 = true → ρ 36 = .int .u16 ((gd l k).item)) ∧ (D 6 = true → ρ 37 = .agg (talc ((mget ((gd l k).item) s.items).getD tz)).toArray) ∧ (D 7 = true → ρ 38 = .agg (oc (gd l k)).toArray) ∧ (D 8 = true → ρ 39 = .agg (talc (takeT ((mget ((gd l k).item) s.items).getD tz) (gd l k))).toArray) ∧ (True)) rfl rfl rfl ⟨hs, fun h => absurd h Bool.false_ne_true, fun h => absurd h Bool.false_ne_true, fun h => absurd h Bool.false_ne_true, fun h => absurd h Bool.false_ne_true, fun h => absurd h Bool.false_ne_true, fun h => absurd h Bool.false_ne_true, fun h => absurd h Bool.false_ne_true, fun h => absurd h Bool.false_ne_true, fun h => absurd h Bool.false_ne_true, trivial⟩ ⟨?_, ?_, ?_, ?_, ?_, ?_, ?_, ?_, ?_, ?_, trivial⟩ ?_
            · rintro D ρ wx hD hd hdc hf ⟨hs, f0, f1, f2, f3, f4, f5, f6, f7, f8, f9⟩
              have r6 : ρ 6 = .map (some mr6) := outD hf 6 rfl
              exact .inl ⟨rfl, L_move (V := .map (some mr6)) r6 ⟨hs, fun _ => rfl, f1, f2, f3, f4, f5, f6, f7, f8, f9⟩⟩
            · rintro D ρ wx hD hd hdc hf ⟨hs, f0, f1, f2, f3, f4, f5, f6, f7, f8, f9⟩
              have r8 : ρ 8 = .pointer (some ⟨b10, 0, none⟩) := outD hf 8 rfl
              exact .inl ⟨rfl, L_fieldAddr FA_59_3 r8 ⟨hs, f0, fun _ => rfl, f2, f3, f4, f5, f6, f7, f8, f9⟩⟩
            · rintro D ρ wx hD hd hdc hf ⟨hs, f0, f1, f2, f3, f4, f5, f6, f7, f8, f9⟩
              have g1 := f1 (doneD hd 1 rfl)
              exact .inl ⟨rfl, L_ld (V := .int .u16 ((gd l k).item)) S1_57 hs 3 rfl g1 rfl ⟨hs, f0, f1, fun _ => rfl, f3, f4, f5, f6, f7, f8, f9⟩⟩
            · rintro D ρ wx hD hd hdc hf ⟨hs, f0, f1, f2, f3, f4, f5, f6, f7, f8, f9⟩
              have r6 : ρ 6 = .map (some mr6) := outD hf 6 rfl
              exact .inl ⟨rfl, L_move (V := .map (some mr6)) r6 ⟨hs, f0, f1, f2, fun _ => rfl, f4, f5, f6, f7, f8, f9⟩⟩
            · rintro D ρ wx hD hd hdc hf ⟨hs, f0, f1, f2, f3, f4, f5, f6, f7, f8, f9⟩
              have r8 : ρ 8 = .pointer (some ⟨b10, 0, none⟩) := outD hf 8 rfl
              exact .inl ⟨rfl, L_fieldAddr FA_59_3 r8 ⟨hs, f0, f1, f2, f3, fun _ => rfl, f5, f6, f7, f8, f9⟩⟩
            · rintro D ρ wx hD hd hdc hf ⟨hs, f0, f1, f2, f3, f4, f5, f6, f7, f8, f9⟩
              have g4 := f4 (doneD hd 4 rfl)
              exact .inl ⟨rfl, L_ld (V := .int .u16 ((gd l k).item)) S1_57 hs 3 rfl g4 rfl ⟨hs, f0, f1, f2, f3, f4, fun _ => rfl, f6, f7, f8, f9⟩⟩
            · rintro D ρ wx hD hd hdc hf ⟨hs, f0, f1, f2, f3, f4, f5, f6, f7, f8, f9⟩
              have g3 := f3 (doneD hd 3 rfl)
              have g5 := f5 (doneD hd 5 rfl)
              have d9 : D 9 = false := (notYetD hdc (j := 9) rfl rfl hD)
              have hs0 := hs; rw [d9] at hs0
              exact .inl ⟨rfl, L_lookupV (k := (gd l k).item) (z := tz) UD_92 KO_57 ZV_94 (hs0.mapf 2 rfl) g3 g5 ⟨hs, f0, f1, f2, f3, f4, f5, fun _ => rfl, f7, f8, f9⟩⟩
            · rintro D ρ wx hD hd hdc hf ⟨hs, f0, f1, f2, f3, f4, f5, f6, f7, f8, f9⟩
              have r8 : ρ 8 = .pointer (some ⟨b10, 0, none⟩) := outD hf 8 rfl
              exact .inl ⟨rfl, L_ldW (cs := oc (gd l k)) SA_59 hs 3 rfl r8 rfl ⟨hs, f0, f1, f2, f3, f4, f5, f6, fun _ => rfl, f8, f9⟩⟩
            · rintro D ρ wx hD hd hdc hf ⟨hs, f0, f1, f2, f3, f4, f5, f6, f7, f8, f9⟩
              have g6 := f6 (doneD hd 6 rfl)
              have g7 := f7 (doneD hd 7 rfl)
              exact .inl ⟨rfl, L_callP (vs := [.agg (talc ((mget ((gd l k).item) s.items).getD tz)).toArray, .agg (oc (gd l k)).toArray]) (V := .agg (talc (takeT ((mget ((gd l k).item) s.items).getD tz) (gd l k))).toArray) EN_55 rfl (mapc g6 (mapc g7 rfl)) (fTake_ok _ ((mget ((gd l k).item) s.items).getD tz) (gd l k) (by assumption) (by assumption)) hs fun _ hs0 => ⟨hs0, f0, f1, f2, f3, f4, f5, f6, f7, fun _ => rfl, f9⟩⟩
            · rintro D ρ wx hD hd hdc hf ⟨hs, f0, f1, f2, f3, f4, f5, f6, f7, f8, f9⟩
              have g0 := f0 (doneD hd 0 rfl)
              have g2 := f2 (doneD hd 2 rfl)
              have g8 := f8 (doneD hd 8 rfl)
              have d9 : D 9 = false := hD
              have hs0 := hs; rw [d9] at hs0
              refine .inl ⟨rfl, L_mapSet (k := (gd l k).item) (v := takeT ((mget ((gd l k).item) s.items).getD tz) (gd l k)) UD_92 KO_57 hs0 2 rfl g0 g2 g8 fun _ hs0 => ⟨?_, f0, f1, f2, f3, f4, f5, f6, f7, f8, trivial⟩⟩
              exact hs0
            · rintro ρ1 w1 D hD hf ⟨hs, f0, f1, f2, f3, f4, f5, f6, f7, f8, f9⟩
              rw [hD 9 rfl] at hs
              clear f0 f1 f2 f3 f4 f5 f6 f7 f8 f9
              obtain ⟨ρ2, hρ⟩ : ∃ ρ2, ρ1 = mix [31, 32, 33, 34, 35, 36, 37, 38, 39] ρ2 _ := ⟨ρ1, mix_of (ds := [31, 32, 33, 34, 35, 36, 37, 38, 39]) hf⟩
              clear hf hD
              subst hρ
              refine W_region ?_
              refine RW_op (L_add (a := (k : Int)) (b := 1) (c := (k : Int) + 1) rfl rfl (wr_i64 (by omega) (by omega)) ?_)
              refine RW_op (L_move (V := .int .i64 ((k : Int) + 1)) rfl ?_)
              refine RW_nil ?_
              refine ⟨_, ?_, _, k + 1, (⟨max s.tick ((gd l k).tick), s.out, mput ((gd l k).item) (takeT ((mget ((gd l k).item) s.items).getD tz) (gd l k)) s.items⟩ : VSt), upd_of (mix_of (ds := [8, 17, 18, 19, 20, 21, 22, 23, 24, 25, 26, 27, 28, 29, 30, 31, 32, 33, 34, 35, 36, 37, 38, 39, 40, 41, 42, 43, 44, 45, 46, 47, 48, 49, 50]) (by repeat (first | exact Agr.refl _ _ | refine Agr.upd ?_ rfl | refine Agr.mix ?_ rfl))) rfl, (by omega), (vs_take hs1 (by omega) c13 c16 c17), rfl, hs.take 3⟩
              omega
    ·
      replace c9 := of_decide_eq_false c9
      refine W_exit ?_
      refine W_seq ?_
      refine W_seq ?_
      have hitl : s.items.length ≤ 1000 := by rw [hs1]; exact Nat.le_trans (vst_items k hk) (by omega)
      refine W_region ?_
      refine RW_op (L_move (V := .map (some mr6)) rfl ?_)
      refine RW_op (L_callX (vs := [.map (some mr6)]) (V := fun x : Nat => .func (.func 77) #[] #[.pointer (some ⟨x, 0, none⟩)]) EN_57 rfl rfl (keysT_ok _ mr6) hs fun x22 w23 hs _ => ?_)
      refine RW_op (L_callX (vs := [.func (.func 77) #[] #[.pointer (some ⟨x22, 0, none⟩)]]) (V := fun x : Option Addr × Nat => .slice x.1 (sortI (s.items.map (·.1))).length x.2) (Lo := fun x => [row (.slice x.1 (sortI (s.items.map (·.1))).length x.2) ((sortI (s.items.map (·.1))).map (ic .u16)) 57 1]) (F := fun _ _ => True) EN_56 rfl rfl ?hc hs fun x24 w25 hs hF26 => ?_)
      case hc => exact ((sortedU_ok _ 77 1000000 [.pointer (some ⟨x22, 0, none⟩)] EN_77 (by decide) (fun xs => xs.Perm ((s.items.map (·.1)).map (Value.int .u16))) (givesT (hs.cellsf 3 rfl) (hs.mapf 2 rfl) (by omega)) hsortU).mono fun e w' ⟨y, he, ho, m0, hm0, hy⟩ => by
      have hy2 : y.1 = sortI (s.items.map (·.1)) := by rw [hy]; exact sorted_of hm0
      rw [hy2] at he ho
      exact ⟨(y.2.1, y.2.2), he, ho, trivial⟩)
      refine RW_op (L_lenR (n := (sortI (s.items.map (·.1))).length) UD_72 (hs.rd 4 rfl) (by simp) rfl ?_)
      refine RW_op (L_move (V := .int .i64 0) rfl ?_)
      refine RW_nil ?_
      refine W_block ?_
      replace hs := hs.more (row (.slice none 0 0) (List.map lc []) 67 2) (row_nil _ _ _ _)
      have hksl : (sortI (s.items.map (·.1))).length ≤ 1000 := by rw [sortI_len, List.length_map]; omega
      refine W_loopI (fun ρ m ρ' w' => ∃ (ρo : Env) (i2 : Nat) (a1 : Option Addr) (c1 : Nat) (out : List Line), ρ' = upd (mix [10, 11, 55, 56, 57, 58, 59, 60, 61, 62, 63, 64, 65, 66, 67, 68, 69, 70, 71, 72, 73, 74, 75, 76] ρo ρ) 55 (.int .i64 (i2 : Int)) ∧ (i2 ≤ (sortI (s.items.map (·.1))).length) ∧ (out.length ≤ i2) ∧ (out = ((sortI (s.items.map (·.1))).take i2).map (lineOf s.items)) ∧ m = (sortI (s.items.map (·.1))).length - i2 ∧ Own w no w' [blk b1 [.int .u16 0, .slice none 0 0, .bool false, .int .u32 0] 63, blk b3 [.int .u16 cart, .slice a1 out.length c1, .bool s.out, .int .u32 s.tick] 63, mapR mr6 (Value.int .u16) tv s.items, blk x22 [.map (some mr6)] 92, row (.slice x24.1 ((sortI (s.items.map (·.1))).length) x24.2) ((sortI (s.items.map (·.1))).map (ic .u16)) 57 1, row (.slice a1 out.length c1) (out.map lc) 67 2]) ?_ ?_
      · exact ⟨_, _, 0, none, 0, [], upd_of (mix_of (ds := [10, 11, 55, 56, 57, 58, 59, 60, 61, 62, 63, 64, 65, 66, 67, 68, 69, 70, 71, 72, 73, 74, 75, 76]) (Agr.refl _ _)) rfl, (by omega), (Nat.le_refl _), rfl, rfl, hs⟩
      · rintro m ρ' w27 ⟨ρo, i2, a1, c1, out, rfl, hi2, hol, hout, rfl, hs⟩
        refine W_seq ?_
        refine W_region ?_
        refine RW_op (L_lss rfl rfl ?_)
        refine RW_nil ?_
        refine W_seq ?_
        refine W_cond (t := decide ((i2 : Int) < (((sortI (s.items.map (·.1))).length : Nat) : Int))) rfl (fun c28 => ?_) (fun c28 => ?_)
        ·
          replace c28 := of_decide_eq_true c28
          refine W_skip ?_
          refine W_seq ?_
          refine W_block ?_
          refine W_seq ?_
          refine W_region ?_
          refine RW_op (L_ixR UD_72 S1_57.1 (hs.rd 4 rfl) rfl rfl (by omega) (by rw [List.length_map]; omega) ?_)
          refine RW_op (L_ldR (j := 0) (V := .int .u16 (gd (sortI (s.items.map (·.1))) i2)) i2 S1_57 (hs.rd 4 rfl) (gd_at (by omega)) rfl rfl (by omega) ?_)
          refine RW_op (L_assign (V := .int .u16 (gd (sortI (s.items.map (·.1))) i2)) rfl ?_)
          refine RW_nil ?_
          refine W_seq ?_
          obtain ⟨tt, htt⟩ : ∃ t, (mget (gd (sortI (s.items.map (·.1))) i2) s.items).getD tz = t := ⟨_, rfl⟩
          have ⟨hqa, hqb⟩ : 0 ≤ tt.set.qty ∧ tt.set.qty < 65536 := by rw [← htt, hs1]; exact vst_qty hl k (by omega) _
          refine W_region ?_
          refine RW_op (L_move (V := .map (some mr6)) rfl ?_)
          refine RW_op (L_move (V := .int .u16 (gd (sortI (s.items.map (·.1))) i2)) rfl ?_)
          refine RW_op (opW_to (V := .agg (talc ((mget (gd (sortI (s.items.map (·.1))) i2) s.items).getD tz)).toArray) (V' := .agg (talc tt).toArray) (L_lookupV (k := gd (sortI (s.items.map (·.1))) i2) (z := tz) UD_92 KO_57 ZV_94 (hs.mapf 2 rfl) rfl rfl ⟨rfl, rfl⟩) (by rw [htt]) ?_)
          refine RW_op (L_alloc (cs := talc (⟨0, (⟨(⟨0, 0⟩ : Dot), 0, 0, 0, 0, 0, vzero⟩ : Opn), false⟩ : Tal)) ZV_94 rfl hs fun b29 w30 hs => ?_)
          refine RW_op (L_st (V := .agg (talc tt).toArray) (vs := talc tt) (cs' := talc tt) SA_94.1 hs 6 rfl rfl rfl rfl rfl (Nat.le_of_ble_eq_true rfl) (talc_one _) (spl_whole rfl) fun w31 hs => ?_)
          replace hs : Own w no w31 [blk b1 [.int .u16 0, .slice none 0 0, .bool false, .int .u32 0] 63, blk b3 [.int .u16 cart, .slice a1 out.length c1, .bool s.out, .int .u32 s.tick] 63, mapR mr6 (Value.int .u16) tv s.items, blk x22 [.map (some mr6)] 92, row (.slice x24.1 ((sortI (s.items.map (·.1))).length) x24.2) ((sortI (s.items.map (·.1))).map (ic .u16)) 57 1, row (.slice a1 out.length c1) (out.map lc) 67 2, blk b29 (talc tt) 94] := hs
          refine RW_nil ?_
          refine W_region ?_
          refine RW_op (L_fieldAddr FA_63_1 rfl ?_)
          refine RW_op (L_ld (V := .slice a1 out.length c1) S1_61 hs 1 rfl rfl rfl ?_)
          refine RW_op (L_move (V := .int .u16 (gd (sortI (s.items.map (·.1))) i2)) rfl ?_)
          refine RW_op (L_fieldAddr FA_94_0 rfl ?_)
          refine RW_op (L_ld (V := .int .u32 tt.sum) S1_22 hs 6 rfl rfl rfl ?_)
          refine RW_op (L_fieldAddr FA_94_1 rfl ?_)
          refine RW_op (L_fieldAddr FA_59_4 rfl ?_)
          refine RW_op (L_ld (V := .int .u16 tt.set.qty) S1_57 hs 6 rfl rfl rfl ?_)
          refine RW_op (L_conv UD_57 UD_22 rfl (wr_u32 (by omega) (by omega)) ?_)
          refine RW_op (L_add (a := tt.sum) (b := tt.set.qty) (c := (tt.sum + tt.set.qty) % 4294967296) rfl rfl (wm_u32 _) ?_)
          refine RW_op (L_build (vs := [(0, .int .u16 (gd (sortI (s.items.map (·.1))) i2)), (1, .int .u32 ((tt.sum + tt.set.qty) % 4294967296))]) (cs := lc (⟨gd (sortI (s.items.map (·.1))) i2, (tt.sum + tt.set.qty) % 4294967296⟩ : Line)) BT_67 (rfl) rfl ?_)
          refine RW_op (L_bs (vals := [.agg (lc (⟨gd (sortI (s.items.map (·.1))) i2, (tt.sum + tt.set.qty) % 4294967296⟩ : Line)).toArray]) (ls := List.map lc ([(⟨gd (sortI (s.items.map (·.1))) i2, (tt.sum + tt.set.qty) % 4294967296⟩ : Line)] : List Line)) EL_61 rfl rfl rfl (len_map (enc := lc) (fun _ => rfl) _) (one_map lc_one _) (Nat.le_of_ble_eq_true rfl) hs fun b32 w33 hs => ?_)
          refine RW_op (L_appN (ls' := (out ++ [(⟨gd (sortI (s.items.map (·.1))) i2, (tt.sum + tt.set.qty) % 4294967296⟩ : Line)]).map lc) (n := (out ++ [(⟨gd (sortI (s.items.map (·.1))) i2, (tt.sum + tt.set.qty) % 4294967296⟩ : Line)]).length) EL_61 hs 5 rfl rfl rfl (hs.rd 7 rfl) (one_map lc_one _) (by simp only [List.length_map, List.length_append, List.length_cons, List.length_nil]; omega) (by simp) (by simp) fun a34 c34 w35 hs => ?_)
          refine RW_op (L_fieldAddr FA_63_1 rfl ?_)
          refine RW_op (L_st1 (V := .slice a34 ((out ++ [(⟨gd (sortI (s.items.map (·.1))) i2, (tt.sum + tt.set.qty) % 4294967296⟩ : Line)]).length) c34) (cs' := [.int .u16 cart, .slice a34 ((out ++ [(⟨gd (sortI (s.items.map (·.1))) i2, (tt.sum + tt.set.qty) % 4294967296⟩ : Line)]).length) c34, .bool s.out, .int .u32 s.tick]) S1_61 hs 1 rfl rfl rfl rfl (Nat.le_of_ble_eq_true rfl) rfl fun w36 hs => ?_)
          refine RW_nil ?_
          refine W_region ?_
          refine RW_op (L_add (a := (i2 : Int)) (b := 1) (c := (i2 : Int) + 1) rfl rfl (wr_i64 (by omega) (by omega)) ?_)
          refine RW_op (L_move (V := .int .i64 ((i2 : Int) + 1)) rfl ?_)
          refine RW_nil ?_
          refine ⟨_, ?_, _, i2 + 1, a34, c34, out ++ [(⟨gd (sortI (s.items.map (·.1))) i2, (tt.sum + tt.set.qty) % 4294967296⟩ : Line)], upd_of (mix_of (ds := [10, 11, 55, 56, 57, 58, 59, 60, 61, 62, 63, 64, 65, 66, 67, 68, 69, 70, 71, 72, 73, 74, 75, 76]) (by repeat (first | exact Agr.refl _ _ | refine Agr.upd ?_ rfl | refine Agr.mix ?_ rfl))) rfl, (by omega), (by simp only [List.length_append, List.length_cons, List.length_nil]; omega), (by rw [show (⟨gd (sortI (s.items.map (·.1))) i2, (tt.sum + tt.set.qty) % 4294967296⟩ : Line) = lineOf s.items (gd (sortI (s.items.map (·.1))) i2) by unfold lineOf qtyT; rw [htt]]; exact map_next (f := lineOf s.items) hout (by omega)), rfl, hs.take 6⟩
          omega
        ·
          replace c28 := of_decide_eq_false c28
          refine W_exit ?_
          refine W_seq ?_
          refine W_region ?_
          refine RW_op (L_ldW (cs := [.int .u16 cart, .slice a1 out.length c1, .bool s.out, .int .u32 s.tick]) SA_63 hs 1 rfl rfl rfl ?_)
          refine RW_op (L_st (V := .agg ([.int .u16 cart, .slice a1 out.length c1, .bool s.out, .int .u32 s.tick]).toArray) (vs := [.int .u16 cart, .slice a1 out.length c1, .bool s.out, .int .u32 s.tick]) (cs' := [.int .u16 cart, .slice a1 out.length c1, .bool s.out, .int .u32 s.tick]) SA_63.1 hs 0 rfl rfl rfl rfl rfl (Nat.le_of_ble_eq_true rfl) (one_cons rfl (one_cons rfl (one_cons rfl (one_cons rfl one_nil)))) (spl_whole rfl) fun w37 hs => ?_)
          refine RW_nil ?_
          refine W_ret ?_
          refine ⟨_, res_cell (cs := [.int .u16 cart, .slice a1 out.length c1, .bool s.out, .int .u32 s.tick]) Try.results34 SA_63 hs 0 rfl rfl rfl, ?_⟩
          have hV : viewP l cart = ⟨cart, out, s.out, s.tick⟩ := by
            have hk9 : k = l.length := by omega
            unfold viewP; dsimp only; rw [← hk9, ← hs1, hout, take_all (by omega)]
          rw [hV]
          exact ⟨(a1, c1), rfl, hs.only 5 rfl, trivial⟩
end Tf
end Go.Proofs
namespace Go.Proofs
open Go Go.Vx Go.RowKit
open Tt
namespace Tf
theorem SA_67 : TA Try.prog 67 2 := ⟨Try.sizeOf67, Try.isAgg67⟩
set_option maxRecDepth 20000 in
theorem EQ_67 (a b : Line) : EqF Try.prog 2 67 (.agg (lc a).toArray) (.agg (lc b).toArray) (decide (a = b)) := by
  rw [← dec_line]
  exact EqF_struct (D := 1) Try.underlying67 Try.stoodInHeld67 (.cons (by decide) (PartF_one ⟨Try.sizeOf57, Try.isAgg57⟩ rfl) (PartF_one ⟨Try.sizeOf57, Try.isAgg57⟩ rfl) ((EqF_int Try.runUnderlying57).up (by decide)) (.cons (by decide) (PartF_one ⟨Try.sizeOf22, Try.isAgg22⟩ rfl) (PartF_one ⟨Try.sizeOf22, Try.isAgg22⟩ rfl) ((EqF_int Try.runUnderlying22).up (by decide)) .nil))
theorem EN_34 : En Try.prog 34 := Try.call34
theorem UD_61 : Ud Try.prog 61 (.slice 67) := Try.runUnderlying61
theorem fViewE_ok (w : World) (a : Option Addr) (c : Nat) (l : List Opn) (cart : Int) (V : Vw) (hV : viewP l cart = V) (hl : ∀ o ∈ l, OpnOk o) (hlen : l.length ≤ 1000) (hr : Rd w (.slice a l.length c) 23 (l.map oc)) (hsortU : SortI Try.prog 76 .u16 57) : Calls Try.prog 34 #[.slice a l.length c, .int .u16 cart] w (fun e w' => ∃ x : Option Addr × Nat, e = .returned (.agg [.int .u16 (V).cart, .slice x.1 (V).lines.length x.2, .bool (V).out, .int .u32 (V).tick].toArray) ∧ Own w no w' [row (.slice x.1 (V).lines.length x.2) ((V).lines.map lc) 67 2] ∧ True) := by
  subst hV; exact fView_ok w a c l cart hl hlen hr hsortU
end Tf
end Go.Proofs
namespace Go.Proofs
open Go Go.Vx Go.RowKit
open Tt
namespace Tf
set_option maxRecDepth 20000 in
theorem BT_59 : Bt Try.prog 59 [(0, 2), (2, 1), (3, 1), (4, 1), (5, 1), (6, 1), (7, 16)] (oc (⟨(⟨0, 0⟩ : Dot), 0, 0, 0, 0, 0, vzero⟩ : Opn)) := Bt_struct Try.type59 rfl rfl Try.underlying59 (by kernel_rfl)
theorem EN_37 : En Try.prog 37 := Try.call37
theorem EN_53 : En Try.prog 53 := Try.call53
theorem FA_67_1 : FA Try.prog 67 1 1 := fun b o w => by simp [Instr.fieldAt, Instr.sureAddr, fieldPlace, add_eq]
theorem UD_90 : Ud Try.prog 90 (.slice 4) := Try.runUnderlying90
theorem alive_all {o : Opn} (h : o = aliveA ∨ o = aliveB ∨ o = aliveC) : OpnOk o := by
  obtain ⟨h1, h2, h3⟩ := alive_ok
  rcases h with rfl | rfl | rfl <;> assumption
set_option maxRecDepth 20000 in
set_option maxHeartbeats 4000000 in
theorem alive7_ok (w : World) (hsortU : SortI Try.prog 76 .u16 57) : Calls Try.prog 32 #[] w (fun e w' => e = .returned (.bool true) ∧ Own w no w' []) := by
  refine calls_of_Wn (n := 80) Try.func32 rfl Try.ntmps32 rfl ?_
  have hs := Own.start w
  have ⟨hoA, hoB, hoC⟩ := alive_ok
  refine W_seq ?_
  refine W_region ?_
  refine RW_op (L_assign (V := .bool false) rfl ?_)
  refine RW_nil ?_
  refine W_seq ?_
  refine W_region ?_
  refine RW_op (L_build (vs := [(1, .int .u32 1)]) (cs := dc (⟨0, 1⟩ : Dot)) BT_34 (rfl) rfl ?_)
  refine RW_op (opW_to (V := .agg (oc (⟨(⟨0, 1⟩ : Dot), 1, 3, 4, 2, 5, vzero⟩ : Opn)).toArray) (V' := .agg (oc aliveA).toArray) (L_build (vs := [(0, .agg (dc (⟨0, 1⟩ : Dot)).toArray), (1, .int .u8 1), (2, .int .u16 3), (3, .int .u16 4), (4, .int .u16 2), (5, .int .u32 5)]) (cs := oc (⟨(⟨0, 1⟩ : Dot), 1, 3, 4, 2, 5, vzero⟩ : Opn)) BT_59 (rfl) rfl ⟨rfl, rfl⟩) rfl ?_)
  refine RW_op (L_alloc (cs := oc (⟨(⟨0, 0⟩ : Dot), 0, 0, 0, 0, 0, vzero⟩ : Opn)) ZV_59 rfl hs fun b1 w2 hs => ?_)
  refine RW_op (L_st (V := .agg (oc aliveA).toArray) (vs := oc aliveA) (cs' := oc aliveA) SA_59.1 hs 0 rfl rfl rfl rfl rfl (Nat.le_of_ble_eq_true rfl) (oc_one _) (spl_whole rfl) fun w3 hs => ?_)
  refine RW_nil ?_
  refine W_seq ?_
  refine W_region ?_
  refine RW_op (L_build (vs := [(0, .int .u8 1), (1, .int .u32 1)]) (cs := dc (⟨1, 1⟩ : Dot)) BT_34 (rfl) rfl ?_)
  refine RW_op (opW_to (V := .agg (oc (⟨(⟨1, 1⟩ : Dot), 1, 3, 4, 3, 9, vzero⟩ : Opn)).toArray) (V' := .agg (oc aliveB).toArray) (L_build (vs := [(0, .agg (dc (⟨1, 1⟩ : Dot)).toArray), (1, .int .u8 1), (2, .int .u16 3), (3, .int .u16 4), (4, .int .u16 3), (5, .int .u32 9)]) (cs := oc (⟨(⟨1, 1⟩ : Dot), 1, 3, 4, 3, 9, vzero⟩ : Opn)) BT_59 (rfl) rfl ⟨rfl, rfl⟩) rfl ?_)
  refine RW_op (L_alloc (cs := oc (⟨(⟨0, 0⟩ : Dot), 0, 0, 0, 0, 0, vzero⟩ : Opn)) ZV_59 rfl hs fun b4 w5 hs => ?_)
  replace hs : Own w no w5 [blk b1 (oc aliveA) 59, blk b4 (oc (⟨(⟨0, 0⟩ : Dot), 0, 0, 0, 0, 0, vzero⟩ : Opn)) 59] := hs
  refine RW_op (L_st (V := .agg (oc aliveB).toArray) (vs := oc aliveB) (cs' := oc aliveB) SA_59.1 hs 1 rfl rfl rfl rfl rfl (Nat.le_of_ble_eq_true rfl) (oc_one _) (spl_whole rfl) fun w6 hs => ?_)
  refine RW_nil ?_
  refine W_seq ?_
  refine W_region ?_
  refine RW_op (L_build (vs := [(0, .int .u8 2), (1, .int .u32 1)]) (cs := dc (⟨2, 1⟩ : Dot)) BT_34 (rfl) rfl ?_)
  refine RW_op (L_build (vs := [(0, .int .u32 1)]) (cs := vc (vset vzero 0 1)) BT_24 (rfl) rfl ?_)
  refine RW_op (opW_to (V := .agg (oc (⟨(⟨2, 1⟩ : Dot), 2, 3, 4, 1, 7, vset vzero 0 1⟩ : Opn)).toArray) (V' := .agg (oc aliveC).toArray) (L_build (vs := [(0, .agg (dc (⟨2, 1⟩ : Dot)).toArray), (1, .int .u8 2), (2, .int .u16 3), (3, .int .u16 4), (4, .int .u16 1), (5, .int .u32 7), (6, .agg (vc (vset vzero 0 1)).toArray)]) (cs := oc (⟨(⟨2, 1⟩ : Dot), 2, 3, 4, 1, 7, vset vzero 0 1⟩ : Opn)) BT_59 (rfl) rfl ⟨rfl, rfl⟩) rfl ?_)
  refine RW_op (L_alloc (cs := oc (⟨(⟨0, 0⟩ : Dot), 0, 0, 0, 0, 0, vzero⟩ : Opn)) ZV_59 rfl hs fun b7 w8 hs => ?_)
  refine RW_op (L_st (V := .agg (oc aliveC).toArray) (vs := oc aliveC) (cs' := oc aliveC) SA_59.1 hs 2 rfl rfl rfl rfl rfl (Nat.le_of_ble_eq_true rfl) (oc_one _) (spl_whole rfl) fun w9 hs => ?_)
  replace hs : Own w no w9 [blk b1 (oc aliveA) 59, blk b4 (oc aliveB) 59, blk b7 (oc aliveC) 59] := hs
  refine RW_nil ?_
  refine W_seq ?_
  refine W_region ?_
  refine RW_op (L_ldW (cs := oc aliveA) SA_59 hs 0 rfl rfl rfl ?_)
  refine RW_op (L_ldW (cs := oc aliveB) SA_59 hs 1 rfl rfl rfl ?_)
  refine RW_op (L_bs (vals := [.agg (oc aliveA).toArray, .agg (oc aliveB).toArray]) (ls := List.map oc ([aliveA, aliveB] : List Opn)) EL_56 rfl rfl rfl (len_map (enc := oc) (fun _ => rfl) _) (one_map oc_one _) (Nat.le_of_ble_eq_true rfl) hs fun b10 w11 hs => ?_)
  refine RW_op (L_callX (α := Option Addr × Nat) (vs := [.slice (some ⟨b10, 0, none⟩) 2 2, .int .u16 3]) (V := fun x => .agg ([.int .u16 (((⟨3, [⟨4, 5⟩], false, 9⟩ : Vw)).cart), .slice x.1 ([(⟨4, 5⟩ : Line)].length) x.2, .bool false, .int .u32 9]).toArray) (Lo := fun x => [row (.slice x.1 [(⟨4, 5⟩ : Line)].length x.2) ([(⟨4, 5⟩ : Line)].map lc) 67 2]) (F := fun _ _ => True) EN_34 rfl rfl ?hc hs fun x13 w12 hs _ => ?_)
  case hc => exact (fViewE_ok _ (some ⟨b10, 0, none⟩) 2 [aliveA, aliveB] 3 (⟨3, [⟨4, 5⟩], false, 9⟩ : Vw) (aliveV1) (fun o ho => alive_all (by simp only [List.mem_cons, List.not_mem_nil, or_false] at ho; grind)) (by decide) (hs.rd 3 rfl) hsortU)
  refine RW_op (L_alloc (cs := [.int .u16 0, .slice none 0 0, .bool false, .int .u32 0]) ZV_63 rfl hs fun b14 w15 hs => ?_)
  replace hs : Own w no w15 [blk b1 (oc aliveA) 59, blk b4 (oc aliveB) 59, blk b7 (oc aliveC) 59, row (.slice (some ⟨b10, 0, none⟩) 2 2) ([aliveA, aliveB].map oc) 59 23, row (.slice x13.1 ([(⟨4, 5⟩ : Line)].length) x13.2) ([(⟨4, 5⟩ : Line)].map lc) 67 2, blk b14 [.int .u16 0, .slice none 0 0, .bool false, .int .u32 0] 63] := hs
  refine RW_op (L_st (V := .agg ([.int .u16 (((⟨3, [⟨4, 5⟩], false, 9⟩ : Vw)).cart), .slice x13.1 ([(⟨4, 5⟩ : Line)].length) x13.2, .bool false, .int .u32 9]).toArray) (vs := [.int .u16 (((⟨3, [⟨4, 5⟩], false, 9⟩ : Vw)).cart), .slice x13.1 ([(⟨4, 5⟩ : Line)].length) x13.2, .bool false, .int .u32 9]) (cs' := [.int .u16 (((⟨3, [⟨4, 5⟩], false, 9⟩ : Vw)).cart), .slice x13.1 ([(⟨4, 5⟩ : Line)].length) x13.2, .bool false, .int .u32 9]) SA_63.1 hs 5 rfl rfl rfl rfl rfl (Nat.le_of_ble_eq_true rfl) (one_cons rfl (one_cons rfl (one_cons rfl (one_cons rfl one_nil)))) (spl_whole rfl) fun w16 hs => ?_)
  refine RW_nil ?_
  refine W_seq ?_
  refine W_region ?_
  refine RW_op (L_ldW (cs := oc aliveA) SA_59 hs 0 rfl rfl rfl ?_)
  refine RW_op (L_ldW (cs := oc aliveB) SA_59 hs 1 rfl rfl rfl ?_)
  refine RW_op (L_ldW (cs := oc aliveC) SA_59 hs 2 rfl rfl rfl ?_)
  refine RW_op (L_bs (vals := [.agg (oc aliveA).toArray, .agg (oc aliveB).toArray, .agg (oc aliveC).toArray]) (ls := List.map oc ([aliveA, aliveB, aliveC] : List Opn)) EL_56 rfl rfl rfl (len_map (enc := oc) (fun _ => rfl) _) (one_map oc_one _) (Nat.le_of_ble_eq_true rfl) hs fun b17 w18 hs => ?_)
  refine RW_op (L_callX (α := Option Addr × Nat) (vs := [.slice (some ⟨b17, 0, none⟩) 3 3, .int .u16 3]) (V := fun x => .agg ([.int .u16 (((⟨3, [⟨4, 4⟩], false, 9⟩ : Vw)).cart), .slice x.1 ([(⟨4, 4⟩ : Line)].length) x.2, .bool false, .int .u32 9]).toArray) (Lo := fun x => [row (.slice x.1 [(⟨4, 4⟩ : Line)].length x.2) ([(⟨4, 4⟩ : Line)].map lc) 67 2]) (F := fun _ _ => True) EN_34 rfl rfl ?hc hs fun x20 w19 hs _ => ?_)
  case hc => exact (fViewE_ok _ (some ⟨b17, 0, none⟩) 3 [aliveA, aliveB, aliveC] 3 (⟨3, [⟨4, 4⟩], false, 9⟩ : Vw) (aliveV2) (fun o ho => alive_all (by simp only [List.mem_cons, List.not_mem_nil, or_false] at ho; grind)) (by decide) (hs.rd 6 rfl) hsortU)
  replace hs : Own w no w19 [blk b1 (oc aliveA) 59, blk b4 (oc aliveB) 59, blk b7 (oc aliveC) 59, row (.slice (some ⟨b10, 0, none⟩) 2 2) ([aliveA, aliveB].map oc) 59 23, row (.slice x13.1 ([(⟨4, 5⟩ : Line)].length) x13.2) ([(⟨4, 5⟩ : Line)].map lc) 67 2, blk b14 [.int .u16 (((⟨3, [⟨4, 5⟩], false, 9⟩ : Vw)).cart), .slice x13.1 ([(⟨4, 5⟩ : Line)].length) x13.2, .bool false, .int .u32 9] 63, row (.slice (some ⟨b17, 0, none⟩) 3 3) ([aliveA, aliveB, aliveC].map oc) 59 23, row (.slice x20.1 ([(⟨4, 4⟩ : Line)].length) x20.2) ([(⟨4, 4⟩ : Line)].map lc) 67 2] := hs
  refine RW_op (L_alloc (cs := [.int .u16 0, .slice none 0 0, .bool false, .int .u32 0]) ZV_63 rfl hs fun b21 w22 hs => ?_)
  refine RW_op (L_st (V := .agg ([.int .u16 (((⟨3, [⟨4, 4⟩], false, 9⟩ : Vw)).cart), .slice x20.1 ([(⟨4, 4⟩ : Line)].length) x20.2, .bool false, .int .u32 9]).toArray) (vs := [.int .u16 (((⟨3, [⟨4, 4⟩], false, 9⟩ : Vw)).cart), .slice x20.1 ([(⟨4, 4⟩ : Line)].length) x20.2, .bool false, .int .u32 9]) (cs' := [.int .u16 (((⟨3, [⟨4, 4⟩], false, 9⟩ : Vw)).cart), .slice x20.1 ([(⟨4, 4⟩ : Line)].length) x20.2, .bool false, .int .u32 9]) SA_63.1 hs 8 rfl rfl rfl rfl rfl (Nat.le_of_ble_eq_true rfl) (one_cons rfl (one_cons rfl (one_cons rfl (one_cons rfl one_nil)))) (spl_whole rfl) fun w23 hs => ?_)
  refine RW_nil ?_
  refine W_seq ?_
  refine W_region ?_
  refine RW_op (L_fieldAddr FA_63_1 rfl ?_)
  refine RW_op (L_ld (V := .slice x13.1 ([(⟨4, 5⟩ : Line)].length) x13.2) S1_61 hs 5 rfl rfl rfl ?_)
  refine RW_op (L_lenR (n := [(⟨4, 5⟩ : Line)].length) UD_61 (hs.rd 4 rfl) (by simp) rfl ?_)
  refine RW_op (opW_to (V := .bool (decide ((([(⟨4, 5⟩ : Line)].length : Nat) : Int) = 1))) (V' := .bool true) (L_eql rfl rfl ⟨rfl, rfl⟩) (congrArg Value.bool (by decide)) ?_)
  refine RW_op (L_move (V := .bool true) rfl ?_)
  refine RW_gy rfl (L_fieldAddr FA_63_1 rfl ?_)
  refine RW_gy rfl (L_ld (V := .slice x13.1 ([(⟨4, 5⟩ : Line)].length) x13.2) S1_61 hs 5 rfl rfl rfl ?_)
  refine RW_gy rfl (L_ixR UD_61 SA_67.1 (hs.rd 4 rfl) rfl rfl (by decide) (by simp only [List.length_map, List.length_cons, List.length_nil]; omega) ?_)
  refine RW_gy rfl (L_ldRA (j := 0) (vs := lc (gd [(⟨4, 5⟩ : Line)] 0)) 0 SA_67 (hs.rd 4 rfl) (gd_at (by simp only [List.length_cons, List.length_nil]; omega)) rfl rfl rfl (by omega) ?_)
  refine RW_gy rfl (L_build (vs := [(0, .int .u16 4), (1, .int .u32 5)]) (cs := lc (⟨4, 5⟩ : Line)) BT_67 (rfl) rfl ?_)
  refine RW_gy rfl (opW_to (V := .bool (decide (gd [(⟨4, 5⟩ : Line)] 0 = (⟨4, 5⟩ : Line)))) (V' := .bool true) (L_eqA (xs := lc (gd [(⟨4, 5⟩ : Line)] 0)) (ys := lc (⟨4, 5⟩ : Line)) Try.eqGuardType67 (EQ_67 (gd [(⟨4, 5⟩ : Line)] 0) (⟨4, 5⟩ : Line)) rfl rfl rfl ⟨rfl, rfl⟩) (congrArg Value.bool (by decide)) ?_)
  refine RW_op (L_pick (V := .bool true) rfl rfl ?_)
  refine RW_op (L_move (V := .bool true) rfl ?_)
  refine RW_gy rfl (L_fieldAddr FA_63_3 rfl ?_)
  refine RW_gy rfl (L_ld (V := .int .u32 9) S1_22 hs 5 rfl rfl rfl ?_)
  refine RW_gy rfl (opW_to (V := .bool (decide ((9 : Int) = 9))) (V' := .bool true) (L_eql rfl rfl ⟨rfl, rfl⟩) (congrArg Value.bool (by decide)) ?_)
  refine RW_op (L_pick (V := .bool true) rfl rfl ?_)
  refine RW_op (L_move (V := .bool true) rfl ?_)
  refine RW_gy rfl (L_fieldAddr FA_63_1 rfl ?_)
  refine RW_gy rfl (L_ld (V := .slice x20.1 ([(⟨4, 4⟩ : Line)].length) x20.2) S1_61 hs 8 rfl rfl rfl ?_)
  refine RW_gy rfl (L_lenR (n := [(⟨4, 4⟩ : Line)].length) UD_61 (hs.rd 7 rfl) (by simp) rfl ?_)
  refine RW_gy rfl (opW_to (V := .bool (decide ((([(⟨4, 4⟩ : Line)].length : Nat) : Int) = 1))) (V' := .bool true) (L_eql rfl rfl ⟨rfl, rfl⟩) (congrArg Value.bool (by decide)) ?_)
  refine RW_op (L_pick (V := .bool true) rfl rfl ?_)
  refine RW_op (L_move (V := .bool true) rfl ?_)
  refine RW_gy rfl (L_fieldAddr FA_63_1 rfl ?_)
  refine RW_gy rfl (L_ld (V := .slice x20.1 ([(⟨4, 4⟩ : Line)].length) x20.2) S1_61 hs 8 rfl rfl rfl ?_)
  refine RW_gy rfl (L_ixR UD_61 SA_67.1 (hs.rd 7 rfl) rfl rfl (by decide) (by simp only [List.length_map, List.length_cons, List.length_nil]; omega) ?_)
  refine RW_gy rfl (L_fieldAddr FA_67_1 rfl ?_)
  refine RW_gy rfl (L_ldR (j := 1) (V := .int .u32 ((gd [(⟨4, 4⟩ : Line)] 0).qty)) 0 S1_22 (hs.rd 7 rfl) (gd_at (by simp only [List.length_cons, List.length_nil]; omega)) rfl rfl (by omega) ?_)
  refine RW_gy rfl (opW_to (V := .bool (decide ((gd [(⟨4, 4⟩ : Line)] 0).qty = 4))) (V' := .bool true) (L_eql rfl rfl ⟨rfl, rfl⟩) (congrArg Value.bool (by decide)) ?_)
  refine RW_op (L_pick (V := .bool true) rfl rfl ?_)
  refine RW_op (L_move (V := .bool true) rfl ?_)
  refine RW_gy rfl (L_ldW (cs := oc aliveA) SA_59 hs 0 rfl rfl rfl ?_)
  refine RW_gy rfl (L_bs (vals := [.agg (oc aliveA).toArray]) (ls := List.map oc ([aliveA] : List Opn)) EL_56 rfl rfl rfl (len_map (enc := oc) (fun _ => rfl) _) (one_map oc_one _) (Nat.le_of_ble_eq_true rfl) hs fun b24 w25 hs => ?_)
  replace hs : Own w no w25 [blk b1 (oc aliveA) 59, blk b4 (oc aliveB) 59, blk b7 (oc aliveC) 59, row (.slice (some ⟨b10, 0, none⟩) 2 2) ([aliveA, aliveB].map oc) 59 23, row (.slice x13.1 ([(⟨4, 5⟩ : Line)].length) x13.2) ([(⟨4, 5⟩ : Line)].map lc) 67 2, blk b14 [.int .u16 (((⟨3, [⟨4, 5⟩], false, 9⟩ : Vw)).cart), .slice x13.1 ([(⟨4, 5⟩ : Line)].length) x13.2, .bool false, .int .u32 9] 63, row (.slice (some ⟨b17, 0, none⟩) 3 3) ([aliveA, aliveB, aliveC].map oc) 59 23, row (.slice x20.1 ([(⟨4, 4⟩ : Line)].length) x20.2) ([(⟨4, 4⟩ : Line)].map lc) 67 2, blk b21 [.int .u16 (((⟨3, [⟨4, 4⟩], false, 9⟩ : Vw)).cart), .slice x20.1 ([(⟨4, 4⟩ : Line)].length) x20.2, .bool false, .int .u32 9] 63, row (.slice (some ⟨b24, 0, none⟩) 1 1) ([aliveA].map oc) 59 23] := hs
  refine RW_gy rfl (L_callX (α := Option Addr × Nat) (vs := [.slice (some ⟨b24, 0, none⟩) 1 1, .int .u16 2]) (V := fun x => .agg ([.int .u16 (((⟨2, [], false, 0⟩ : Vw)).cart), .slice x.1 (([] : List Line).length) x.2, .bool false, .int .u32 0]).toArray) (Lo := fun x => [row (.slice x.1 ([] : List Line).length x.2) (([] : List Line).map lc) 67 2]) (F := fun _ _ => True) EN_34 rfl rfl ?hc hs fun x27 w26 hs _ => ?_)
  case hc => exact (fViewE_ok _ (some ⟨b24, 0, none⟩) 1 [aliveA] 2 (⟨2, [], false, 0⟩ : Vw) (aliveV3) (fun o ho => alive_all (by simp only [List.mem_cons, List.not_mem_nil, or_false] at ho; grind)) (by decide) (hs.rd 9 rfl) hsortU)
  refine RW_gy rfl (L_fieldV (V := .bool false) (fun w => by simp [Instr.field, part, asAgg]) rfl ?_)
  refine RW_gy rfl (L_not rfl ?_)
  refine RW_op (L_pick (V := .bool true) rfl rfl ?_)
  refine RW_op (L_move (V := .bool true) rfl ?_)
  refine RW_gy rfl (L_ldW (cs := oc aliveC) SA_59 hs 2 rfl rfl rfl ?_)
  refine RW_gy rfl (L_ldW (cs := oc aliveA) SA_59 hs 0 rfl rfl rfl ?_)
  refine RW_gy rfl (L_bs (vals := [.agg (oc aliveC).toArray, .agg (oc aliveA).toArray]) (ls := List.map oc ([aliveC, aliveA] : List Opn)) EL_56 rfl rfl rfl (len_map (enc := oc) (fun _ => rfl) _) (one_map oc_one _) (Nat.le_of_ble_eq_true rfl) hs fun b28 w29 hs => ?_)
  refine RW_gy rfl (L_callPV (V' := .bool true) (congrArg Value.bool (aliveC1)) (vs := [.slice (some ⟨b28, 0, none⟩) 2 2]) (V := .bool (closedP [aliveC, aliveA])) EN_37 rfl rfl ?hc hs fun w30 hs => ?_)
  case hc => exact (fClosed_ok _ (some ⟨b28, 0, none⟩) 2 [aliveC, aliveA] (fun o ho => alive_all (by simp only [List.mem_cons, List.not_mem_nil, or_false] at ho; grind)) (by decide) (hs.rd 11 rfl))
  refine RW_op (L_pick (V := .bool true) rfl rfl ?_)
  refine RW_op (L_move (V := .bool true) rfl ?_)
  refine RW_gy rfl (L_ldW (cs := oc aliveC) SA_59 hs 2 rfl rfl rfl ?_)
  refine RW_gy rfl (L_bs (vals := [.agg (oc aliveC).toArray]) (ls := List.map oc ([aliveC] : List Opn)) EL_56 rfl rfl rfl (len_map (enc := oc) (fun _ => rfl) _) (one_map oc_one _) (Nat.le_of_ble_eq_true rfl) hs fun b31 w32 hs => ?_)
  replace hs : Own w no w32 [blk b1 (oc aliveA) 59, blk b4 (oc aliveB) 59, blk b7 (oc aliveC) 59, row (.slice (some ⟨b10, 0, none⟩) 2 2) ([aliveA, aliveB].map oc) 59 23, row (.slice x13.1 ([(⟨4, 5⟩ : Line)].length) x13.2) ([(⟨4, 5⟩ : Line)].map lc) 67 2, blk b14 [.int .u16 (((⟨3, [⟨4, 5⟩], false, 9⟩ : Vw)).cart), .slice x13.1 ([(⟨4, 5⟩ : Line)].length) x13.2, .bool false, .int .u32 9] 63, row (.slice (some ⟨b17, 0, none⟩) 3 3) ([aliveA, aliveB, aliveC].map oc) 59 23, row (.slice x20.1 ([(⟨4, 4⟩ : Line)].length) x20.2) ([(⟨4, 4⟩ : Line)].map lc) 67 2, blk b21 [.int .u16 (((⟨3, [⟨4, 4⟩], false, 9⟩ : Vw)).cart), .slice x20.1 ([(⟨4, 4⟩ : Line)].length) x20.2, .bool false, .int .u32 9] 63, row (.slice (some ⟨b24, 0, none⟩) 1 1) ([aliveA].map oc) 59 23, row (.slice x27.1 (([] : List Line).length) x27.2) (([] : List Line).map lc) 67 2, row (.slice (some ⟨b28, 0, none⟩) 2 2) ([aliveC, aliveA].map oc) 59 23, row (.slice (some ⟨b31, 0, none⟩) 1 1) ([aliveC].map oc) 59 23] := hs
  refine RW_gy rfl (L_callPV (V' := .bool false) (congrArg Value.bool aliveC2) (vs := [.slice (some ⟨b31, 0, none⟩) 1 1]) (V := .bool (closedP [aliveC])) EN_37 rfl rfl ?hc hs fun w33 hs => ?_)
  case hc => exact (fClosed_ok _ (some ⟨b31, 0, none⟩) 1 [aliveC] (fun o ho => alive_all (by simp only [List.mem_cons, List.not_mem_nil, or_false] at ho; grind)) (by decide) (hs.rd 12 rfl))
  refine RW_gy rfl (L_not rfl ?_)
  refine RW_op (L_pick (V := .bool true) rfl rfl ?_)
  refine RW_op (L_move (V := .bool true) rfl ?_)
  refine RW_gy rfl (L_ldW (cs := oc aliveA) SA_59 hs 0 rfl rfl rfl ?_)
  refine RW_gy rfl (L_ldW (cs := oc aliveC) SA_59 hs 2 rfl rfl rfl ?_)
  refine RW_gy rfl (L_bs (vals := [.agg (oc aliveA).toArray, .agg (oc aliveC).toArray]) (ls := List.map oc ([aliveA, aliveC] : List Opn)) EL_56 rfl rfl rfl (len_map (enc := oc) (fun _ => rfl) _) (one_map oc_one _) (Nat.le_of_ble_eq_true rfl) hs fun b34 w35 hs => ?_)
  refine RW_gy rfl (L_callX (vs := [.slice (some ⟨b34, 0, none⟩) 2 2]) EN_53 rfl rfl (fLives_ok _ (some ⟨b34, 0, none⟩) 2 [aliveA, aliveC] (fun o ho => alive_all (by simp only [List.mem_cons, List.not_mem_nil, or_false] at ho; grind)) (by decide) (hs.rd 13 rfl) ) hs fun x37 w36 hs _ => ?_)
  refine RW_gy rfl (L_lenR (n := ([aliveA, aliveC].map (liveB [aliveA, aliveC])).length) UD_90 (hs.rd 14 rfl) (by simp) rfl ?_)
  refine RW_gy rfl (opW_to (V := .bool (decide (((([aliveA, aliveC].map (liveB [aliveA, aliveC])).length : Nat) : Int) = 2))) (V' := .bool true) (L_eql rfl rfl ⟨rfl, rfl⟩) (congrArg Value.bool (by decide)) ?_)
  refine RW_op (L_pick (V := .bool true) rfl rfl ?_)
  refine RW_op (L_assign (V := .bool true) rfl ?_)
  refine RW_nil ?_
  refine W_ret ?_
  refine ⟨_, res_one (V := .bool true) Try.results32 rfl, ?_⟩
  refine ⟨congrArg Ending.returned ?_, hs.take 0⟩
  rfl
end Tf
end Go.Proofs
namespace Go.Proofs
open Go Go.Vx Go.RowKit
open Tt
namespace Tf
theorem EN_32 : En Try.prog 32 := Try.call32
end Tf
end Go.Proofs
namespace Go.Proofs
open Go Go.Vx Go.RowKit
open Tt
namespace Tf
theorem FA_67_0 : FA Try.prog 67 0 0 := fun b o w => by simp [Instr.fieldAt, Instr.sureAddr, fieldPlace, add_eq]
theorem UDR_61 : Try.prog.underlying 61 = some (.slice 67) := Try.underlying61
theorem ZV_67 : Zv Try.prog 67 (.agg (lc (⟨0, 0⟩ : Line)).toArray) := Try.zeroValue67
set_option maxRecDepth 20000 in
set_option maxHeartbeats 4000000 in
theorem foldAdds_ok (w : World) (a : Option Addr) (c : Nat) (l : List Opn) (hl : ∀ o ∈ l, OpnOk o) (hr : Rd w (.slice a l.length c) 23 (l.map oc)) (hsortU : SortI Try.prog 76 .u16 57) (o : Opn) (hO : OpnOk o) : Calls Try.prog 10 #[.slice a l.length c, .agg (oc o).toArray] w (fun e w' => e = .returned (.bool true) ∧ Own w no w' []) := by
  refine calls_of_Wn (n := 132) Try.func10 rfl Try.ntmps10 rfl ?_
  have hs := Own.start w
  have hn := hr.sml
  have ⟨hdo, _, _, _, ⟨hq1, hq2⟩, _, hctx⟩ := hO
  refine W_seq ?_
  refine W_region ?_
  refine RW_op (L_box (V := .agg (oc o).toArray) (cs := oc o) rfl rfl hs fun b1 w2 hs => ?_)
  refine RW_op (L_assign (V := .bool false) rfl ?_)
  refine RW_nil ?_
  refine W_seq ?_
  refine W_seq ?_
  refine W_region ?_
  refine RW_op (L_callP (vs := []) (V := .bool true) EN_32 rfl rfl ?hc hs fun w3 hs => ?_)
  case hc => exact (alive7_ok _ hsortU)
  refine RW_op (L_not rfl ?_)
  refine RW_nil ?_
  refine W_condF rfl ?_
  refine W_skip ?_
  refine W_seq ?_
  refine W_seq ?_
  refine W_inv2 [18, 19, 20, 21, 22, 23, 24, 25] [[], [0], [1], [2], [3], [4, 3], [5, 3], [3, 6]] (fun D ρ wx => Own w no wx [blk b1 (oc o) 59] ∧ (D 0 = true → ρ 18 = .slice a l.length c) ∧ (D 1 = true → ρ 19 = .int .i64 ((l.length : Nat) : Int)) ∧ (D 2 = true → ρ 20 = .bool (decide (40 < ((l.length : Nat) : Int)))) ∧ (D 3 = true → ρ 21 = .bool (decide (40 < ((l.length : Nat) : Int)))) ∧ (D 4 = true → ρ 22 = cond ((decide (40 < ((l.length : Nat) : Int))) == false) (.pointer (some ⟨b1, 0 + 2, none⟩)) undef) ∧ (D 5 = true → ρ 23 = cond ((decide (40 < ((l.length : Nat) : Int))) == false) (.int .u8 o.kind) undef) ∧ (D 6 = true → ρ 24 = cond ((decide (40 < ((l.length : Nat) : Int))) == false) (.bool (!decide (o.kind = 1))) undef) ∧ (D 7 = true → ρ 25 = .bool ((decide (40 < ((l.length : Nat) : Int))) || (!decide (o.kind = 1))))) rfl rfl rfl ⟨hs, fun h => absurd h Bool.false_ne_true, fun h => absurd h Bool.false_ne_true, fun h => absurd h Bool.false_ne_true, fun h => absurd h Bool.false_ne_true, fun h => absurd h Bool.false_ne_true, fun h => absurd h Bool.false_ne_true, fun h => absurd h Bool.false_ne_true, fun h => absurd h Bool.false_ne_true⟩ ⟨?_, ?_, ?_, ?_, ?_, ?_, ?_, ?_, trivial⟩ ?_
  · rintro D ρ wx hD hd hdc hf ⟨hs, f0, f1, f2, f3, f4, f5, f6, f7⟩
    have r0 : ρ 0 = .slice a l.length c := outD hf 0 rfl
    exact .inl ⟨rfl, L_move (V := .slice a l.length c) r0 ⟨hs, fun _ => rfl, f1, f2, f3, f4, f5, f6, f7⟩⟩
  · rintro D ρ wx hD hd hdc hf ⟨hs, f0, f1, f2, f3, f4, f5, f6, f7⟩
    have g0 := f0 (doneD hd 0 rfl)
    exact .inl ⟨rfl, L_lenR (n := l.length) UD_56 (Rd.own' hr hs) (by simp) g0 ⟨hs, f0, fun _ => rfl, f2, f3, f4, f5, f6, f7⟩⟩
  · rintro D ρ wx hD hd hdc hf ⟨hs, f0, f1, f2, f3, f4, f5, f6, f7⟩
    have g1 := f1 (doneD hd 1 rfl)
    exact .inl ⟨rfl, L_gtr g1 rfl ⟨hs, f0, f1, fun _ => rfl, f3, f4, f5, f6, f7⟩⟩
  · rintro D ρ wx hD hd hdc hf ⟨hs, f0, f1, f2, f3, f4, f5, f6, f7⟩
    have g2 := f2 (doneD hd 2 rfl)
    exact .inl ⟨rfl, L_move (V := .bool (decide (40 < ((l.length : Nat) : Int)))) g2 ⟨hs, f0, f1, f2, fun _ => rfl, f4, f5, f6, f7⟩⟩
  · rintro D ρ wx hD hd hdc hf ⟨hs, f0, f1, f2, f3, f4, f5, f6, f7⟩
    have r3 : ρ 3 = .pointer (some ⟨b1, 0, none⟩) := outD hf 3 rfl
    rcases Bool.eq_false_or_eq_true ((decide (40 < ((l.length : Nat) : Int))) == false) with hG | hG
    rotate_left
    · exact .inr ⟨(Eq.trans (wantG1 (j := 3) rfl (f3 (doneD hd 3 rfl))) hG), ⟨hs, f0, f1, f2, f3, fun _ => (condF hG).symm, f5, f6, f7⟩⟩
    ·
      exact .inl ⟨(Eq.trans (wantG1 (j := 3) rfl (f3 (doneD hd 3 rfl))) hG), L_fieldAddr FA_59_1 r3 ⟨hs, f0, f1, f2, f3, fun _ => (condT hG).symm, f5, f6, f7⟩⟩
  · rintro D ρ wx hD hd hdc hf ⟨hs, f0, f1, f2, f3, f4, f5, f6, f7⟩
    have g4 := f4 (doneD hd 4 rfl)
    rcases Bool.eq_false_or_eq_true ((decide (40 < ((l.length : Nat) : Int))) == false) with hG | hG
    rotate_left
    · exact .inr ⟨(Eq.trans (wantG1 (j := 3) rfl (f3 (doneD hd 3 rfl))) hG), ⟨hs, f0, f1, f2, f3, f4, fun _ => (condF hG).symm, f6, f7⟩⟩
    ·
      exact .inl ⟨(Eq.trans (wantG1 (j := 3) rfl (f3 (doneD hd 3 rfl))) hG), L_ld (V := .int .u8 o.kind) S1_5 hs 0 rfl ((g4).trans (condT (by exact hG))) rfl ⟨hs, f0, f1, f2, f3, f4, fun _ => (condT hG).symm, f6, f7⟩⟩
  · rintro D ρ wx hD hd hdc hf ⟨hs, f0, f1, f2, f3, f4, f5, f6, f7⟩
    have g5 := f5 (doneD hd 5 rfl)
    rcases Bool.eq_false_or_eq_true ((decide (40 < ((l.length : Nat) : Int))) == false) with hG | hG
    rotate_left
    · exact .inr ⟨(Eq.trans (wantG1 (j := 3) rfl (f3 (doneD hd 3 rfl))) hG), ⟨hs, f0, f1, f2, f3, f4, f5, fun _ => (condF hG).symm, f7⟩⟩
    ·
      exact .inl ⟨(Eq.trans (wantG1 (j := 3) rfl (f3 (doneD hd 3 rfl))) hG), L_neq ((g5).trans (condT (by exact hG))) rfl ⟨hs, f0, f1, f2, f3, f4, f5, fun _ => (condT hG).symm, f7⟩⟩
  · rintro D ρ wx hD hd hdc hf ⟨hs, f0, f1, f2, f3, f4, f5, f6, f7⟩
    have g3 := f3 (doneD hd 3 rfl)
    have g6 := f6 (doneD hd 6 rfl)
    exact .inl ⟨rfl, L_or g3 rfl (fun hg => ((g6).trans (condT (by first | exact beqT hg | rfl)))) ⟨hs, f0, f1, f2, f3, f4, f5, f6, fun _ => rfl⟩⟩
  · rintro ρ1 w1 D hD hf ⟨hs, f0, f1, f2, f3, f4, f5, f6, f7⟩
    have e7 := f7 (hD 7 rfl)
    clear f0 f1 f2 f3 f4 f5 f6 f7
    obtain ⟨ρ2, hρ⟩ : ∃ ρ2, ρ1 = upd (mix [18, 19, 20, 21, 22, 23, 24, 25] ρ2 _) 25 (.bool ((decide (40 < ((l.length : Nat) : Int))) || (!decide (o.kind = 1)))) := ⟨ρ1, upd_of (mix_of (ds := [18, 19, 20, 21, 22, 23, 24, 25]) hf) e7⟩
    clear hf hD e7
    subst hρ
    refine W_cond (t := (decide (40 < ((l.length : Nat) : Int))) || (!decide (o.kind = 1))) rfl (fun c5 => ?_) (fun c5 => ?_)
    ·
      refine W_seq ?_
      refine W_region ?_
      refine RW_op (L_assign (V := .bool true) rfl ?_)
      refine RW_nil ?_
      refine W_ret ?_
      refine ⟨_, res_one (V := .bool true) Try.results10 rfl, ?_⟩
      refine ⟨congrArg Ending.returned ?_, hs.take 0⟩
      rfl
    ·
      have c5r := or_r c5
      replace c5 := or_l c5
      replace c5 := of_decide_eq_false c5
      replace c5r := not_f c5r
      replace c5r := of_decide_eq_true c5r
      refine W_skip ?_
      refine W_seq ?_
      refine W_seq ?_
      refine W_region ?_
      refine RW_op (L_move (V := .slice a l.length c) rfl ?_)
      refine RW_op (L_lenR (n := l.length) UD_56 (Rd.own' hr hs) (by simp) rfl ?_)
      refine RW_op (L_move (V := .int .i64 0) rfl ?_)
      refine RW_nil ?_
      refine W_block ?_
      refine W_loopI (fun ρ m ρ' w' => ∃ (ρo : Env) (k : Nat), ρ' = upd (mix [4, 6, 28, 29, 30, 31, 32, 33, 34, 35, 36, 37] ρo ρ) 28 (.int .i64 (k : Int)) ∧ (k ≤ l.length) ∧ (∀ j : Nat, j < k → hasB (gd l j).ctx o.dot = false) ∧ m = l.length - k ∧ Own w no w' [blk b1 (oc o) 59]) ?_ ?_
      · exact ⟨_, _, 0, upd_of (mix_of (ds := [4, 6, 28, 29, 30, 31, 32, 33, 34, 35, 36, 37]) (Agr.refl _ _)) rfl, (by omega), (fun j hj => absurd hj (Nat.not_lt_zero j)), rfl, hs⟩
      · rintro m ρ' w6 ⟨ρo, k, rfl, hk, hno, rfl, hs⟩
        refine W_seq ?_
        refine W_region ?_
        refine RW_op (L_lss rfl rfl ?_)
        refine RW_nil ?_
        refine W_seq ?_
        refine W_cond (t := decide ((k : Int) < ((l.length : Nat) : Int))) rfl (fun c7 => ?_) (fun c7 => ?_)
        ·
          replace c7 := of_decide_eq_true c7
          refine W_skip ?_
          refine W_seq ?_
          refine W_block ?_
          refine W_seq ?_
          refine W_region ?_
          refine RW_op (L_ixR UD_56 SA_59.1 (Rd.own' hr hs) rfl rfl (by omega) (by rw [List.length_map]; omega) ?_)
          refine RW_op (L_ldRA (j := 0) (vs := oc (gd l k)) k SA_59 (Rd.own' hr hs) (gd_at (by omega)) rfl rfl rfl (by omega) ?_)
          refine RW_op (L_alloc (cs := oc (⟨(⟨0, 0⟩ : Dot), 0, 0, 0, 0, 0, vzero⟩ : Opn)) ZV_59 rfl hs fun b8 w9 hs => ?_)
          refine RW_op (L_st (V := .agg (oc (gd l k)).toArray) (vs := oc (gd l k)) (cs' := oc (gd l k)) SA_59.1 hs 1 rfl rfl rfl rfl rfl (Nat.le_of_ble_eq_true rfl) (oc_one _) (spl_whole rfl) fun w10 hs => ?_)
          refine RW_nil ?_
          refine W_seq ?_
          refine W_region ?_
          refine RW_op (L_fieldAddr FA_59_6 rfl ?_)
          refine RW_op (L_ldA (vs := vc ((gd l k).ctx)) SA_24 hs 1 rfl rfl rfl rfl ?_)
          refine RW_op (L_fieldAddr FA_59_0 rfl ?_)
          refine RW_op (L_ldA (vs := dc o.dot) SA_34 hs 0 rfl rfl rfl rfl ?_)
          refine RW_op (L_callP (vs := [.agg (vc ((gd l k).ctx)).toArray, .agg (dc o.dot).toArray]) (V := .bool (hasB ((gd l k).ctx) o.dot)) EN_29 rfl rfl ?hc hs fun w11 hs => ?_)
          case hc => exact (rHas_ok _ ((gd l k).ctx) o.dot (by first | assumption | exact dotOk_mk (by omega) (by omega) (by omega) (by omega)))
          refine RW_nil ?_
          refine W_cond (t := hasB ((gd l k).ctx) o.dot) rfl (fun c12 => ?_) (fun c12 => ?_)
          ·
            refine W_seq ?_
            refine W_region ?_
            refine RW_op (L_assign (V := .bool true) rfl ?_)
            refine RW_nil ?_
            refine W_ret ?_
            refine ⟨_, res_one (V := .bool true) Try.results10 rfl, ?_⟩
            refine ⟨congrArg Ending.returned ?_, hs.take 0⟩
            rfl
          ·
            refine W_skip ?_
            refine W_region ?_
            refine RW_op (L_add (a := (k : Int)) (b := 1) (c := (k : Int) + 1) rfl rfl (wr_i64 (by omega) (by omega)) ?_)
            refine RW_op (L_move (V := .int .i64 ((k : Int) + 1)) rfl ?_)
            refine RW_nil ?_
            refine ⟨_, ?_, _, k + 1, upd_of (mix_of (ds := [4, 6, 28, 29, 30, 31, 32, 33, 34, 35, 36, 37]) (by repeat (first | exact Agr.refl _ _ | refine Agr.upd ?_ rfl | refine Agr.mix ?_ rfl))) rfl, (by omega), (no_step2 hno c12), rfl, hs.take 1⟩
            omega
        ·
          replace c7 := of_decide_eq_false c7
          refine W_exit ?_
          refine W_seq ?_
          refine W_seq ?_
          refine W_region ?_
          refine RW_op (L_fieldAddr FA_59_6 rfl ?_)
          refine RW_op (L_ldA (vs := vc o.ctx) SA_24 hs 0 rfl rfl rfl rfl ?_)
          refine RW_op (L_fieldAddr FA_59_0 rfl ?_)
          refine RW_op (L_ldA (vs := dc o.dot) SA_34 hs 0 rfl rfl rfl rfl ?_)
          refine RW_op (L_callP (vs := [.agg (vc o.ctx).toArray, .agg (dc o.dot).toArray]) (V := .bool (hasB o.ctx o.dot)) EN_29 rfl rfl ?hc hs fun w13 hs => ?_)
          case hc => exact (rHas_ok _ o.ctx o.dot (by first | assumption | exact dotOk_mk (by omega) (by omega) (by omega) (by omega)))
          refine RW_nil ?_
          refine W_cond (t := hasB o.ctx o.dot) rfl (fun c14 => ?_) (fun c14 => ?_)
          ·
            refine W_seq ?_
            refine W_region ?_
            refine RW_op (L_assign (V := .bool true) rfl ?_)
            refine RW_nil ?_
            refine W_ret ?_
            refine ⟨_, res_one (V := .bool true) Try.results10 rfl, ?_⟩
            refine ⟨congrArg Ending.returned ?_, hs.take 0⟩
            rfl
          ·
            refine W_skip ?_
            refine W_seq ?_
            have hlen : l.length ≤ 40 := by omega
            have hno2 : ∀ x ∈ l, hasB x.ctx o.dot = false := fun x hx => by
              obtain ⟨i, hi, rfl⟩ := List.mem_iff_getElem.1 hx
              have := hno i (by omega)
              simpa [gd, hi] using this
            have ⟨hvo, hvt, hvf, hvd⟩ := view_adds (l := l) c5r hno2
            have hvl := view_len l o.cart
            have hvl2 := view_len (l ++ [o]) o.cart
            rw [List.length_append, List.length_singleton] at hvl2
            refine W_region ?_
            refine RW_op (L_move (V := .slice a l.length c) rfl ?_)
            refine RW_op (L_fieldAddr FA_59_2 rfl ?_)
            refine RW_op (L_ld (V := .int .u16 o.cart) S1_57 hs 0 rfl rfl rfl ?_)
            refine RW_op (L_callX (α := Option Addr × Nat) (vs := [.slice a l.length c, .int .u16 o.cart]) (V := fun x => .agg ([.int .u16 ((viewP l o.cart).cart), .slice x.1 (((viewP l o.cart).lines).length) x.2, .bool ((viewP l o.cart).out), .int .u32 ((viewP l o.cart).tick)]).toArray) (Lo := fun x => [row (.slice x.1 ((viewP l o.cart).lines).length x.2) (((viewP l o.cart).lines).map lc) 67 2]) (F := fun _ _ => True) EN_34 rfl rfl ?hc hs fun x16 w15 hs _ => ?_)
            case hc => exact (fViewE_ok _ a c l o.cart (viewP l o.cart) (rfl) hl (by omega) (Rd.own' hr hs) hsortU)
            refine RW_op (L_alloc (cs := [.int .u16 0, .slice none 0 0, .bool false, .int .u32 0]) ZV_63 rfl hs fun b17 w18 hs => ?_)
            refine RW_op (L_st (V := .agg ([.int .u16 ((viewP l o.cart).cart), .slice x16.1 (((viewP l o.cart).lines).length) x16.2, .bool ((viewP l o.cart).out), .int .u32 ((viewP l o.cart).tick)]).toArray) (vs := [.int .u16 ((viewP l o.cart).cart), .slice x16.1 (((viewP l o.cart).lines).length) x16.2, .bool ((viewP l o.cart).out), .int .u32 ((viewP l o.cart).tick)]) (cs' := [.int .u16 ((viewP l o.cart).cart), .slice x16.1 (((viewP l o.cart).lines).length) x16.2, .bool ((viewP l o.cart).out), .int .u32 ((viewP l o.cart).tick)]) SA_63.1 hs 2 rfl rfl rfl rfl rfl (Nat.le_of_ble_eq_true rfl) (one_cons rfl (one_cons rfl (one_cons rfl (one_cons rfl one_nil)))) (spl_whole rfl) fun w19 hs => ?_)
            replace hs : Own w no w19 [blk b1 (oc o) 59, row (.slice x16.1 (((viewP l o.cart).lines).length) x16.2) (((viewP l o.cart).lines).map lc) 67 2, blk b17 [.int .u16 ((viewP l o.cart).cart), .slice x16.1 (((viewP l o.cart).lines).length) x16.2, .bool ((viewP l o.cart).out), .int .u32 ((viewP l o.cart).tick)] 63] := hs
            refine RW_nil ?_
            refine W_seq ?_
            replace hs := hs.more (row (.slice none 0 0) (List.map oc []) 59 23) (row_nil _ _ _ _)
            replace hs := hs.more emp trivial
            replace hs := hs.more emp trivial
            replace hs := hs.more emp trivial
            replace hs := hs.drew
            refine W_draw2 HM [47, 48, 49, 50, 51, 52, 53, 54, 8] [[], [0], [], [2], [1, 3, 1], [], [5], [4, 6, 4], [], [8, 7, 7, 0, 1, 2, 3, 4, 5, 6, 7, 8]] (fun D ρ wx => Own w no wx [blk b1 (oc o) 59, row (.slice x16.1 (((viewP l o.cart).lines).length) x16.2) (((viewP l o.cart).lines).map lc) 67 2, blk b17 [.int .u16 ((viewP l o.cart).cart), .slice x16.1 (((viewP l o.cart).lines).length) x16.2, .bool ((viewP l o.cart).out), .int .u32 ((viewP l o.cart).tick)] 63, cond (D 4) (row (.slice (aOf (ρ 51)) ((l ++ [o]).length) (cOf (ρ 51))) ((l ++ [o]).map oc) 59 23) (cond (D 1) (row (.slice (aOf (ρ 48)) l.length (cOf (ρ 48))) (l.map oc) 59 23) (row (.slice none 0 0) ([].map oc) 59 23)), cond (D 3) (row (.slice (some ⟨(bOf (ρ 50)), 0, none⟩) 1 1) ([o].map oc) 59 23) (emp), cond (D 7) (row (.slice (aOf (aggS (ρ 54) 1)) (((viewP (l ++ [o]) o.cart).lines).length) (cOf (aggS (ρ 54) 1))) (((viewP (l ++ [o]) o.cart).lines).map lc) 67 2) (emp), cond (D 9) (blk (bOf (ρ 8)) [.int .u16 ((viewP (l ++ [o]) o.cart).cart), .slice (aOf (aggS (ρ 54) 1)) (((viewP (l ++ [o]) o.cart).lines).length) (cOf (aggS (ρ 54) 1)), .bool ((viewP (l ++ [o]) o.cart).out), .int .u32 ((viewP (l ++ [o]) o.cart).tick)] 63) (cond (D 8) (blk (bOf (ρ 8)) [.int .u16 0, .slice none 0 0, .bool false, .int .u32 0] 63) (emp))] ∧ (D 0 = true → ρ 47 = .slice a l.length c) ∧ (D 1 = true → ρ 48 = .slice (aOf (ρ 48)) l.length (cOf (ρ 48))) ∧ (D 2 = true → ρ 49 = .agg (oc o).toArray) ∧ (D 3 = true → ρ 50 = .slice (some ⟨(bOf (ρ 50)), 0, none⟩) 1 1) ∧ (D 4 = true → ρ 51 = .slice (aOf (ρ 51)) ((l ++ [o]).length) (cOf (ρ 51))) ∧ (D 5 = true → ρ 52 = .pointer (some ⟨b1, 0 + 3, none⟩)) ∧ (D 6 = true → ρ 53 = .int .u16 o.cart) ∧ (D 7 = true → ρ 54 = .agg ([.int .u16 ((viewP (l ++ [o]) o.cart).cart), .slice (aOf (aggS (ρ 54) 1)) (((viewP (l ++ [o]) o.cart).lines).length) (cOf (aggS (ρ 54) 1)), .bool ((viewP (l ++ [o]) o.cart).out), .int .u32 ((viewP (l ++ [o]) o.cart).tick)]).toArray) ∧ (D 8 = true → ρ 8 = .pointer (some ⟨(bOf (ρ 8)), 0, none⟩)) ∧ (True)) rfl rfl rfl ⟨hs, fun h => absurd h Bool.false_ne_true, fun h => absurd h Bool.false_ne_true, fun h => absurd h Bool.false_ne_true, fun h => absurd h Bool.false_ne_true, fun h => absurd h Bool.false_ne_true, fun h => absurd h Bool.false_ne_true, fun h => absurd h Bool.false_ne_true, fun h => absurd h Bool.false_ne_true, fun h => absurd h Bool.false_ne_true, trivial⟩ ⟨?_, ?_, ?_, ?_, ?_, ?_, ?_, ?_, ?_, ?_, trivial⟩ ?_
            · rintro D ρ wx hD hd hdc hf ⟨hs, f0, f1, f2, f3, f4, f5, f6, f7, f8, f9⟩
              have r0 : ρ 0 = .slice a l.length c := outD hf 0 rfl
              exact .inl ⟨rfl, L_move (V := .slice a l.length c) r0 ⟨hs, fun _ => rfl, f1, f2, f3, f4, f5, f6, f7, f8, f9⟩⟩
            · rintro D ρ wx hD hd hdc hf ⟨hs, f0, f1, f2, f3, f4, f5, f6, f7, f8, f9⟩
              have g0 := f0 (doneD hd 0 rfl)
              have d1 : D 1 = false := hD
              have d4 : D 4 = false := (notYetD hdc (j := 4) rfl rfl hD)
              have hs0 := hs; rw [d1, d4] at hs0
              refine .inl ⟨rfl, L_appN (ls' := l.map oc) (n := l.length) EL_56 hs0 3 rfl rfl g0 (Rd.own' hr hs0) (one_map oc_one _) (by simp only [List.length_map, List.length_append, List.length_cons, List.length_nil]; omega) (by simp) (by simp) fun _ _ _ hs0 => ⟨?_, f0, fun _ => rfl, f2, f3, f4, f5, f6, f7, f8, f9⟩⟩
              rw [show Go.Vx.mark D 1 4 = false from d4]
              exact hs0
            · rintro D ρ wx hD hd hdc hf ⟨hs, f0, f1, f2, f3, f4, f5, f6, f7, f8, f9⟩
              have r3 : ρ 3 = .pointer (some ⟨b1, 0, none⟩) := outD hf 3 rfl
              exact .inl ⟨rfl, L_ldW (cs := oc o) SA_59 hs 0 rfl r3 rfl ⟨hs, f0, f1, fun _ => rfl, f3, f4, f5, f6, f7, f8, f9⟩⟩
            · rintro D ρ wx hD hd hdc hf ⟨hs, f0, f1, f2, f3, f4, f5, f6, f7, f8, f9⟩
              have g2 := f2 (doneD hd 2 rfl)
              refine .inl ⟨rfl, L_bs (vals := [.agg (oc o).toArray]) (ls := List.map oc ([o] : List Opn)) EL_56 (mapb g2 rfl) rfl rfl (len_map (enc := oc) (fun _ => rfl) _) (one_map oc_one _) (Nat.le_of_ble_eq_true rfl) hs fun b _ hs0 => ⟨?_, f0, f1, f2, fun _ => rfl, f4, f5, f6, f7, f8, f9⟩⟩
              exact hs0.put 4 (Nat.le_of_ble_eq_true rfl)
            · rintro D ρ wx hD hd hdc hf ⟨hs, f0, f1, f2, f3, f4, f5, f6, f7, f8, f9⟩
              have g1 := f1 (doneD hd 1 rfl)
              have g3 := f3 (doneD hd 3 rfl)
              have d1 : D 1 = true := doneD hd 1 rfl
              have d4 : D 4 = false := hD
              have d3 : D 3 = true := doneD hd 3 rfl
              have hs0 := hs; rw [d1, d3, d4] at hs0
              refine .inl ⟨rfl, L_appN (ls' := (l ++ [o]).map oc) (n := (l ++ [o]).length) EL_56 hs0 3 rfl g1 g3 (hs0.rd 4 rfl) (one_map oc_one _) (by simp only [List.length_map, List.length_append, List.length_cons, List.length_nil]; omega) (by simp) (by simp) fun _ _ _ hs0 => ⟨?_, f0, f1, f2, f3, fun _ => rfl, f5, f6, f7, f8, f9⟩⟩
              rw [show Go.Vx.mark D 4 1 = true from d1, show Go.Vx.mark D 4 3 = true from d3]
              exact hs0
            · rintro D ρ wx hD hd hdc hf ⟨hs, f0, f1, f2, f3, f4, f5, f6, f7, f8, f9⟩
              have r3 : ρ 3 = .pointer (some ⟨b1, 0, none⟩) := outD hf 3 rfl
              exact .inl ⟨rfl, L_fieldAddr FA_59_2 r3 ⟨hs, f0, f1, f2, f3, f4, fun _ => rfl, f6, f7, f8, f9⟩⟩
            · rintro D ρ wx hD hd hdc hf ⟨hs, f0, f1, f2, f3, f4, f5, f6, f7, f8, f9⟩
              have g5 := f5 (doneD hd 5 rfl)
              exact .inl ⟨rfl, L_ld (V := .int .u16 o.cart) S1_57 hs 0 rfl g5 rfl ⟨hs, f0, f1, f2, f3, f4, f5, fun _ => rfl, f7, f8, f9⟩⟩
            · rintro D ρ wx hD hd hdc hf ⟨hs, f0, f1, f2, f3, f4, f5, f6, f7, f8, f9⟩
              have g4 := f4 (doneD hd 4 rfl)
              have g6 := f6 (doneD hd 6 rfl)
              have d1 : D 1 = true := doneC hdc (j := 4) rfl (doneD hd 4 rfl) (k := 1) rfl
              have d4 : D 4 = true := doneD hd 4 rfl
              have d9 : D 9 = false := (notYetD hdc (j := 9) rfl rfl hD)
              have hs0 := hs; rw [d1, d4, d9] at hs0
              refine .inl ⟨rfl, L_callX (α := Option Addr × Nat) (vs := [.slice (aOf (ρ 51)) ((l ++ [o]).length) (cOf (ρ 51)), .int .u16 o.cart]) (V := fun x => .agg ([.int .u16 ((viewP (l ++ [o]) o.cart).cart), .slice x.1 (((viewP (l ++ [o]) o.cart).lines).length) x.2, .bool ((viewP (l ++ [o]) o.cart).out), .int .u32 ((viewP (l ++ [o]) o.cart).tick)]).toArray) (Lo := fun x => [row (.slice x.1 ((viewP (l ++ [o]) o.cart).lines).length x.2) (((viewP (l ++ [o]) o.cart).lines).map lc) 67 2]) (F := fun _ _ => True) EN_34 rfl (mapc g4 (mapc g6 rfl)) (fViewE_ok _ (aOf (ρ 51)) (cOf (ρ 51)) (l ++ [o]) o.cart (viewP (l ++ [o]) o.cart) (rfl) (fun x hx => (List.mem_append.1 hx).elim (hl x) fun h => by rw [List.mem_singleton.1 h]; exact hO) (by simp; omega) (hs0.rd 3 rfl) hsortU) hs0 fun b _ hs0 _ => ⟨?_, f0, f1, f2, f3, f4, f5, f6, fun _ => rfl, f8, f9⟩⟩
              rw [show Go.Vx.mark D 7 9 = false from d9, show Go.Vx.mark D 7 1 = true from d1, show Go.Vx.mark D 7 4 = true from d4]
              exact hs0.put 5 (Nat.le_of_ble_eq_true rfl)
            · rintro D ρ wx hD hd hdc hf ⟨hs, f0, f1, f2, f3, f4, f5, f6, f7, f8, f9⟩
              refine .inl ⟨rfl, L_alloc (cs := [.int .u16 0, .slice none 0 0, .bool false, .int .u32 0]) ZV_63 rfl hs fun b _ hs0 => ⟨?_, f0, f1, f2, f3, f4, f5, f6, f7, fun _ => rfl, f9⟩⟩
              have d9 : D 9 = false := (notYetD hdc (j := 9) rfl rfl hD)
              rw [show Go.Vx.mark D 8 9 = false from d9]
              exact hs0.put 6 (Nat.le_of_ble_eq_true rfl)
            · rintro D ρ wx hD hd hdc hf ⟨hs, f0, f1, f2, f3, f4, f5, f6, f7, f8, f9⟩
              have g7 := f7 (doneD hd 7 rfl)
              have g8 := f8 (doneD hd 8 rfl)
              have d8 : D 8 = true := doneD hd 8 rfl
              have d9 : D 9 = false := hD
              have hs0 := hs; rw [d8, d9] at hs0
              refine .inl ⟨rfl, L_st (V := .agg ([.int .u16 ((viewP (l ++ [o]) o.cart).cart), .slice (aOf (aggS (ρ 54) 1)) (((viewP (l ++ [o]) o.cart).lines).length) (cOf (aggS (ρ 54) 1)), .bool ((viewP (l ++ [o]) o.cart).out), .int .u32 ((viewP (l ++ [o]) o.cart).tick)]).toArray) (vs := [.int .u16 ((viewP (l ++ [o]) o.cart).cart), .slice (aOf (aggS (ρ 54) 1)) (((viewP (l ++ [o]) o.cart).lines).length) (cOf (aggS (ρ 54) 1)), .bool ((viewP (l ++ [o]) o.cart).out), .int .u32 ((viewP (l ++ [o]) o.cart).tick)]) (cs' := [.int .u16 ((viewP (l ++ [o]) o.cart).cart), .slice (aOf (aggS (ρ 54) 1)) (((viewP (l ++ [o]) o.cart).lines).length) (cOf (aggS (ρ 54) 1)), .bool ((viewP (l ++ [o]) o.cart).out), .int .u32 ((viewP (l ++ [o]) o.cart).tick)]) SA_63.1 hs0 6 rfl g8 g7 rfl rfl (Nat.le_of_ble_eq_true rfl) (one_cons rfl (one_cons rfl (one_cons rfl (one_cons rfl one_nil)))) (spl_whole rfl) fun _ hs0 => ⟨?_, f0, f1, f2, f3, f4, f5, f6, f7, f8, trivial⟩⟩
              rw [show Go.Vx.mark D 9 8 = true from d8]
              exact hs0
            · rintro ρ1 w1 D hD hf ⟨hs, f0, f1, f2, f3, f4, f5, f6, f7, f8, f9⟩
              rw [hD 1 rfl, hD 3 rfl, hD 4 rfl, hD 7 rfl, hD 8 rfl, hD 9 rfl] at hs
              have e8 := f8 (hD 8 rfl)
              clear f0 f1 f2 f3 f4 f5 f6 f7 f8 f9
              obtain ⟨a26, ha26⟩ : ∃ b, aOf (ρ1 48) = b := ⟨_, rfl⟩
              try rw [ha26] at hs
              obtain ⟨c27, hc27⟩ : ∃ b, cOf (ρ1 48) = b := ⟨_, rfl⟩
              try rw [hc27] at hs
              obtain ⟨b28, hb28⟩ : ∃ b, bOf (ρ1 50) = b := ⟨_, rfl⟩
              try rw [hb28] at hs
              obtain ⟨a29, ha29⟩ : ∃ b, aOf (ρ1 51) = b := ⟨_, rfl⟩
              try rw [ha29] at hs
              obtain ⟨c30, hc30⟩ : ∃ b, cOf (ρ1 51) = b := ⟨_, rfl⟩
              try rw [hc30] at hs
              obtain ⟨n31, hn31⟩ : ∃ b, (aOf (aggS (ρ1 54) 1)) = b := ⟨_, rfl⟩
              try rw [hn31] at hs
              obtain ⟨n32, hn32⟩ : ∃ b, (cOf (aggS (ρ1 54) 1)) = b := ⟨_, rfl⟩
              try rw [hn32] at hs
              obtain ⟨b33, hb33⟩ : ∃ b, bOf (ρ1 8) = b := ⟨_, rfl⟩
              try rw [hb33] at hs
              try rw [hb33] at e8
              obtain ⟨ρ2, hρ⟩ : ∃ ρ2, ρ1 = upd (mix [47, 48, 49, 50, 51, 52, 53, 54, 8] ρ2 _) 8 (.pointer (some ⟨b33, 0, none⟩)) := ⟨ρ1, upd_of (mix_of (ds := [47, 48, 49, 50, 51, 52, 53, 54, 8]) hf) e8⟩
              clear hf hD e8
              subst hρ
              refine W_seq ?_
              refine W_region ?_
              refine RW_op (L_assign (V := .int .u32 0) rfl ?_)
              refine RW_nil ?_
              refine W_seq ?_
              refine W_region ?_
              refine RW_op (L_assign (V := .slice none 0 0) rfl ?_)
              refine RW_nil ?_
              refine W_seq ?_
              refine W_seq ?_
              refine W_region ?_
              refine RW_op (L_fieldAddr FA_63_1 rfl ?_)
              refine RW_op (L_ld (V := .slice x16.1 (((viewP l o.cart).lines).length) x16.2) S1_61 hs 2 rfl rfl rfl ?_)
              refine RW_op (L_lenR (n := ((viewP l o.cart).lines).length) UD_61 (hs.rd 1 rfl) (by simp) rfl ?_)
              refine RW_op (L_move (V := .int .i64 0) rfl ?_)
              refine RW_nil ?_
              refine W_block ?_
              replace hs := hs.more (row (.slice none 0 0) (List.map lc []) 67 2) (row_nil _ _ _ _)
              refine W_loopI (fun ρ m ρ' w' => ∃ (ρo : Env) (i2 : Nat) (a1 : Option Addr) (c1 : Nat) (out : List Line) (hd : Int), ρ' = upd (upd (upd (mix [9, 10, 12, 58, 59, 60, 61, 62, 63, 64, 65, 66, 67, 68, 69, 70, 71, 72, 73] ρo ρ) 58 (.int .i64 (i2 : Int))) 10 (.slice a1 out.length c1)) 9 (.int .u32 hd) ∧ (i2 ≤ (viewP l o.cart).lines.length) ∧ (out.length ≤ i2) ∧ (out = ((viewP l o.cart).lines.take i2).filter (notI o.item)) ∧ (hd = hadL o.item ((viewP l o.cart).lines.take i2)) ∧ m = (viewP l o.cart).lines.length - i2 ∧ Own w no w' [blk b1 (oc o) 59, row (.slice x16.1 (((viewP l o.cart).lines).length) x16.2) (((viewP l o.cart).lines).map lc) 67 2, blk b17 [.int .u16 ((viewP l o.cart).cart), .slice x16.1 (((viewP l o.cart).lines).length) x16.2, .bool ((viewP l o.cart).out), .int .u32 ((viewP l o.cart).tick)] 63, row (.slice a29 ((l ++ [o]).length) c30) ((l ++ [o]).map oc) 59 23, row (.slice (some ⟨b28, 0, none⟩) 1 1) ([o].map oc) 59 23, row (.slice n31 (((viewP (l ++ [o]) o.cart).lines).length) n32) (((viewP (l ++ [o]) o.cart).lines).map lc) 67 2, blk b33 [.int .u16 ((viewP (l ++ [o]) o.cart).cart), .slice n31 (((viewP (l ++ [o]) o.cart).lines).length) n32, .bool ((viewP (l ++ [o]) o.cart).out), .int .u32 ((viewP (l ++ [o]) o.cart).tick)] 63, row (.slice a1 out.length c1) (out.map lc) 67 2]) ?_ ?_
              · exact ⟨_, _, 0, none, 0, [], 0, upd_of (upd_of (upd_of (mix_of (ds := [9, 10, 12, 58, 59, 60, 61, 62, 63, 64, 65, 66, 67, 68, 69, 70, 71, 72, 73]) (Agr.refl _ _)) rfl) rfl) rfl, (by omega), (Nat.le_refl _), rfl, rfl, rfl, hs⟩
              · rintro m ρ' w35 ⟨ρo, i2, a1, c1, out, hd, rfl, hi2, hol, hout, hhd, rfl, hs⟩
                refine W_seq ?_
                refine W_region ?_
                refine RW_op (L_lss rfl rfl ?_)
                refine RW_nil ?_
                refine W_seq ?_
                refine W_cond (t := decide ((i2 : Int) < ((((viewP l o.cart).lines).length : Nat) : Int))) rfl (fun c36 => ?_) (fun c36 => ?_)
                ·
                  replace c36 := of_decide_eq_true c36
                  refine W_skip ?_
                  refine W_seq ?_
                  refine W_block ?_
                  refine W_seq ?_
                  refine W_region ?_
                  refine RW_op (L_ixR UD_61 SA_67.1 (hs.rd 1 rfl) rfl rfl (by omega) (by rw [List.length_map]; omega) ?_)
                  refine RW_op (L_ldRA (j := 0) (vs := lc (gd ((viewP l o.cart).lines) i2)) i2 SA_67 (hs.rd 1 rfl) (gd_at (by omega)) rfl rfl rfl (by omega) ?_)
                  refine RW_op (L_alloc (cs := lc (⟨0, 0⟩ : Line)) ZV_67 rfl hs fun b37 w38 hs => ?_)
                  refine RW_op (L_st (V := .agg (lc (gd ((viewP l o.cart).lines) i2)).toArray) (vs := lc (gd ((viewP l o.cart).lines) i2)) (cs' := lc (gd ((viewP l o.cart).lines) i2)) SA_67.1 hs 8 rfl rfl rfl rfl rfl (Nat.le_of_ble_eq_true rfl) (lc_one _) (spl_whole rfl) fun w39 hs => ?_)
                  refine RW_nil ?_
                  refine W_seq ?_
                  refine W_region ?_
                  refine RW_op (L_fieldAddr FA_67_0 rfl ?_)
                  refine RW_op (L_ld (V := .int .u16 ((gd ((viewP l o.cart).lines) i2).item)) S1_57 hs 8 rfl rfl rfl ?_)
                  refine RW_op (L_fieldAddr FA_59_3 rfl ?_)
                  refine RW_op (L_ld (V := .int .u16 o.item) S1_57 hs 0 rfl rfl rfl ?_)
                  refine RW_op (L_eql rfl rfl ?_)
                  refine RW_nil ?_
                  refine W_cond (t := decide ((gd ((viewP l o.cart).lines) i2).item = o.item)) rfl (fun c40 => ?_) (fun c40 => ?_)
                  ·
                    replace c40 := of_decide_eq_true c40
                    refine W_region ?_
                    refine RW_op (L_fieldAddr FA_67_1 rfl ?_)
                    refine RW_op (L_ld (V := .int .u32 ((gd ((viewP l o.cart).lines) i2).qty)) S1_22 hs 8 rfl rfl rfl ?_)
                    refine RW_op (L_assign (V := .int .u32 ((gd ((viewP l o.cart).lines) i2).qty)) rfl ?_)
                    refine RW_nil ?_
                    refine W_region ?_
                    refine RW_op (L_add (a := (i2 : Int)) (b := 1) (c := (i2 : Int) + 1) rfl rfl (wr_i64 (by omega) (by omega)) ?_)
                    refine RW_op (L_move (V := .int .i64 ((i2 : Int) + 1)) rfl ?_)
                    refine RW_nil ?_
                    refine ⟨_, ?_, _, i2 + 1, a1, c1, out, (gd ((viewP l o.cart).lines) i2).qty, upd_of (upd_of (upd_of (mix_of (ds := [9, 10, 12, 58, 59, 60, 61, 62, 63, 64, 65, 66, 67, 68, 69, 70, 71, 72, 73]) (by repeat (first | exact Agr.refl _ _ | refine Agr.upd ?_ rfl | refine Agr.mix ?_ rfl))) rfl) rfl) rfl, (by omega), (by first | omega | (simp only [List.length_append, List.length_cons, List.length_nil]; omega)), (filt_next_no (p := notI o.item) hout (by omega) (by unfold notI; rw [decide_eq_true c40]; rfl)), (by rw [← hadL_next hhd (by omega)]; unfold hadF; rw [if_pos c40]), rfl, hs.take 8⟩
                    omega
                  ·
                    replace c40 := of_decide_eq_false c40
                    refine W_region ?_
                    refine RW_op (L_move (V := .slice a1 out.length c1) rfl ?_)
                    refine RW_op (L_ldW (cs := lc (gd ((viewP l o.cart).lines) i2)) SA_67 hs 8 rfl rfl rfl ?_)
                    refine RW_op (L_bs (vals := [.agg (lc (gd ((viewP l o.cart).lines) i2)).toArray]) (ls := List.map lc ([gd ((viewP l o.cart).lines) i2] : List Line)) EL_61 rfl rfl rfl (len_map (enc := lc) (fun _ => rfl) _) (one_map lc_one _) (Nat.le_of_ble_eq_true rfl) hs fun b41 w42 hs => ?_)
                    refine RW_op (L_appN (ls' := (out ++ [gd ((viewP l o.cart).lines) i2]).map lc) (n := (out ++ [gd ((viewP l o.cart).lines) i2]).length) EL_61 hs 7 rfl rfl rfl (hs.rd 9 rfl) (one_map lc_one _) (by simp only [List.length_map, List.length_append, List.length_cons, List.length_nil]; omega) (by simp) (by simp) fun a43 c43 w44 hs => ?_)
                    replace hs : Own w no w44 [blk b1 (oc o) 59, row (.slice x16.1 (((viewP l o.cart).lines).length) x16.2) (((viewP l o.cart).lines).map lc) 67 2, blk b17 [.int .u16 ((viewP l o.cart).cart), .slice x16.1 (((viewP l o.cart).lines).length) x16.2, .bool ((viewP l o.cart).out), .int .u32 ((viewP l o.cart).tick)] 63, row (.slice a29 ((l ++ [o]).length) c30) ((l ++ [o]).map oc) 59 23, row (.slice (some ⟨b28, 0, none⟩) 1 1) ([o].map oc) 59 23, row (.slice n31 (((viewP (l ++ [o]) o.cart).lines).length) n32) (((viewP (l ++ [o]) o.cart).lines).map lc) 67 2, blk b33 [.int .u16 ((viewP (l ++ [o]) o.cart).cart), .slice n31 (((viewP (l ++ [o]) o.cart).lines).length) n32, .bool ((viewP (l ++ [o]) o.cart).out), .int .u32 ((viewP (l ++ [o]) o.cart).tick)] 63, row (.slice a43 ((out ++ [gd ((viewP l o.cart).lines) i2]).length) c43) ((out ++ [gd ((viewP l o.cart).lines) i2]).map lc) 67 2, blk b37 (lc (gd ((viewP l o.cart).lines) i2)) 67, row (.slice (some ⟨b41, 0, none⟩) 1 1) ([gd ((viewP l o.cart).lines) i2].map lc) 67 2] := hs
                    refine RW_op (L_assign (V := .slice a43 ((out ++ [gd ((viewP l o.cart).lines) i2]).length) c43) rfl ?_)
                    refine RW_nil ?_
                    refine W_region ?_
                    refine RW_op (L_add (a := (i2 : Int)) (b := 1) (c := (i2 : Int) + 1) rfl rfl (wr_i64 (by omega) (by omega)) ?_)
                    refine RW_op (L_move (V := .int .i64 ((i2 : Int) + 1)) rfl ?_)
                    refine RW_nil ?_
                    refine ⟨_, ?_, _, i2 + 1, a43, c43, out ++ [gd ((viewP l o.cart).lines) i2], hd, upd_of (upd_of (upd_of (mix_of (ds := [9, 10, 12, 58, 59, 60, 61, 62, 63, 64, 65, 66, 67, 68, 69, 70, 71, 72, 73]) (by repeat (first | exact Agr.refl _ _ | refine Agr.upd ?_ rfl | refine Agr.mix ?_ rfl))) rfl) rfl) rfl, (by omega), (by first | omega | (simp only [List.length_append, List.length_cons, List.length_nil]; omega)), (filt_next_yes (p := notI o.item) hout (by omega) (by unfold notI; rw [decide_eq_false c40]; rfl)), (by rw [← hadL_next hhd (by omega)]; unfold hadF; rw [if_neg c40]), rfl, hs.take 8⟩
                    omega
                ·
                  replace c36 := of_decide_eq_false c36
                  refine W_exit ?_
                  refine W_seq ?_
                  have hhd2 : hd = hadL o.item (viewP l o.cart).lines := by rw [hhd, take_all (by omega)]
                  have hout2 : out = (viewP l o.cart).lines.filter (notI o.item) := by rw [hout, take_all (by omega)]
                  refine W_region ?_
                  refine RW_op (L_assign (V := .bool false) rfl ?_)
                  refine RW_nil ?_
                  refine W_seq ?_
                  refine W_seq ?_
                  refine W_region ?_
                  refine RW_op (L_fieldAddr FA_63_1 rfl ?_)
                  refine RW_op (L_ld (V := .slice n31 (((viewP (l ++ [o]) o.cart).lines).length) n32) S1_61 hs 6 rfl rfl rfl ?_)
                  refine RW_op (L_lenR (n := ((viewP (l ++ [o]) o.cart).lines).length) UD_61 (hs.rd 5 rfl) (by simp) rfl ?_)
                  refine RW_op (L_move (V := .int .i64 0) rfl ?_)
                  refine RW_nil ?_
                  refine W_block ?_
                  refine W_loopI (fun ρ m ρ' w' => ∃ (ρo : Env) (j3 : Nat) (a3 : Option Addr) (c3 : Nat) (R : List Line) (fd : Bool), ρ' = upd (upd (upd (mix [4, 10, 13, 15, 77, 78, 79, 80, 81, 82, 83, 84, 85, 86, 87, 88, 89, 90, 91, 92, 93, 94, 95, 96, 97, 98, 99, 100, 101, 102, 103, 104, 105, 106, 107, 108] ρo ρ) 77 (.int .i64 (j3 : Int))) 10 (.slice a3 R.length c3)) 13 (.bool fd) ∧ (j3 ≤ (viewP (l ++ [o]) o.cart).lines.length) ∧ (((viewP (l ++ [o]) o.cart).lines.take j3).filter (notI o.item) ++ R = (viewP l o.cart).lines.filter (notI o.item)) ∧ (fd = fdL o.item ((hd + o.qty) % 4294967296) ((viewP (l ++ [o]) o.cart).lines.take j3)) ∧ (∀ w' : World, Rd w' (.slice a1 out.length c1) 2 (out.map lc) → Rd w' (.slice a3 R.length c3) 2 (R.map lc)) ∧ m = (viewP (l ++ [o]) o.cart).lines.length - j3 ∧ Own w no w' [blk b1 (oc o) 59, row (.slice x16.1 (((viewP l o.cart).lines).length) x16.2) (((viewP l o.cart).lines).map lc) 67 2, blk b17 [.int .u16 ((viewP l o.cart).cart), .slice x16.1 (((viewP l o.cart).lines).length) x16.2, .bool ((viewP l o.cart).out), .int .u32 ((viewP l o.cart).tick)] 63, row (.slice a29 ((l ++ [o]).length) c30) ((l ++ [o]).map oc) 59 23, row (.slice (some ⟨b28, 0, none⟩) 1 1) ([o].map oc) 59 23, row (.slice n31 (((viewP (l ++ [o]) o.cart).lines).length) n32) (((viewP (l ++ [o]) o.cart).lines).map lc) 67 2, blk b33 [.int .u16 ((viewP (l ++ [o]) o.cart).cart), .slice n31 (((viewP (l ++ [o]) o.cart).lines).length) n32, .bool ((viewP (l ++ [o]) o.cart).out), .int .u32 ((viewP (l ++ [o]) o.cart).tick)] 63, row (.slice a1 out.length c1) (out.map lc) 67 2]) ?_ ?_
                  · exact ⟨_, _, 0, a1, c1, out, false, upd_of (upd_of (upd_of (mix_of (ds := [4, 10, 13, 15, 77, 78, 79, 80, 81, 82, 83, 84, 85, 86, 87, 88, 89, 90, 91, 92, 93, 94, 95, 96, 97, 98, 99, 100, 101, 102, 103, 104, 105, 106, 107, 108]) (Agr.refl _ _)) rfl) rfl) rfl, (by omega), (by rw [hout2]; rfl), rfl, (fun _ h => h), rfl, hs⟩
                  · rintro m ρ' w45 ⟨ρo, j3, a3, c3, R, fd, rfl, hj3, hR, hfd, hvia, rfl, hs⟩
                    refine W_seq ?_
                    refine W_region ?_
                    refine RW_op (L_lss rfl rfl ?_)
                    refine RW_nil ?_
                    refine W_seq ?_
                    refine W_cond (t := decide ((j3 : Int) < ((((viewP (l ++ [o]) o.cart).lines).length : Nat) : Int))) rfl (fun c46 => ?_) (fun c46 => ?_)
                    ·
                      replace c46 := of_decide_eq_true c46
                      refine W_skip ?_
                      refine W_seq ?_
                      refine W_block ?_
                      refine W_seq ?_
                      refine W_region ?_
                      refine RW_op (L_ixR UD_61 SA_67.1 (hs.rd 5 rfl) rfl rfl (by omega) (by rw [List.length_map]; omega) ?_)
                      refine RW_op (L_ldRA (j := 0) (vs := lc (gd ((viewP (l ++ [o]) o.cart).lines) j3)) j3 SA_67 (hs.rd 5 rfl) (gd_at (by omega)) rfl rfl rfl (by omega) ?_)
                      refine RW_op (L_alloc (cs := lc (⟨0, 0⟩ : Line)) ZV_67 rfl hs fun b47 w48 hs => ?_)
                      refine RW_op (L_st (V := .agg (lc (gd ((viewP (l ++ [o]) o.cart).lines) j3)).toArray) (vs := lc (gd ((viewP (l ++ [o]) o.cart).lines) j3)) (cs' := lc (gd ((viewP (l ++ [o]) o.cart).lines) j3)) SA_67.1 hs 8 rfl rfl rfl rfl rfl (Nat.le_of_ble_eq_true rfl) (lc_one _) (spl_whole rfl) fun w49 hs => ?_)
                      refine RW_nil ?_
                      refine W_block ?_
                      refine W_seq ?_
                      refine W_region ?_
                      refine RW_op (L_fieldAddr FA_67_0 rfl ?_)
                      refine RW_op (L_ld (V := .int .u16 ((gd ((viewP (l ++ [o]) o.cart).lines) j3).item)) S1_57 hs 8 rfl rfl rfl ?_)
                      refine RW_op (L_fieldAddr FA_59_3 rfl ?_)
                      refine RW_op (L_ld (V := .int .u16 o.item) S1_57 hs 0 rfl rfl rfl ?_)
                      refine RW_op (L_eql rfl rfl ?_)
                      refine RW_op (L_assign (V := .bool (decide ((gd ((viewP (l ++ [o]) o.cart).lines) j3).item = o.item))) rfl ?_)
                      refine RW_nil ?_
                      refine W_cond (t := decide ((gd ((viewP (l ++ [o]) o.cart).lines) j3).item = o.item)) rfl (fun c50 => ?_) (fun c50 => ?_)
                      ·
                        replace c50 := of_decide_eq_true c50
                        refine W_region ?_
                        refine RW_op (L_fieldAddr FA_67_1 rfl ?_)
                        refine RW_op (L_ld (V := .int .u32 ((gd ((viewP (l ++ [o]) o.cart).lines) j3).qty)) S1_22 hs 8 rfl rfl rfl ?_)
                        refine RW_op (L_move (V := .int .u32 hd) rfl ?_)
                        refine RW_op (L_fieldAddr FA_59_4 rfl ?_)
                        refine RW_op (L_ld (V := .int .u16 o.qty) S1_57 hs 0 rfl rfl rfl ?_)
                        refine RW_op (L_conv UD_57 UD_22 rfl (wr_u32 (by omega) (by omega)) ?_)
                        refine RW_op (L_add (a := hd) (b := o.qty) (c := (hd + o.qty) % 4294967296) rfl rfl (wm_u32 _) ?_)
                        refine RW_op (L_eql rfl rfl ?_)
                        refine RW_op (L_assign (V := .bool (decide ((gd ((viewP (l ++ [o]) o.cart).lines) j3).qty = (hd + o.qty) % 4294967296))) rfl ?_)
                        refine RW_nil ?_
                        refine W_region ?_
                        refine RW_op (L_add (a := (j3 : Int)) (b := 1) (c := (j3 : Int) + 1) rfl rfl (wr_i64 (by omega) (by omega)) ?_)
                        refine RW_op (L_move (V := .int .i64 ((j3 : Int) + 1)) rfl ?_)
                        refine RW_nil ?_
                        refine ⟨_, ?_, _, j3 + 1, a3, c3, R, decide ((gd ((viewP (l ++ [o]) o.cart).lines) j3).qty = (hd + o.qty) % 4294967296), upd_of (upd_of (upd_of (mix_of (ds := [4, 10, 13, 15, 77, 78, 79, 80, 81, 82, 83, 84, 85, 86, 87, 88, 89, 90, 91, 92, 93, 94, 95, 96, 97, 98, 99, 100, 101, 102, 103, 104, 105, 106, 107, 108]) (by repeat (first | exact Agr.refl _ _ | refine Agr.upd ?_ rfl | refine Agr.mix ?_ rfl))) rfl) rfl) rfl, (by omega), (rest_skip hR (by omega) c50), (by rw [← fdL_next hfd (by omega)]; unfold fdF; rw [if_pos c50]), hvia, rfl, hs.take 8⟩
                        omega
                      ·
                        replace c50 := of_decide_eq_false c50
                        refine W_seq ?_
                        have ⟨hR1, hR2, hR4⟩ := rest_at hR hvf (by omega) c50
                        replace hs := hs.drew
                        refine W_draw2 HM [98, 99, 100, 101, 102, 103, 104, 105, 106, 107, 97] [[], [0], [1], [2], [3], [3], [5, 3], [6, 3], [4, 7, 3], [3, 8], [9, 3]] (fun D ρ wx => Own w no wx [blk b1 (oc o) 59, row (.slice x16.1 (((viewP l o.cart).lines).length) x16.2) (((viewP l o.cart).lines).map lc) 67 2, blk b17 [.int .u16 ((viewP l o.cart).cart), .slice x16.1 (((viewP l o.cart).lines).length) x16.2, .bool ((viewP l o.cart).out), .int .u32 ((viewP l o.cart).tick)] 63, row (.slice a29 ((l ++ [o]).length) c30) ((l ++ [o]).map oc) 59 23, row (.slice (some ⟨b28, 0, none⟩) 1 1) ([o].map oc) 59 23, row (.slice n31 (((viewP (l ++ [o]) o.cart).lines).length) n32) (((viewP (l ++ [o]) o.cart).lines).map lc) 67 2, blk b33 [.int .u16 ((viewP (l ++ [o]) o.cart).cart), .slice n31 (((viewP (l ++ [o]) o.cart).lines).length) n32, .bool ((viewP (l ++ [o]) o.cart).out), .int .u32 ((viewP (l ++ [o]) o.cart).tick)] 63, row (.slice a1 out.length c1) (out.map lc) 67 2, blk b47 (lc (gd ((viewP (l ++ [o]) o.cart).lines) j3)) 67] ∧ (D 0 = true → ρ 98 = .slice a3 R.length c3) ∧ (D 1 = true → ρ 99 = .int .i64 ((R.length : Nat) : Int)) ∧ (D 2 = true → ρ 100 = .bool false) ∧ (D 3 = true → ρ 101 = .bool false) ∧ (D 4 = true → ρ 102 = .agg (lc (gd ((viewP (l ++ [o]) o.cart).lines) j3)).toArray) ∧ (D 5 = true → ρ 103 = .slice a3 R.length c3) ∧ (D 6 = true → ρ 104 = .pointer (some ⟨bkS (.slice a3 R.length c3), ofS (.slice a3 R.length c3) + (0 : Int).toNat * 2, none⟩)) ∧ (D 7 = true → ρ 105 = .agg (lc (gd R 0)).toArray) ∧ (D 8 = true → ρ 106 = .bool false) ∧ (D 9 = true → ρ 107 = .bool false) ∧ (D 10 = true → ρ 97 = .bool false)) rfl rfl rfl ⟨hs, fun h => absurd h Bool.false_ne_true, fun h => absurd h Bool.false_ne_true, fun h => absurd h Bool.false_ne_true, fun h => absurd h Bool.false_ne_true, fun h => absurd h Bool.false_ne_true, fun h => absurd h Bool.false_ne_true, fun h => absurd h Bool.false_ne_true, fun h => absurd h Bool.false_ne_true, fun h => absurd h Bool.false_ne_true, fun h => absurd h Bool.false_ne_true, fun h => absurd h Bool.false_ne_true⟩ ⟨?_, ?_, ?_, ?_, ?_, ?_, ?_, ?_, ?_, ?_, ?_, trivial⟩ ?_
                        · rintro D ρ wx hD hd hdc hf ⟨hs, f0, f1, f2, f3, f4, f5, f6, f7, f8, f9, f10⟩
                          have r10 : ρ 10 = .slice a3 R.length c3 := outD hf 10 rfl
                          exact .inl ⟨rfl, L_move (V := .slice a3 R.length c3) r10 ⟨hs, fun _ => rfl, f1, f2, f3, f4, f5, f6, f7, f8, f9, f10⟩⟩
                        · rintro D ρ wx hD hd hdc hf ⟨hs, f0, f1, f2, f3, f4, f5, f6, f7, f8, f9, f10⟩
                          have g0 := f0 (doneD hd 0 rfl)
                          exact .inl ⟨rfl, L_lenR (n := R.length) UD_61 (hvia _ (hs.rd 7 rfl)) (by simp) g0 ⟨hs, f0, fun _ => rfl, f2, f3, f4, f5, f6, f7, f8, f9, f10⟩⟩
                        · rintro D ρ wx hD hd hdc hf ⟨hs, f0, f1, f2, f3, f4, f5, f6, f7, f8, f9, f10⟩
                          have g1 := f1 (doneD hd 1 rfl)
                          exact .inl ⟨rfl, opW_to (V := .bool (decide (((R.length : Nat) : Int) = 0))) (V' := .bool false) (L_eql g1 rfl ⟨rfl, rfl⟩) (congrArg Value.bool (decide_eq_false (by omega))) ⟨hs, f0, f1, fun _ => rfl, f3, f4, f5, f6, f7, f8, f9, f10⟩⟩
                        · rintro D ρ wx hD hd hdc hf ⟨hs, f0, f1, f2, f3, f4, f5, f6, f7, f8, f9, f10⟩
                          have g2 := f2 (doneD hd 2 rfl)
                          exact .inl ⟨rfl, L_move (V := .bool false) g2 ⟨hs, f0, f1, f2, fun _ => rfl, f4, f5, f6, f7, f8, f9, f10⟩⟩
                        · rintro D ρ wx hD hd hdc hf ⟨hs, f0, f1, f2, f3, f4, f5, f6, f7, f8, f9, f10⟩
                          have r15 : ρ 15 = .pointer (some ⟨b47, 0, none⟩) := outD hf 15 rfl
                          exact .inl ⟨(Eq.trans (wantG1 (j := 3) rfl (f3 (doneD hd 3 rfl))) rfl), L_ldW (cs := lc (gd ((viewP (l ++ [o]) o.cart).lines) j3)) SA_67 hs 8 rfl r15 rfl ⟨hs, f0, f1, f2, f3, fun _ => rfl, f5, f6, f7, f8, f9, f10⟩⟩
                        · rintro D ρ wx hD hd hdc hf ⟨hs, f0, f1, f2, f3, f4, f5, f6, f7, f8, f9, f10⟩
                          have r10 : ρ 10 = .slice a3 R.length c3 := outD hf 10 rfl
                          exact .inl ⟨(Eq.trans (wantG1 (j := 3) rfl (f3 (doneD hd 3 rfl))) rfl), L_move (V := .slice a3 R.length c3) r10 ⟨hs, f0, f1, f2, f3, f4, fun _ => rfl, f6, f7, f8, f9, f10⟩⟩
                        · rintro D ρ wx hD hd hdc hf ⟨hs, f0, f1, f2, f3, f4, f5, f6, f7, f8, f9, f10⟩
                          have g5 := f5 (doneD hd 5 rfl)
                          exact .inl ⟨(Eq.trans (wantG1 (j := 3) rfl (f3 (doneD hd 3 rfl))) rfl), L_ixR UD_61 SA_67.1 (hvia _ (hs.rd 7 rfl)) g5 rfl (by decide) (by rw [List.length_map]; omega) ⟨hs, f0, f1, f2, f3, f4, f5, fun _ => rfl, f7, f8, f9, f10⟩⟩
                        · rintro D ρ wx hD hd hdc hf ⟨hs, f0, f1, f2, f3, f4, f5, f6, f7, f8, f9, f10⟩
                          have g6 := f6 (doneD hd 6 rfl)
                          exact .inl ⟨(Eq.trans (wantG1 (j := 3) rfl (f3 (doneD hd 3 rfl))) rfl), L_ldRA (j := 0) (vs := lc (gd R 0)) 0 SA_67 (hvia _ (hs.rd 7 rfl)) (gd_at (by omega)) rfl rfl g6 (by omega) ⟨hs, f0, f1, f2, f3, f4, f5, f6, fun _ => rfl, f8, f9, f10⟩⟩
                        · rintro D ρ wx hD hd hdc hf ⟨hs, f0, f1, f2, f3, f4, f5, f6, f7, f8, f9, f10⟩
                          have g4 := f4 (doneD hd 4 rfl)
                          have g7 := f7 (doneD hd 7 rfl)
                          exact .inl ⟨(Eq.trans (wantG1 (j := 3) rfl (f3 (doneD hd 3 rfl))) rfl), opW_to (V := .bool (!decide (gd ((viewP (l ++ [o]) o.cart).lines) j3 = gd R 0))) (V' := .bool false) (L_neA (xs := lc (gd ((viewP (l ++ [o]) o.cart).lines) j3)) (ys := lc (gd R 0)) Try.eqGuardType67 (EQ_67 (gd ((viewP (l ++ [o]) o.cart).lines) j3) (gd R 0)) rfl g4 g7 ⟨rfl, rfl⟩) (congrArg Value.bool (by rw [decide_eq_true hR2]; rfl)) ⟨hs, f0, f1, f2, f3, f4, f5, f6, f7, fun _ => rfl, f9, f10⟩⟩
                        · rintro D ρ wx hD hd hdc hf ⟨hs, f0, f1, f2, f3, f4, f5, f6, f7, f8, f9, f10⟩
                          have g3 := f3 (doneD hd 3 rfl)
                          have g8 := f8 (doneD hd 8 rfl)
                          exact .inl ⟨rfl, L_pick (V := .bool false) g3 g8 ⟨hs, f0, f1, f2, f3, f4, f5, f6, f7, f8, fun _ => rfl, f10⟩⟩
                        · rintro D ρ wx hD hd hdc hf ⟨hs, f0, f1, f2, f3, f4, f5, f6, f7, f8, f9, f10⟩
                          have g9 := f9 (doneD hd 9 rfl)
                          exact .inl ⟨rfl, L_assign (V := .bool false) g9 ⟨hs, f0, f1, f2, f3, f4, f5, f6, f7, f8, f9, fun _ => rfl⟩⟩
                        · rintro ρ1 w1 D hD hf ⟨hs, f0, f1, f2, f3, f4, f5, f6, f7, f8, f9, f10⟩
                          have e10 := f10 (hD 10 rfl)
                          clear f0 f1 f2 f3 f4 f5 f6 f7 f8 f9 f10
                          obtain ⟨ρ2, hρ⟩ : ∃ ρ2, ρ1 = upd (mix [98, 99, 100, 101, 102, 103, 104, 105, 106, 107, 97] ρ2 _) 97 (.bool false) := ⟨ρ1, upd_of (mix_of (ds := [98, 99, 100, 101, 102, 103, 104, 105, 106, 107, 97]) hf) e10⟩
                          clear hf hD e10
                          subst hρ
                          refine W_condF rfl ?_
                          refine W_region ?_
                          refine RW_op (L_move (V := .slice a3 R.length c3) rfl ?_)
                          refine RW_op (L_sl (l := 1) (h := R.length) (m := c3) (n' := (R.drop 1).length) UDR_61 SA_67.1 (hvia _ (hs.rd 7 rfl)) rfl (.inr ⟨_, _, rfl, rfl⟩) (.inl ⟨rfl, rfl⟩) (.inl ⟨rfl, rfl⟩) (by omega) (by omega) (Nat.le_trans (show R.length ≤ R.length by omega) (Rd.roomM (hvia _ (hs.rd 7 rfl)))) (Nat.le_refl _) (by simp only [List.length_take, List.length_drop] <;> omega) ?_)
                          refine RW_op (L_assign (V := .slice (sla a3 1 c3 2) ((R.drop 1).length) (c3 - 1)) rfl ?_)
                          refine RW_nil ?_
                          refine W_region ?_
                          refine RW_op (L_add (a := (j3 : Int)) (b := 1) (c := (j3 : Int) + 1) rfl rfl (wr_i64 (by omega) (by omega)) ?_)
                          refine RW_op (L_move (V := .int .i64 ((j3 : Int) + 1)) rfl ?_)
                          refine RW_nil ?_
                          refine ⟨_, ?_, _, j3 + 1, (sla a3 1 c3 2), c3 - 1, (R.drop 1), fd, upd_of (upd_of (upd_of (mix_of (ds := [4, 10, 13, 15, 77, 78, 79, 80, 81, 82, 83, 84, 85, 86, 87, 88, 89, 90, 91, 92, 93, 94, 95, 96, 97, 98, 99, 100, 101, 102, 103, 104, 105, 106, 107, 108]) (by repeat (first | exact Agr.refl _ _ | refine Agr.upd ?_ rfl | refine Agr.mix ?_ rfl))) rfl) rfl) rfl, (by omega), hR4, (by rw [← fdL_next hfd (by omega)]; unfold fdF; rw [if_neg c50]), (fun w' h => Rd.dropM (hvia w' h) 1 (by omega) _ (by rw [List.length_drop])), rfl, hs.take 8⟩
                          omega
                    ·
                      replace c46 := of_decide_eq_false c46
                      refine W_exit ?_
                      refine W_seq ?_
                      have hR0 := rest_end hR hvf (by omega)
                      have hfd2 : fd = true := by rw [hfd, take_all (by omega), hhd2]; exact hvd
                      refine W_region ?_
                      refine RW_op (opW_to (V := .bool fd) (V' := .bool true) (L_move (V := .bool fd) rfl ⟨rfl, rfl⟩) (congrArg Value.bool (hfd2)) ?_)
                      refine RW_op (L_move (V := .bool true) rfl ?_)
                      refine RW_gy rfl (L_move (V := .slice a3 R.length c3) rfl ?_)
                      refine RW_gy rfl (L_lenR (n := R.length) UD_61 (hvia _ (hs.rd 7 rfl)) (by simp) rfl ?_)
                      refine RW_gy rfl (opW_to (V := .bool (decide (((R.length : Nat) : Int) = 0))) (V' := .bool true) (L_eql rfl rfl ⟨rfl, rfl⟩) (congrArg Value.bool (decide_eq_true (by omega))) ?_)
                      refine RW_op (L_pick (V := .bool true) rfl rfl ?_)
                      refine RW_op (L_move (V := .bool true) rfl ?_)
                      refine RW_gy rfl (L_fieldAddr FA_63_2 rfl ?_)
                      refine RW_gy rfl (L_ld (V := .bool ((viewP l o.cart).out)) S1_4 hs 2 rfl rfl rfl ?_)
                      refine RW_gy rfl (L_fieldAddr FA_63_2 rfl ?_)
                      refine RW_gy rfl (L_ld (V := .bool ((viewP (l ++ [o]) o.cart).out)) S1_4 hs 6 rfl rfl rfl ?_)
                      refine RW_gy rfl (opW_to (V := .bool (((viewP l o.cart).out) == ((viewP (l ++ [o]) o.cart).out))) (V' := .bool true) (L_eqb UDR_4 rfl rfl ⟨rfl, rfl⟩) (congrArg Value.bool (by rw [hvo]; exact beqT rfl)) ?_)
                      refine RW_op (L_pick (V := .bool true) rfl rfl ?_)
                      refine RW_op (L_move (V := .bool true) rfl ?_)
                      refine RW_gy rfl (L_fieldAddr FA_63_3 rfl ?_)
                      refine RW_gy rfl (L_ld (V := .int .u32 ((viewP (l ++ [o]) o.cart).tick)) S1_22 hs 6 rfl rfl rfl ?_)
                      refine RW_gy rfl (L_fieldAddr FA_63_3 rfl ?_)
                      refine RW_gy rfl (L_ld (V := .int .u32 ((viewP l o.cart).tick)) S1_22 hs 2 rfl rfl rfl ?_)
                      refine RW_gy rfl (L_fieldAddr FA_59_5 rfl ?_)
                      refine RW_gy rfl (L_ld (V := .int .u32 o.tick) S1_22 hs 0 rfl rfl rfl ?_)
                      refine RW_gy rfl (L_max rfl rfl ?_)
                      refine RW_gy rfl (opW_to (V := .bool (decide ((viewP (l ++ [o]) o.cart).tick = max ((viewP l o.cart).tick) o.tick))) (V' := .bool true) (L_eql rfl rfl ⟨rfl, rfl⟩) (congrArg Value.bool (decide_eq_true hvt)) ?_)
                      refine RW_op (L_pick (V := .bool true) rfl rfl ?_)
                      refine RW_op (L_assign (V := .bool true) rfl ?_)
                      refine RW_nil ?_
                      refine W_ret ?_
                      refine ⟨_, res_one (V := .bool true) Try.results10 rfl, ?_⟩
                      refine ⟨congrArg Ending.returned ?_, hs.take 0⟩
                      rfl
end Tf
end Go.Proofs
namespace Go.Proofs
open Go.Shelf
def Try.sortD_ren : Go.Shelf.Ren := ⟨fun | 6 => 64 | 15 => 81 | 14 => 80 | 28 => 98 | 29 => 99 | 20 => 90 | 21 => 91 | 22 => 92 | 23 => 93 | 24 => 94 | 25 => 95 | 26 => 96 | 27 => 97 | 46 => 111 | 47 => 112 | 48 => 113 | 49 => 114 | 50 => 115 | 57 => 120 | n => n, fun | 22 => 25 | 24 => 34 | 25 => 88 | 3 => 3 | 39 => 119 | 0 => 0 | 53 => 22 | 55 => 54 | 4 => 4 | 46 => 130 | 45 => 129 | 50 => 134 | 5 => 5 | 9 => 9 | 66 => 145 | 70 => 149 | 76 => 153 | 77 => 154 | n => n, fun | n => n⟩
theorem Try.sortD : Go.Proofs.SlLaysF0.n6 Try.prog Try.sortD_ren := {
  mixed := by kernel_rfl
  f6 := ⟨Try.f64.name, by decide, Try.func64.trans (congrArg some (by kernel_rfl))⟩
  f14 := ⟨Try.f80.name, by decide, Try.func80.trans (congrArg some (by kernel_rfl))⟩
  f15 := Try.func81.trans (congrArg some (by kernel_rfl))
  f20 := ⟨Try.f90.name, by decide, Try.func90.trans (congrArg some (by kernel_rfl))⟩
  f21 := ⟨Try.f91.name, by decide, Try.func91.trans (congrArg some (by kernel_rfl))⟩
  f22 := ⟨Try.f92.name, by decide, Try.func92.trans (congrArg some (by kernel_rfl))⟩
  f23 := ⟨Try.f93.name, by decide, Try.func93.trans (congrArg some (by kernel_rfl))⟩
  f24 := ⟨Try.f94.name, by decide, Try.func94.trans (congrArg some (by kernel_rfl))⟩
  f25 := ⟨Try.f95.name, by decide, Try.func95.trans (congrArg some (by kernel_rfl))⟩
  f26 := ⟨Try.f96.name, by decide, Try.func96.trans (congrArg some (by kernel_rfl))⟩
  f27 := ⟨Try.f97.name, by decide, Try.func97.trans (congrArg some (by kernel_rfl))⟩
  f28 := Try.func98.trans (congrArg some (by kernel_rfl))
  f29 := Try.func99.trans (congrArg some (by kernel_rfl))
  f46 := ⟨Try.f111.name, by decide, Try.func111.trans (congrArg some (by kernel_rfl))⟩
  f47 := Try.func112.trans (congrArg some (by kernel_rfl))
  f48 := Try.func113.trans (congrArg some (by kernel_rfl))
  f49 := ⟨Try.f114.name, by decide, Try.func114.trans (congrArg some (by kernel_rfl))⟩
  f50 := ⟨Try.f115.name, by decide, Try.func115.trans (congrArg some (by kernel_rfl))⟩
  f57 := ⟨Try.f120.name, by decide, Try.func120.trans (congrArg some (by kernel_rfl))⟩
  t0 := Try.underlying0
  a0 := Try.isAgg0
  z0 := Try.sizeOf0
  v0 := Try.zeroValue0
  t3 := Try.underlying3
  a3 := Try.isAgg3
  z3 := Try.sizeOf3
  v3 := Try.zeroValue3
  t4 := Try.underlying4
  a4 := Try.isAgg4
  z4 := Try.sizeOf4
  v4 := Try.zeroValue4
  t5 := Try.underlying5
  a5 := Try.isAgg5
  z5 := Try.sizeOf5
  v5 := Try.zeroValue5
  t9 := Try.underlying9
  a9 := Try.isAgg9
  z9 := Try.sizeOf9
  v9 := Try.zeroValue9
  t22 := Try.underlying25
  a22 := Try.isAgg25
  z22 := Try.sizeOf25
  v22 := Try.zeroValue25
  t25 := Try.underlying88
  a25 := Try.isAgg88
  z25 := Try.sizeOf88
  v25 := Try.zeroValue88
  t39 := Try.underlying119
  a39 := Try.isAgg119
  z39 := Try.sizeOf119
  v39 := Try.zeroValue119
  t45 := Try.underlying129
  a45 := Try.isAgg129
  z45 := Try.sizeOf129
  v45 := Try.zeroValue129
  t46 := Try.underlying130
  a46 := Try.isAgg130
  z46 := Try.sizeOf130
  v46 := Try.zeroValue130
  t50 := Try.underlying134
  a50 := Try.isAgg134
  z50 := Try.sizeOf134
  v50 := Try.zeroValue134
  t53 := Try.underlying22
  a53 := Try.isAgg22
  z53 := Try.sizeOf22
  v53 := Try.zeroValue22
  t55 := Try.underlying54
  a55 := Try.isAgg54
  z55 := Try.sizeOf54
  v55 := Try.zeroValue54
  t66 := Try.underlying145
  a66 := Try.isAgg145
  z66 := Try.sizeOf145
  v66 := Try.zeroValue145
  t70 := Try.underlying149
  a70 := Try.isAgg149
  z70 := Try.sizeOf149
  v70 := Try.zeroValue149
  t76 := Try.underlying153
  a76 := Try.isAgg153
  z76 := Try.sizeOf153
  v76 := Try.zeroValue153
  t77 := Try.underlying154
  a77 := Try.isAgg154
  z77 := Try.sizeOf154
  v77 := Try.zeroValue154 }
end Go.Proofs
namespace Go.Proofs.Ytnanhhiofnohbaa
open Go.Vx Go.Sort Go.Proofs
theorem lenU : LenC Try.prog 81 := fun w n hn => by
  have h := Any.bits_Len (SlLaysF0.n15.bits (P := Try.prog) (ρ := Try.sortD_ren) { Try.sortD with }) (n : Int) w (by omega) (by omega)
  rw [Int.toNat_natCast, bitLen_eq _ (by omega)] at h
  exact h.mono fun e w' ⟨he, hw⟩ => by subst hw; exact ⟨he, Own.start _⟩
theorem xorU : XorC Try.prog 113 145 := fun w S rb X hX hR hlt => xor_ok (P := Try.prog) (ρ := Try.sortD_ren) { Try.sortD with } 145 w S rb X hX hR hlt
theorem powU : PowC Try.prog 112 := fun w n hn => pow_ok (P := Try.prog) (ρ := Try.sortD_ren) { Try.sortD with } w n hn
theorem sortsU : SortI Try.prog 76 .u16 57 := Ts.sort_ok xorU powU lenU
end Go.Proofs.Ytnanhhiofnohbaa
namespace Go.Proofs.Ytnanhhiofnohbaa
open Go.RowKit Go.Vx
theorem Try.own : ownKnob Try.prog.godebug = none := by kernel_rfl
theorem Try.laidOut : laidOutB Try.prog = true := by kernel_rfl
theorem O24 : OpenT Try.prog 24 vc VecOk := O_vec Try.underlying24 Try.underlying22 (by kernel_rfl) (by kernel_rfl)
theorem O34 : OpenT Try.prog 34 dc DotOk := O_dot Try.underlying34 rfl rfl Try.underlying5 Try.underlying22 (by kernel_rfl) (by kernel_rfl) (by kernel_rfl)
end Go.Proofs.Ytnanhhiofnohbaa
namespace Go.Proofs.Ytnanhhiofnohbaa
open Go.RowKit Go.Vx
theorem O59 : OpenT Try.prog 59 oc OpnOk := O_opn Try.underlying59 rfl rfl O34 O24 Try.underlying5 Try.underlying57 Try.underlying57 Try.underlying57 Try.underlying22 (by kernel_rfl) (by kernel_rfl)
end Go.Proofs.Ytnanhhiofnohbaa
